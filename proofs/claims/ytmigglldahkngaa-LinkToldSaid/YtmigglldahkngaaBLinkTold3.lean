-- Several texts in one, without what the law does not use (wip/tools/bundle.py).
import Derived.Test.YtmigglldahkngaaBLinkTold2

section
/- digest's Put and Sum, walked, over a table that may be. -/
namespace Go.Proofs.Ytmigglldahkngaa.XSum
open Go.RowKit Go.Proofs.YtmigglldahkngaaW.PrintWords Go.Proofs.YtmigglldahkngaaW.PrintLast Go.Proofs.YtmigglldahkngaaW.PrintMore Go.Proofs.Ytmigglldahkngaa.PA Go.Proofs.Ytmigglldahkngaa.XMem Go.Proofs.Ytmigglldahkngaa.XPut Go.Proofs.Ytmigglldahkngaa.XBuilder
open Go.Proofs.Ytmigglldahkngaa.XMay (mayB numsB)
open Go.Proofs.Ytmigglldahkngaa.XIdent (isB)
open Go.Proofs.Ytmigglldahkngaa.XGen (wrap_succ getD_lt drop_get)
set_option linter.unusedVariables false
set_option linter.unusedSimpArgs false
abbrev Se := S72
abbrev kSe : Kd Se := k72
def rowB (x : Se) : ByteArray := (nameP x.f0).1 ++ (PV x.f1.f0 x.f1.f1 x.f1.f2 x.f1.f3).1
def putB (l : List Se) : ByteArray := P (l.length : Int) ++ cat (l.map rowB)
theorem rowB_size (x : Se) : (nameP x.f0).1.size ≤ 26 ∧ (PV x.f1.f0 x.f1.f1 x.f1.f2 x.f1.f3).1.size ≤ 60 := by
 constructor
 ·unfold nameP
  split
  ·rename_i h
   have h1 := isB_size h
   have h2 := P_le (x.f0.size : Int)
   rw [X_size]
   omega
  ·exact Nat.zero_le _
 ·unfold PV
  split
  ·rename_i h
   obtain ⟨_, _, _, _, _, _, h7⟩ := may_nums h
   have h1 := P_le x.f1.f2
   have h2 := P_le (x.f1.f3.size : Int)
   rw [Vb_size]
   omega
  ·exact Nat.zero_le _
theorem putB_size (l : List Se) (n : Nat) : (P (n : Int) ++ cat (l.map rowB)).size ≤ 10 + 86 * l.length := by
 rw [XBytes.app_size]
 have h1 := P_le (n : Int)
 have h2 := cat_size (l.map rowB) 86 (fun a ha => by
  obtain ⟨x, _, rfl⟩ := List.mem_map.1 ha
  unfold rowB
  rw [XBytes.app_size]
  have := rowB_size x
  omega)
 rw [List.length_map] at h2
 omega
theorem bld_below {B b : Nat} {s : ByteArray} {w w' : World} (h : Bld B b s w) (hb : Below w.heap.size w w') : Bld B b s w' := by
 rcases h with ⟨h1, v, h2, h3, h4⟩ | ⟨h1, v, h2, h3, h4⟩
 ·exact .inl ⟨h1, v, blk_below h2 hb, pw_own_below h3 hb, h4⟩
 ·exact .inr ⟨h1, v, blk_below h2 hb, pw_own_below h3 hb, h4⟩
theorem rd_at (l : List Se) (j : Nat) (h : j < l.length) : rd_T72 l (j : Int) = l[j] := by
 unfold rd_T72
 rw [Int.toNat_natCast, getD_lt l _ j h]
set_option maxHeartbeats 4000000 in
set_option maxRecDepth 100000 in
theorem put_calls (k0 : Nat) (l : List Se) (hl : l.length ≤ 40) (hm : digest_May.f k0 l = some true) (hz : ∀ x ∈ l, x.f0.size ≤ 9223372036854775807) (w : World) (v : Value) (h : Im kSe w v l) :
  Calls Try.prog 95 #[v] w fun e w' => e = .returned (.tuple #[.string (putB l), .bool true]) ∧ Below w.heap.size w w' := by
 obtain ⟨A, c, rfl, hc, hC⟩ := h.slice
 have HM := Aside0.mk (digest_May.calls k0 A c l true w hC hc hm)
 have HP := Aside0.mk (fun w => varint_Put.calls 20 (l.length : Int) (P (l.length : Int)) w (put_f 20 _ (by omega) (by omega) (by omega)))
 have HZ := Aside0.mk hz
 have HC := Aside0.mk hC
 have hl' : (l.length : Int) ≤ 40 := by omega
 have hu : IntKind.u64.wrap (l.length : Int) = (l.length : Int) := XVar.wrap_u64 _ (by omega) (by omega)
 clear hm hz h hC hc
 go_enter Try.func95, Try.ntmps95
 have HB : Below w.heap.size w w := Below.refl _ _
 go_wp2_with fail
 refine HM.out.mono ?_
 rintro e w1 ⟨rfl, hb⟩
 replace HB := below_step HB hb
 clear hb HM
 have hwz : w.heap.size ≤ w1.heap.size := HB.size
 go_upto_region 4 with (fail)
 generalize hg : World.alloc _ _ = w2
 have hbl : Bld w1.heap.size w1.heap.size ⟨#[]⟩ w2 := by rw [← hg]; exact Bld.new w1
 have hba := al_below hg
 have hz2 := hba.size
 replace HB := below_step HB hba
 clear hg hba
 generalize w1.heap.size = p at hbl hz2 hwz ⊢
 go_wp2_with fail
 refine (HP.out w2).mono ?_
 rintro e w3 ⟨rfl, hb⟩
 replace HB := below_step HB hb
 replace hbl := bld_below hbl hb
 have hz3 := Nat.le_trans hz2 hb.size
 clear hb HP hz2
 go_wp2_with fail
 refine (write_calls p p _ _ w3 hbl (by have := P_le (l.length : Int); show 0 + _ ≤ _; omega) hz3).mono ?_
 rintro e w4 ⟨rfl, hbl4, hb⟩
 rw [nil_app] at hbl4
 replace HB := HB.trans (hb.mono hwz)
 have hz4 := Nat.le_trans hz3 hb.size
 clear hb hbl hz3
 have HL := Aside0.mk (show Bld p p (P (l.length : Int) ++ cat ((l.take 0).map rowB)) w4 by rw [List.take_zero]; show Bld p p (_ ++ (⟨#[]⟩ : ByteArray)) w4; rw [app_nil]; exact hbl4)
 have HBr := Aside0.mk HB
 have HZr := Aside0.mk hz4
 clear hbl4 HB hz4
 go_wp2
 go_loopw [21] (fun x wr => ∃ k : Nat, x = .int .i64 k ∧ k ≤ l.length ∧ Aside0 (Bld p p (P (l.length : Int) ++ cat ((l.take k).map rowB)) wr) ∧ Aside0 (Below w.heap.size w wr) ∧ Aside0 (p ≤ wr.heap.size)) (fun x _ => l.length - (intOf x).toNat)
 case atStart => exact ⟨0, rfl, Nat.zero_le _, HL, HBr, HZr⟩
 case round =>
  clear HL HBr HZr
  obtain ⟨k, rfl, hk, hbl, hbr, hzr⟩ := hrel
  have k0 : (0 : Int) ≤ (k : Int) := by omega
  have k1 : (k : Int) ≤ 40 := by omega
  by_cases hlt : k < l.length
  ·have k2 : (k : Int) < (l.length : Int) := by omega
   obtain ⟨ad, he, h0, h1, h2, h3, h4⟩ := at_T72 (Kd.C_below HC.out hbr.out) (k : Int) (by omega) (by omega)
   subst he
   rw [Int.toNat_natCast] at h0 h1 h2 h3 h4
   rw [rd_at l k hlt] at h0 h1 h2 h3 h4
   have hx := HZ.out l[k] (List.getElem_mem hlt)
   have hnp := put_n 20 l[k].f0 hx (by omega)
   have hvp := put_v 20 l[k].f1.f0 l[k].f1.f1 l[k].f1.f2 l[k].f1.f3 (by omega)
   have hrow : P (l.length : Int) ++ cat ((l.take (k + 1)).map rowB) = (P (l.length : Int) ++ cat ((l.take k).map rowB)) ++ ((nameP l[k].f0).1 ++ (PV l[k].f1.f0 l[k].f1.f1 l[k].f1.f2 l[k].f1.f3).1) := by
    rw [List.take_succ_eq_append_getElem hlt, List.map_append, cat_app, XBytes.app_assoc]
    show _ ++ (_ ++ (rowB l[k] ++ (⟨#[]⟩ : ByteArray))) = _
    rw [app_nil]
    rfl
   have hs1 := rowB_size l[k]
   have hs2 := putB_size (l.take k) l.length
   rw [List.length_take] at hs2
   have HR := Aside0.mk hrow
   generalize l[k] = x at h0 h1 h2 h3 h4 hnp hvp HR hs1
   rcases hnq : nameP x.f0 with ⟨n1, n2⟩
   rcases hvq : PV x.f1.f0 x.f1.f1 x.f1.f2 x.f1.f3 with ⟨v1, v2⟩
   rw [hnq] at hnp HR hs1
   rw [hvq] at hvp HR hs1
   have HN := Aside0.mk (fun w => ident_Put.calls 20 x.f0 n1 n2 w hnp)
   have HV := Aside0.mk (fun w => value_Put.calls 20 x.f1.f0 x.f1.f1 x.f1.f2 x.f1.f3 v1 v2 w hvp)
   have hsz : n1.size + v1.size ≤ 90 := by have := hs1.1; have := hs1.2; simp only at *; omega
   have hsz' : (n1.size : Int) + (v1.size : Int) ≤ 90 := by omega
   have HS2 := Aside0.mk hs2
   clear hnq hvq hnp hvp hs1 hs2 hx hrow
   go_upto_region 8 with (fail)
   generalize hg : World.alloc _ _ = w5
   have hba := al_below hg
   have T6 := al_new hg
   have HB := below_step hbr.out hba
   have hb5 := bld_below hbl.out hba
   have hz5 := Nat.le_trans hzr.out hba.size
   clear hg hba hbr hbl hzr h0 h1 h2 h3 h4
   generalize wr.heap.size = p6 at T6 ⊢
   have r0 := (blk_cell T6 0).trans rfl
   have r1 := (blk_cell T6 1).trans rfl
   have r2 := (blk_cell T6 2).trans rfl
   have r3 := (blk_cell T6 3).trans rfl
   have r4 := (blk_cell T6 4).trans rfl
   go_wp2_with fail
   refine (HN.out w5).mono ?_
   rintro e w6 ⟨rfl, hb⟩
   replace HB := below_step HB hb
   replace hb5 := bld_below hb5 hb
   replace hz5 := Nat.le_trans hz5 hb.size
   replace r1 := pw_cell_below hb r1
   replace r2 := pw_cell_below hb r2
   replace r3 := pw_cell_below hb r3
   replace r4 := pw_cell_below hb r4
   clear hb HN r0 T6
   go_wp2_with fail
   refine (HV.out w6).mono ?_
   rintro e w7 ⟨rfl, hb⟩
   replace HB := below_step HB hb
   replace hb5 := bld_below hb5 hb
   replace hz5 := Nat.le_trans hz5 hb.size
   clear hb HV r1 r2 r3 r4
   go_wp2_with fail
   refine (write_calls p p _ (n1 ++ v1) w7 hb5 (by have := HS2.out; have : (n1 ++ v1).size = n1.size + v1.size := XBytes.app_size ..; omega) hz5).mono ?_
   rintro e w8 ⟨rfl, hbl8, hb⟩
   rw [← HR.out] at hbl8
   have HL := Aside0.mk hbl8
   have HBr := Aside0.mk (HB.trans (hb.mono hwz))
   have HZr := Aside0.mk (Nat.le_trans hz5 hb.size)
   clear hb hbl8 HB hb5 hz5 HS2
   go_wp2
   go_roundw
   case rel => exact ⟨k + 1, by go_num, by omega, HL, HBr, HZr⟩
   case measure => simp [intOf]; omega
  ·obtain rfl : k = l.length := by omega
   have k2 : (l.length : Int) ≤ (l.length : Int) := by omega
   have hb5 := hbl.out
   rw [List.take_length] at hb5
   have HB := hbr.out
   have hz5 := hzr.out
   clear hbl hbr hzr
   go_wp2_with fail
   refine (string_calls p p (putB l) wr hb5 hz5).mono ?_
   rintro e w8 ⟨rfl, hb⟩
   go_wp2
   go_ret2
   exact ⟨rfl, HB.trans (hb.mono hwz)⟩
/-- One step of the sum. -/
def fstep (h b : Int) : Int := IntKind.u64.wrap ((Go.bits .xor .u64 h (IntKind.u64.wrap b)) * 1099511628211)
def fnv (l : List Int) : Int := l.foldl fstep 14695981039346656037
def sumB (l : List Se) : Int := fnv (bytesOf (putB l))
set_option maxHeartbeats 4000000 in
set_option maxRecDepth 100000 in
theorem sum_calls (k0 : Nat) (l : List Se) (hl : l.length ≤ 40) (hm : digest_May.f k0 l = some true) (hz : ∀ x ∈ l, x.f0.size ≤ 9223372036854775807) (w : World) (v : Value) (h : Im kSe w v l) :
  Calls Try.prog 89 #[v] w fun e w' => e = .returned (.int .u64 (sumB l)) ∧ Below w.heap.size w w' := by
 have HP := Aside0.mk (put_calls k0 l hl hm hz w v h)
 have hs := putB_size l l.length
 have HS := Aside0.mk (show sumB l = fnv (bytesOf (putB l)) from rfl)
 have hs' : (putB l).size ≤ 5000 := by show (P (l.length : Int) ++ cat (l.map rowB)).size ≤ _; omega
 generalize sumB l = z at HS ⊢
 generalize putB l = s at HP HS hs'
 clear hm hz h hs hl
 go_enter Try.func89, Try.ntmps89
 have HB : Below w.heap.size w w := Below.refl _ _
 go_wp2_with fail
 refine HP.out.mono ?_
 rintro e w1 ⟨rfl, hb⟩
 replace HB := below_step HB hb
 clear hb HP
 have kb := print_bytes (P := Try.prog) 9 119 5 Try.underlying9 Try.underlying119 Try.underlying5 s w1
 have KR := Aside0.mk (show Kd.C (Kd.int .u8) (Lib.bytesWorld w1 5 s) (some ⟨w1.heap.size, 0, none⟩) s.size (bytesOf s) from Kd.C_of_reads (bytes_reads w1 5 s (by omega)))
 have HB2 := Aside0.mk (bytes_below HB HB.size 5 s)
 generalize Lib.bytesWorld w1 5 s = W at kb KR HB2
 generalize grownCap w1 s.size 0 5 = cp at kb
 generalize w1.heap.size = g at kb KR
 have hn := bytesOf_length s
 have hsi : (s.size : Int) ≤ 5000 := by omega
 have HN := Aside0.mk hn
 clear hn hs' HB
 have HI := Aside0.mk (show (14695981039346656037 : Int) = fnv ((bytesOf s).take 0) from rfl)
 have HB0 := Aside0.mk (Below.refl W.heap.size W)
 go_wp2
 go_loopw [5, 16] (fun h x wr => ∃ k : Nat, x = .int .i64 k ∧ k ≤ s.size ∧ h = .int .u64 (fnv ((bytesOf s).take k)) ∧ Aside0 (Below W.heap.size W wr)) (fun _ x _ => s.size - (intOf x).toNat)
 case atStart => exact ⟨0, rfl, Nat.zero_le _, rfl, HB0⟩
 case round =>
  clear HI HB0
  obtain ⟨k, rfl, hk, rfl, hbr⟩ := hrel
  have k0 : (0 : Int) ≤ (k : Int) := by omega
  have k1 : (k : Int) ≤ 5000 := by omega
  by_cases hlt : k < s.size
  ·have k2 : (k : Int) < (s.size : Int) := by omega
   have hlt2 : k < (bytesOf s).length := by have := HN.out; omega
   obtain ⟨ad, he, h0⟩ := Kd.at_int (Kd.C_below KR.out hbr.out) (k : Int) (by omega) (by omega)
   injection he with he
   subst he
   rw [Int.toNat_natCast, add_plain] at h0
   have hst : fnv ((bytesOf s).take (k + 1)) = fstep (fnv ((bytesOf s).take k)) (rd (bytesOf s) (k : Int)) := by
    unfold fnv
    rw [List.take_succ_eq_append_getElem hlt2, List.foldl_append]
    have : rd (bytesOf s) (k : Int) = (bytesOf s)[k] := by unfold rd; rw [Int.toNat_natCast]; exact getD_lt _ _ k hlt2
    rw [this]
    rfl
   have HST := Aside0.mk hst
   clear hst hlt2
   generalize rd (bytesOf s) (k : Int) = b at h0 HST
   generalize fnv ((bytesOf s).take k) = h at HST ⊢
   unfold fstep at HST
   go_wp2
   go_roundw
   case rel => exact ⟨k + 1, by go_num, by omega, by rw [HST.out], hbr⟩
   case measure => simp [intOf]; omega
  ·obtain rfl : k = s.size := by omega
   have k2 : (s.size : Int) ≤ (s.size : Int) := by omega
   have hz : fnv ((bytesOf s).take s.size) = z := by rw [← HN.out, List.take_length]; exact HS.out.symm
   rw [hz]
   have HBz := below_step HB2.out hbr.out
   go_wp2
   go_ret
   exact ⟨rfl, HBz⟩
end Go.Proofs.Ytmigglldahkngaa.XSum
end

section
-- Written by a program of this session (wip/tools/xprint.py), which drives the kit's print.
namespace Go.Proofs.Ytmigglldahkngaa.PA
open Go.RowKit Go.Proofs.YtmigglldahkngaaW.PrintWords Go.Proofs.YtmigglldahkngaaW.PrintLast Go.Proofs.YtmigglldahkngaaW.PrintMore Go.Proofs.Ytmigglldahkngaa.XQuiet
attribute [local go_sem] max2_int min2_int max_two min_two   -- for this text's walks alone
set_option linter.unusedVariables false
set_option linter.unusedSimpArgs false

/-! ### rollcallref18_May: function 16 -/
def rollcallref18_May.f (k : Nat) (a0_0 : Int) (a0_1 : Int) (a0_2 : Int) (a0_3 : Int) (a1_0 : Int) (l1_1 : List (S34)) (a1_2 : Bool) (a1_3 : Int) (a1_4 : Int) (a1_5 : Bool) (a1_6 : Int) : Option (Bool) := (rollcallref16_One.f a0_0 a0_1 a0_2 a0_3 a1_3 a1_4).bind fun t270 => (if t270 = true then (if a1_0 < 0 then (some false) else (if a1_0 > 1099511627776 then (some false) else ((rollcallref17_May.f k l1_1 a1_2 a0_0).bind fun t271 => (if t271 = true then (if a1_2 = true then (some false) else ((rollcallref16_Time.f a1_6).bind fun t272 => (if t272 = true then (if a1_5 = true then (some ((l1_1.length : Int) == 0)) else (some true)) else (some false)))) else (some false))))) else (some false))
set_option maxHeartbeats 8000000 in
set_option maxRecDepth 100000 in
theorem rollcallref18_May.calls (k : Nat) (c0 c1 c2 c3 s : Int) (A : Option Addr) (cc : Nat) (q : List (S34)) (lat : Bool) (tok at_ : Int) (sn : Bool) (dg : Int) (r : Bool) (w : World) (hr : Kd.C k34 w A q.length q) (hc : q.length ≤ cc) (h : rollcallref18_May.f k c0 c1 c2 c3 s q lat tok at_ sn dg = some r) :
  Calls Try.prog 16 #[.agg #[.int .i64 c0, .int .i64 c1, .int .i64 c2, .int .i64 c3], .agg #[.int .i64 s, .slice A q.length cc, .bool lat, .int .i64 tok, .int .i64 at_, .bool sn, .int .i64 dg]] w fun e w' => e = .returned (.bool r) ∧ Below w.heap.size w w' := by
 unfold rollcallref18_May.f at h
 have S := Go.Proofs.Ytmigglldahkngaa.XSt.Kn.start (fun _ => True) w
 replace S := S.arg (d := k34) (e := 0) (show Kd.V k34 0 w 0 (fun _ => True) (.slice A q.length cc) q from ⟨A, cc, rfl, hc, Kd.F_mono (Kd.C_F (show Kd.Heap k34 from ⟨fun _ hK => by obtain rfl := k34_open hK; exact k34_mk _ _⟩) hr) (fun _ _ => trivial)⟩)
 have hm63 : (q.length : Int) ≤ 9223372036854775807 := by have := hr.2.1; omega
 clear hr hc
 obtain ⟨w0, hw0⟩ : ∃ x : World, x = w := ⟨_, rfl⟩
 have HW := Aside0.mk hw0
 clear hw0
 go_enter Try.func16, Try.ntmps16
 go_upto_region 1 with (fail)
 generalize hg : World.alloc _ _ = w1
 replace S := S.new2 hg
 clear hg
 generalize w.heap.size + 1 = p3 at S ⊢
 generalize w.heap.size = p2 at S ⊢
 replace S : Go.Proofs.Ytmigglldahkngaa.XSt.Kn (fun _ => True) w [(p3, .cells #[.int .i64 s, .slice A q.length cc, .bool lat, .int .i64 tok, .int .i64 at_, .bool sn, .int .i64 dg] 30 (0, 0)), (p2, .cells #[.int .i64 c0, .int .i64 c1, .int .i64 c2, .int .i64 c3] 23 (0, 0))] Go.Proofs.Ytmigglldahkngaa.XSt.nil Go.Proofs.Ytmigglldahkngaa.XSt.tt [Go.Proofs.Ytmigglldahkngaa.XSt.V k34 (.slice A q.length cc) q] w1 := S
 have l_0 : w1.cell? ⟨p3, 0, none⟩ = some (.int .i64 s) := S.cell 0 0 rfl rfl
 have l_1 : w1.cell? ⟨p3, 1, none⟩ = some (.slice A q.length cc) := S.cell 0 1 rfl rfl
 have l_2 : w1.cell? ⟨p3, 2, none⟩ = some (.bool lat) := S.cell 0 2 rfl rfl
 have l_3 : w1.cell? ⟨p3, 3, none⟩ = some (.int .i64 tok) := S.cell 0 3 rfl rfl
 have l_4 : w1.cell? ⟨p3, 4, none⟩ = some (.int .i64 at_) := S.cell 0 4 rfl rfl
 have l_5 : w1.cell? ⟨p3, 5, none⟩ = some (.bool sn) := S.cell 0 5 rfl rfl
 have l_6 : w1.cell? ⟨p3, 6, none⟩ = some (.int .i64 dg) := S.cell 0 6 rfl rfl
 have c_0 : w1.cell? ⟨p2, 0, none⟩ = some (.int .i64 c0) := S.cell 1 0 rfl rfl
 have c_1 : w1.cell? ⟨p2, 1, none⟩ = some (.int .i64 c1) := S.cell 1 1 rfl rfl
 have c_2 : w1.cell? ⟨p2, 2, none⟩ = some (.int .i64 c2) := S.cell 1 2 rfl rfl
 have c_3 : w1.cell? ⟨p2, 3, none⟩ = some (.int .i64 c3) := S.cell 1 3 rfl rfl
 rcases hX : rollcallref16_One.f c0 c1 c2 c3 tok at_ with _ | b1
 ·rw [hX] at h; exact absurd h (by simp)
 rw [hX] at h
 simp only [Option.bind_some] at h
 have HX_b1 := Aside0.mk hX
 clear hX
 go_wp2_with fail
 refine (rollcallref16_One.calls c0 c1 c2 c3 tok at_ b1 _ HX_b1.out).mono ?_
 rintro e w2 ⟨rfl, hb⟩
 replace S := S.below (by first | exact hb | exact hb.below)
 clear l_0 l_1 l_2 l_3 l_4 l_5 l_6 c_0 c_1 c_2 c_3 hb
 have l_0 : w2.cell? ⟨p3, 0, none⟩ = some (.int .i64 s) := S.cell 0 0 rfl rfl
 have l_1 : w2.cell? ⟨p3, 1, none⟩ = some (.slice A q.length cc) := S.cell 0 1 rfl rfl
 have l_2 : w2.cell? ⟨p3, 2, none⟩ = some (.bool lat) := S.cell 0 2 rfl rfl
 have l_3 : w2.cell? ⟨p3, 3, none⟩ = some (.int .i64 tok) := S.cell 0 3 rfl rfl
 have l_4 : w2.cell? ⟨p3, 4, none⟩ = some (.int .i64 at_) := S.cell 0 4 rfl rfl
 have l_5 : w2.cell? ⟨p3, 5, none⟩ = some (.bool sn) := S.cell 0 5 rfl rfl
 have l_6 : w2.cell? ⟨p3, 6, none⟩ = some (.int .i64 dg) := S.cell 0 6 rfl rfl
 have c_0 : w2.cell? ⟨p2, 0, none⟩ = some (.int .i64 c0) := S.cell 1 0 rfl rfl
 have c_1 : w2.cell? ⟨p2, 1, none⟩ = some (.int .i64 c1) := S.cell 1 1 rfl rfl
 have c_2 : w2.cell? ⟨p2, 2, none⟩ = some (.int .i64 c2) := S.cell 1 2 rfl rfl
 have c_3 : w2.cell? ⟨p2, 3, none⟩ = some (.int .i64 c3) := S.cell 1 3 rfl rfl
 cases b1 with
 | false =>
  rw [if_neg (by simp)] at h
  obtain rfl := Option.some.inj h
  go_wp2
  go_ret
  exact ⟨rfl, S.bel⟩
 | true =>
  rw [if_pos rfl] at h
  by_cases e1 : s < 0
  ·rw [if_pos e1] at h
   obtain rfl := Option.some.inj h
   go_wp2
   go_ret
   exact ⟨rfl, S.bel⟩
  rw [if_neg e1] at h
  by_cases e2 : s > 1099511627776
  ·rw [if_pos e2] at h
   have e3 : (1099511627776 : Int) < s := e2
   have e4 : 0 ≤ s := by omega
   obtain rfl := Option.some.inj h
   go_wp2
   go_ret
   exact ⟨rfl, S.bel⟩
  rw [if_neg e2] at h
  have e1' : 0 ≤ s := by omega
  have e2' : s ≤ 1099511627776 := by omega
  clear e1 e2
  rcases hX : rollcallref17_May.f k q lat c0 with _ | b2
  ·rw [hX] at h; exact absurd h (by simp)
  rw [hX] at h
  simp only [Option.bind_some] at h
  have HX_b2 := Aside0.mk hX
  clear hX
  go_wp2_with fail
  refine (rollcallref17_May.calls k A cc q lat c0 b2 _ (Kd.V_reads' (e := 0) (base := 0) (S.ft 0 rfl)).2.2 (Kd.V_reads' (e := 0) (base := 0) (S.ft 0 rfl)).2.1 HX_b2.out).mono ?_
  rintro e w3 ⟨rfl, hb⟩
  replace S := S.below (by first | exact hb | exact hb.below)
  clear l_0 l_1 l_2 l_3 l_4 l_5 l_6 c_0 c_1 c_2 c_3 hb
  have l_0 : w3.cell? ⟨p3, 0, none⟩ = some (.int .i64 s) := S.cell 0 0 rfl rfl
  have l_1 : w3.cell? ⟨p3, 1, none⟩ = some (.slice A q.length cc) := S.cell 0 1 rfl rfl
  have l_2 : w3.cell? ⟨p3, 2, none⟩ = some (.bool lat) := S.cell 0 2 rfl rfl
  have l_3 : w3.cell? ⟨p3, 3, none⟩ = some (.int .i64 tok) := S.cell 0 3 rfl rfl
  have l_4 : w3.cell? ⟨p3, 4, none⟩ = some (.int .i64 at_) := S.cell 0 4 rfl rfl
  have l_5 : w3.cell? ⟨p3, 5, none⟩ = some (.bool sn) := S.cell 0 5 rfl rfl
  have l_6 : w3.cell? ⟨p3, 6, none⟩ = some (.int .i64 dg) := S.cell 0 6 rfl rfl
  have c_0 : w3.cell? ⟨p2, 0, none⟩ = some (.int .i64 c0) := S.cell 1 0 rfl rfl
  have c_1 : w3.cell? ⟨p2, 1, none⟩ = some (.int .i64 c1) := S.cell 1 1 rfl rfl
  have c_2 : w3.cell? ⟨p2, 2, none⟩ = some (.int .i64 c2) := S.cell 1 2 rfl rfl
  have c_3 : w3.cell? ⟨p2, 3, none⟩ = some (.int .i64 c3) := S.cell 1 3 rfl rfl
  cases b2 with
  | false =>
   rw [if_neg (by simp)] at h
   obtain rfl := Option.some.inj h
   go_wp2
   go_ret
   exact ⟨rfl, S.bel⟩
  | true =>
   rw [if_pos rfl] at h
   cases lat with
   | true =>
    rw [if_pos rfl] at h
    obtain rfl := Option.some.inj h
    go_wp2
    go_ret
    exact ⟨rfl, S.bel⟩
   | false =>
    rw [if_neg (by simp)] at h
    rcases hX : rollcallref16_Time.f dg with _ | b3
    ·rw [hX] at h; exact absurd h (by simp)
    rw [hX] at h
    simp only [Option.bind_some] at h
    have HX_b3 := Aside0.mk hX
    clear hX
    go_wp2_with fail
    refine (rollcallref16_Time.calls dg b3 _ HX_b3.out).mono ?_
    rintro e w4 ⟨rfl, hb⟩
    replace S := S.below (by first | exact hb | exact hb.below)
    clear l_0 l_1 l_2 l_3 l_4 l_5 l_6 c_0 c_1 c_2 c_3 hb
    have l_0 : w4.cell? ⟨p3, 0, none⟩ = some (.int .i64 s) := S.cell 0 0 rfl rfl
    have l_1 : w4.cell? ⟨p3, 1, none⟩ = some (.slice A q.length cc) := S.cell 0 1 rfl rfl
    have l_2 : w4.cell? ⟨p3, 2, none⟩ = some (.bool false) := S.cell 0 2 rfl rfl
    have l_3 : w4.cell? ⟨p3, 3, none⟩ = some (.int .i64 tok) := S.cell 0 3 rfl rfl
    have l_4 : w4.cell? ⟨p3, 4, none⟩ = some (.int .i64 at_) := S.cell 0 4 rfl rfl
    have l_5 : w4.cell? ⟨p3, 5, none⟩ = some (.bool sn) := S.cell 0 5 rfl rfl
    have l_6 : w4.cell? ⟨p3, 6, none⟩ = some (.int .i64 dg) := S.cell 0 6 rfl rfl
    have c_0 : w4.cell? ⟨p2, 0, none⟩ = some (.int .i64 c0) := S.cell 1 0 rfl rfl
    have c_1 : w4.cell? ⟨p2, 1, none⟩ = some (.int .i64 c1) := S.cell 1 1 rfl rfl
    have c_2 : w4.cell? ⟨p2, 2, none⟩ = some (.int .i64 c2) := S.cell 1 2 rfl rfl
    have c_3 : w4.cell? ⟨p2, 3, none⟩ = some (.int .i64 c3) := S.cell 1 3 rfl rfl
    cases b3 with
    | false =>
     rw [if_neg (by simp)] at h
     obtain rfl := Option.some.inj h
     go_wp2
     go_ret
     exact ⟨rfl, S.bel⟩
    | true =>
     rw [if_pos rfl] at h
     cases sn with
     | false =>
      rw [if_neg (by simp)] at h
      obtain rfl := Option.some.inj h
      go_wp2
      go_ret
      exact ⟨rfl, S.bel⟩
     | true =>
      rw [if_pos rfl] at h
      obtain rfl := Option.some.inj h
      go_wp2
      go_ret
      exact ⟨rfl, S.bel⟩
/-! ### rollcallref17_Empty: function 47 -/
/-! ### rollcallref18_Quiet: function 18 -/
/-! ### rollcallref18_Ask: function 22 -/
/-! ### rollcallref17_Push: function 49 -/
/-! ### rollcallref18_Push: function 20 -/
/-! ### rollcallref05_Few: function 23 -/
def rollcallref05_Few.l0 : Nat → List (S72) → Int → Option (Bool)
 | 0, _, _ => none
 | k + 1, x0, x3 => if x3 < (x0.length : Int) then (if 0 ≤ x3 then (if (((rd_T72 x0 x3).f0).size : Int) > 60 then (some false) else (if (((rd_T72 x0 x3).f1.f3).size : Int) > 100 then (some false) else (rollcallref05_Few.l0 k x0 (wrap64 (x3 + 1))))) else (none)) else (some true)
def rollcallref05_Few.f (k : Nat) (l0 : List (S72)) : Option (Bool) := if (l0.length : Int) > 40 then (some false) else (rollcallref05_Few.l0 k l0 0)
set_option maxHeartbeats 8000000 in
set_option maxRecDepth 100000 in
theorem rollcallref05_Few.calls (k : Nat) (A0 : Option Addr) (c0 : Nat) (l0 : List (S72)) (r : Bool) (w : World) (hr0 : Kd.C k72 w A0 l0.length l0) (hc0 : l0.length ≤ c0) (h : rollcallref05_Few.f k l0 = some r) :
  Calls Try.prog 23 #[.slice A0 l0.length c0] w fun e w' => e = .returned (.bool r) ∧ Drawn0 w w' := by
 have HR0 := Aside0.mk hr0
 have HC0 := Aside0.mk hc0
 clear hr0 hc0
 have H : (if (l0.length : Int) > 40 then (some false) else (rollcallref05_Few.l0 k l0 0)) = some r := h
 clear h
 by_cases c2 : (l0.length : Int) > 40
 ·rw [if_pos c2] at H
  have c2b0 : decide (40 < (l0.length : Int)) = true := decide_eq_true c2
  have c2b1 : decide (40 < l0.length) = true := decide_eq_true (by omega)
  clear c2
  obtain rfl := Option.some.inj H
  go_enter Try.func23, Try.ntmps23
  go_wp2
  go_ret
  exact ⟨by first | rfl | (simp; done) | (simp [*]; done), by repeat (first | exact Drawn0.refl _ | apply Drawn0.step)⟩
 ·rw [if_neg c2] at H
  have c2b0 : decide (40 < (l0.length : Int)) = false := decide_eq_false c2
  have c2b1 : decide (40 < l0.length) = false := decide_eq_false (by omega)
  clear c2
  have H' := Aside0.mk H
  clear H
  go_enter Try.func23, Try.ntmps23
  go_wp2
  go_loopg [3] k (fun kq v3 w' => ∃ (x3_1 : Int), v3 = .int .i64 x3_1 ∧ Aside0 (rollcallref05_Few.l0 kq l0 x3_1 = some r) ∧ Aside0 (kq ≤ k) ∧ Drawn0 w w')
  case atStart => exact ⟨(0), (by first | rfl | (simp; done) | (simp [*]; done)), H', ⟨Nat.le_refl _⟩, by repeat (first | exact Drawn0.refl _ | apply Drawn0.step)⟩
  case round =>
   clear H'
   try clear c2
   try clear c2b0
   try clear c2b1
   try clear p2
   obtain ⟨x3_1, rfl, HA, HK1, ⟨m1, rfl⟩⟩ := hrel
   cases gk with
   | zero => exact absurd HA.out (by simp [rollcallref05_Few.l0])
   | succ k1 =>
    have H := HA.out
    clear HA
    simp only [rollcallref05_Few.l0] at H
    by_cases c3 : x3_1 < (l0.length : Int)
    ·rw [if_pos c3] at H
     have c3b0 : decide (x3_1 < (l0.length : Int)) = true := decide_eq_true c3
     clear c3
     by_cases c4 : 0 ≤ x3_1
     ·rw [if_pos c4] at H
      have c4b0 : decide (0 ≤ x3_1) = true := decide_eq_true c4
      clear c4
      by_cases c5 : (((rd_T72 l0 x3_1).f0).size : Int) > 60
      ·rw [if_pos c5] at H
       have c5b0 : decide (60 < (((rd_T72 l0 x3_1).f0).size : Int)) = true := decide_eq_true c5
       have c5b1 : decide (60 < ((rd_T72 l0 x3_1).f0).size) = true := decide_eq_true (by omega)
       clear c5
       obtain rfl := Option.some.inj H
       have p309 : 0 ≤ (x3_1 : Int) := of_decide_eq_true (by first | (with_reducible assumption) | assumption)
       have q309 : x3_1 < (l0.length : Int) := of_decide_eq_true (by first | (with_reducible assumption) | assumption)
       obtain ⟨ad309, e309, hx309_0, hx309_1, hx309_2, hx309_3, hx309_4⟩ := at_T72 HR0.out x3_1 p309 q309
       cases e309
       replace p309 := eq_true p309
       replace q309 := eq_true q309
       go_wp2
       go_ret
       exact ⟨by first | rfl | (simp; done) | (simp [*]; done), by repeat (first | exact Drawn0.refl _ | apply Drawn0.step)⟩
      ·rw [if_neg c5] at H
       have c5b0 : decide (60 < (((rd_T72 l0 x3_1).f0).size : Int)) = false := decide_eq_false c5
       have c5b1 : decide (60 < ((rd_T72 l0 x3_1).f0).size) = false := decide_eq_false (by omega)
       clear c5
       by_cases c6 : (((rd_T72 l0 x3_1).f1.f3).size : Int) > 100
       ·rw [if_pos c6] at H
        have c6b0 : decide (100 < (((rd_T72 l0 x3_1).f1.f3).size : Int)) = true := decide_eq_true c6
        have c6b1 : decide (100 < ((rd_T72 l0 x3_1).f1.f3).size) = true := decide_eq_true (by omega)
        clear c6
        obtain rfl := Option.some.inj H
        have p309 : 0 ≤ (x3_1 : Int) := of_decide_eq_true (by first | (with_reducible assumption) | assumption)
        have q309 : x3_1 < (l0.length : Int) := of_decide_eq_true (by first | (with_reducible assumption) | assumption)
        obtain ⟨ad309, e309, hx309_0, hx309_1, hx309_2, hx309_3, hx309_4⟩ := at_T72 HR0.out x3_1 p309 q309
        cases e309
        replace p309 := eq_true p309
        replace q309 := eq_true q309
        have p310 : 0 ≤ (x3_1 : Int) := of_decide_eq_true (by first | (with_reducible assumption) | assumption)
        have q310 : x3_1 < (l0.length : Int) := of_decide_eq_true (by first | (with_reducible assumption) | assumption)
        obtain ⟨ad310, e310, hx310_0, hx310_1, hx310_2, hx310_3, hx310_4⟩ := at_T72 HR0.out x3_1 p310 q310
        obtain rfl : ad309 = ad310 := (by injection e310)
        replace p310 := eq_true p310
        replace q310 := eq_true q310
        go_wp2
        go_ret
        exact ⟨by first | rfl | (simp; done) | (simp [*]; done), by repeat (first | exact Drawn0.refl _ | apply Drawn0.step)⟩
       ·rw [if_neg c6] at H
        have c6b0 : decide (100 < (((rd_T72 l0 x3_1).f1.f3).size : Int)) = false := decide_eq_false c6
        have c6b1 : decide (100 < ((rd_T72 l0 x3_1).f1.f3).size) = false := decide_eq_false (by omega)
        clear c6
        have H' := Aside0.mk H
        clear H
        have p309 : 0 ≤ (x3_1 : Int) := of_decide_eq_true (by first | (with_reducible assumption) | assumption)
        have q309 : x3_1 < (l0.length : Int) := of_decide_eq_true (by first | (with_reducible assumption) | assumption)
        obtain ⟨ad309, e309, hx309_0, hx309_1, hx309_2, hx309_3, hx309_4⟩ := at_T72 HR0.out x3_1 p309 q309
        cases e309
        replace p309 := eq_true p309
        replace q309 := eq_true q309
        have p310 : 0 ≤ (x3_1 : Int) := of_decide_eq_true (by first | (with_reducible assumption) | assumption)
        have q310 : x3_1 < (l0.length : Int) := of_decide_eq_true (by first | (with_reducible assumption) | assumption)
        obtain ⟨ad310, e310, hx310_0, hx310_1, hx310_2, hx310_3, hx310_4⟩ := at_T72 HR0.out x3_1 p310 q310
        obtain rfl : ad309 = ad310 := (by injection e310)
        replace p310 := eq_true p310
        replace q310 := eq_true q310
        go_wp2
        go_roundg k1
        case measure => have := HK1.out; omega
        case rel => exact ⟨(wrap64 (x3_1 + 1)), (by first | rfl | (simp; done) | (simp [*]; done)), H', ⟨by have := HK1.out; omega⟩, by repeat (first | exact Drawn0.refl _ | apply Drawn0.step)⟩
     ·rw [if_neg c4] at H
      exact absurd H (by simp)
    ·rw [if_neg c3] at H
     have c3b0 : decide (x3_1 < (l0.length : Int)) = false := decide_eq_false c3
     clear c3
     obtain rfl := Option.some.inj H
     go_wp2
     go_ret
     exact ⟨by first | rfl | (simp; done) | (simp [*]; done), by repeat (first | exact Drawn0.refl _ | apply Drawn0.step)⟩

/-! ### rollcallref03_Less: function 58 -/
def rollcallref03_Less.f (a0 : ByteArray) (a1 : ByteArray) : Option (Bool) := if (a0.size : Int) < (a1.size : Int) then (some true) else (if (a0.size : Int) = (a1.size : Int) then (some (Op.bytesLess a0.toList a1.toList)) else (some false))
set_option maxHeartbeats 8000000 in
set_option maxRecDepth 100000 in
theorem rollcallref03_Less.calls (a0 : ByteArray) (a1 : ByteArray) (r : Bool) (w : World) (h : rollcallref03_Less.f a0 a1 = some r) :
  Calls Try.prog 58 #[.string a0, .string a1] w fun e w' => e = .returned (.bool r) ∧ Drawn0 w w' := by
 have H : (if (a0.size : Int) < (a1.size : Int) then (some true) else (if (a0.size : Int) = (a1.size : Int) then (some (Op.bytesLess a0.toList a1.toList)) else (some false))) = some r := h
 clear h
 by_cases c3 : (a0.size : Int) < (a1.size : Int)
 ·rw [if_pos c3] at H
  have c3b0 : decide ((a0.size : Int) < (a1.size : Int)) = true := decide_eq_true c3
  have c3b1 : decide (a0.size < a1.size) = true := decide_eq_true (Int.ofNat_lt.mp c3)
  clear c3
  obtain rfl := Option.some.inj H
  go_enter Try.func58, Try.ntmps58
  go_wp2
  go_ret
  exact ⟨by first | rfl | (simp; done) | (simp [*]; done), by repeat (first | exact Drawn0.refl _ | apply Drawn0.step)⟩
 ·rw [if_neg c3] at H
  have c3b0 : decide ((a0.size : Int) < (a1.size : Int)) = false := decide_eq_false c3
  have c3b1 : decide (a0.size < a1.size) = false := decide_eq_false (fun h => c3 (Int.ofNat_lt.mpr h))
  clear c3
  by_cases c4 : (a0.size : Int) = (a1.size : Int)
  ·rw [if_pos c4] at H
   have c4b0 : ((a0.size : Int) == (a1.size : Int)) = true := beq_iff_eq.mpr c4
   have c4b1 : ((a0.size : Int) != (a1.size : Int)) = false := bne_eq_false_iff_eq.mpr c4
   have c4b2 : (a0.size == a1.size) = true := by first | simpa using c4 | (simp at c4 ⊢; omega)
   clear c4
   obtain rfl := Option.some.inj H
   go_enter Try.func58, Try.ntmps58
   go_wp2
   go_ret
   exact ⟨by first | rfl | (simp; done) | (simp [*]; done), by repeat (first | exact Drawn0.refl _ | apply Drawn0.step)⟩
  ·rw [if_neg c4] at H
   have c4b0 : ((a0.size : Int) == (a1.size : Int)) = false := beq_eq_false_iff_ne.mpr c4
   have c4b1 : ((a0.size : Int) != (a1.size : Int)) = true := bne_iff_ne.mpr c4
   have c4b2 : (a0.size == a1.size) = false := by first | simpa using c4 | (simp at c4 ⊢; omega)
   obtain rfl := Option.some.inj H
   go_enter Try.func58, Try.ntmps58
   go_wp2
   go_ret
   exact ⟨by first | rfl | (simp; done) | (simp [*]; done), by repeat (first | exact Drawn0.refl _ | apply Drawn0.step)⟩

end Go.Proofs.Ytmigglldahkngaa.PA
end

section
-- Written by a program of this session (wip/tools/xprint.py), which drives the kit's print.
namespace Go.Proofs.Ytmigglldahkngaa.PA
open Go.RowKit Go.Proofs.YtmigglldahkngaaW.PrintWords Go.Proofs.YtmigglldahkngaaW.PrintLast Go.Proofs.YtmigglldahkngaaW.PrintMore
attribute [local go_sem] max2_int min2_int max_two min_two   -- for this text's walks alone
set_option linter.unusedVariables false
set_option linter.unusedSimpArgs false

/-! ### rollcallref05_Set: function 32 -/
mutual
def rollcallref05_Set.l0 : Nat → List (S72) → List (S72) → Int → ByteArray → Bool → Int → Int → Int → ByteArray → Option ((List (S72)))
 | 0, _, _, _, _, _, _, _, _, _ => none
 | k + 1, x0, x5, x6, x413000, x413001, x413002, x413003, x413004, x413005 => if x6 < (x0.length : Int) then (if 0 ≤ x6 then (if ((rd_T72 x0 x6).f0).toList = x413000.toList then (rollcallref05_Set.l0 k x0 x5 (wrap64 (x6 + 1)) x413000 x413001 x413002 x413003 x413004 x413005) else (if x5.length < 2513169434916 then (rollcallref05_Set.l0 k x0 (x5 ++ [(⟨(rd_T72 x0 x6).f0, (⟨(rd_T72 x0 x6).f1.f0, (rd_T72 x0 x6).f1.f1, (rd_T72 x0 x6).f1.f2, (rd_T72 x0 x6).f1.f3⟩ : S32)⟩ : S72)]) (wrap64 (x6 + 1)) x413000 x413001 x413002 x413003 x413004 x413005) else (none))) else (none)) else (if x413001 = true then (rollcallref05_Set.l1 k x5 0 0 x413000 x413001 x413002 x413003 x413004 x413005) else (some x5))
def rollcallref05_Set.l1 : Nat → List (S72) → Int → Int → ByteArray → Bool → Int → Int → Int → ByteArray → Option ((List (S72)))
 | 0, _, _, _, _, _, _, _, _, _ => none
 | k + 1, x5, x7, x8, x413000, x413001, x413002, x413003, x413004, x413005 => if x8 < (x5.length : Int) then (if 0 ≤ x8 then ((rollcallref03_Less.f ((rd_T72 x5 x8).f0) x413000).bind fun t419 => (if t419 = true then (rollcallref05_Set.l1 k x5 (wrap64 (x8 + 1)) (wrap64 (x8 + 1)) x413000 x413001 x413002 x413003 x413004 x413005) else (rollcallref05_Set.l1 k x5 x7 (wrap64 (x8 + 1)) x413000 x413001 x413002 x413003 x413004 x413005))) else (none)) else ((some (([] : List (S72)) : List (S72))).bind fun y420 => (if 0 ≤ x7 then (if x7 ≤ (x5.length : Int) then ((some (x5.take (x7 : Int).toNat : List (S72))).bind fun y423 => (if y420.length + y423.length < 2513169434916 then ((some (y420 ++ y423 : List (S72))).bind fun y427 => (if y427.length < 2513169434916 then ((some (y427 ++ [(⟨x413000, (⟨x413002, x413003, x413004, x413005⟩ : S32)⟩ : S72)] : List (S72))).bind fun y430 => ((some (x5.drop (x7 : Int).toNat : List (S72))).bind fun y433 => (if y430.length + y433.length < 2513169434916 then (some (y430 ++ y433)) else (none)))) else (none))) else (none))) else (none)) else (none)))
end
def rollcallref05_Set.f (k : Nat) (l0 : List (S72)) (a1_0 : ByteArray) (a1_1 : Bool) (a1_2 : Int) (a1_3 : Int) (a1_4 : Int) (a1_5 : ByteArray) : Option ((List (S72))) := rollcallref05_Set.l0 k l0 ([] : List (S72)) 0 a1_0 a1_1 a1_2 a1_3 a1_4 a1_5
set_option maxHeartbeats 8000000 in
set_option maxRecDepth 100000 in
theorem rollcallref05_Set.calls (k : Nat) (A0 : Option Addr) (c0 : Nat) (l0 : List (S72)) (a1_0 : ByteArray) (a1_1 : Bool) (a1_2 : Int) (a1_3 : Int) (a1_4 : Int) (a1_5 : ByteArray) (r : List (S72)) (w : World) (hr0 : Kd.C k72 w A0 l0.length l0) (hc0 : l0.length ≤ c0) (h : rollcallref05_Set.f k l0 a1_0 a1_1 a1_2 a1_3 a1_4 a1_5 = some r) :
  Calls Try.prog 32 #[.slice A0 l0.length c0, .agg #[.string a1_0, .bool a1_1, .int .i64 a1_2, .int .i64 a1_3, .int .i64 a1_4, .string a1_5]] w fun e w' => ∃ v0_ : Value, e = .returned (v0_) ∧ Kd.R k72 72 w' w.heap.size (fun _ => True) v0_ r ∧ Below w.heap.size w w' := by
 have hu34 := Try.underlying34
 have hu72 := Try.underlying72
 have hu32 := Try.underlying32
 have HR0 := Aside0.mk hr0
 have HC0 := Aside0.mk hc0
 clear hr0 hc0
 have HB := Aside0.mk (Below.refl w.heap.size w)
 have H : (rollcallref05_Set.l0 k l0 ([] : List (S72)) 0 a1_0 a1_1 a1_2 a1_3 a1_4 a1_5) = some r := h
 clear h
 have H' := Aside0.mk H
 clear H
 go_enter Try.func32, Try.ntmps32
 go_wp2_with (first | ((with_reducible refine gate_dst (N := 3) rfl ?_); refine box_event ?hg (N := 3) ?hd (cs := #[.string a1_0, .bool a1_1, .int .i64 a1_2, .int .i64 a1_3, .int .i64 a1_4, .string a1_5]) (t := 34) ?hr ?_; (case hd => rfl); (case hg => rfl); (case hr => first | (go_simp; done) | (go_simp; rfl)); intro gb412 hg w3 hbox hb; have BK412 := Aside0.mk (hbox); have GW412 := Aside0.mk ((by rw [hg]; exact (below_size (hS HB.out)) : w.heap.size ≤ gb412)); have GE412 := Aside0.mk ((by rw [hg]; exact (below_size (hS HB.out)) : w.heap.size ≤ gb412)); replace HB := Aside0.mk (below_step (hS HB.out) hb); clear hb hbox hg))
 repeat (go_quiet (first | ((with_reducible refine gate_dst (N := 3) rfl ?_); refine box_event ?hg (N := 3) ?hd (cs := #[.string a1_0, .bool a1_1, .int .i64 a1_2, .int .i64 a1_3, .int .i64 a1_4, .string a1_5]) (t := 34) ?hr ?_; (case hd => rfl); (case hg => rfl); (case hr => first | (go_simp; done) | (go_simp; rfl)); intro gb412 hg w3 hbox hb; have BK412 := Aside0.mk (hbox); have GW412 := Aside0.mk ((by rw [hg]; exact (below_size (hS HB.out)) : w.heap.size ≤ gb412)); have GE412 := Aside0.mk ((by rw [hg]; exact (below_size (hS HB.out)) : w.heap.size ≤ gb412)); replace HB := Aside0.mk (below_step (hS HB.out) hb); clear hb hbox hg)); try go_wp2_with (first | ((with_reducible refine gate_dst (N := 3) rfl ?_); refine box_event ?hg (N := 3) ?hd (cs := #[.string a1_0, .bool a1_1, .int .i64 a1_2, .int .i64 a1_3, .int .i64 a1_4, .string a1_5]) (t := 34) ?hr ?_; (case hd => rfl); (case hg => rfl); (case hr => first | (go_simp; done) | (go_simp; rfl)); intro gb412 hg w3 hbox hb; have BK412 := Aside0.mk (hbox); have GW412 := Aside0.mk ((by rw [hg]; exact (below_size (hS HB.out)) : w.heap.size ≤ gb412)); have GE412 := Aside0.mk ((by rw [hg]; exact (below_size (hS HB.out)) : w.heap.size ≤ gb412)); replace HB := Aside0.mk (below_step (hS HB.out) hb); clear hb hbox hg)))
 go_loopg [5, 6] k (fun kq v5 v6 w' => ∃ (x5_1 : List (S72)) (x6_1 : Int), v6 = .int .i64 x6_1 ∧ Aside0 (rollcallref05_Set.l0 kq l0 x5_1 x6_1 a1_0 a1_1 a1_2 a1_3 a1_4 a1_5 = some r) ∧ Aside0 (kq ≤ k) ∧ Aside0 (Kd.R k72 72 w' w.heap.size (fun _ => True) v5 x5_1) ∧ Aside0 (w'.heap[gb412]? = some (.cells #[.string a1_0, .bool a1_1, .int .i64 a1_2, .int .i64 a1_3, .int .i64 a1_4, .string a1_5] 34 (0, 0))) ∧ Aside0 (Below w.heap.size w w'))
 case atStart => exact ⟨(([] : List (S72))), (0), (by first | rfl | (simp; done) | (simp [*]; done)), H', ⟨Nat.le_refl _⟩, ⟨by first | exact Kd.R_nil _ _ _ _ _ | exact Kd.N_nil _ _ _ _ _ | exact Kd.V_nil _ _ _ _ _ | exact Kd.Q_nil _ _ _ _ _ | exact Kd.S_nil _ _ _ _ _⟩, ⟨bS BK412.out⟩, ⟨by repeat (first | (with_reducible first | exact HB.out | apply below_alloc | apply pw_below_drewN | apply below_drew1 | refine below_set ?_ GE412.out) | exact HB.out)⟩⟩
 case round =>
  clear H'
  try clear p2
  try clear c3
  obtain ⟨x5_1, x6_1, rfl, HA, HK1, HO_5, BK412, HB⟩ := hrel
  cases gk with
  | zero => exact absurd HA.out (by simp [rollcallref05_Set.l0])
  | succ k1 =>
   have H := HA.out
   clear HA
   simp only [rollcallref05_Set.l0] at H
   by_cases c4 : x6_1 < (l0.length : Int)
   ·rw [if_pos c4] at H
    have c4b0 : decide (x6_1 < (l0.length : Int)) = true := decide_eq_true c4
    clear c4
    by_cases c5 : 0 ≤ x6_1
    ·rw [if_pos c5] at H
     have c5b0 : decide (0 ≤ x6_1) = true := decide_eq_true c5
     clear c5
     by_cases c6 : ((rd_T72 l0 x6_1).f0).toList = a1_0.toList
     ·rw [if_pos c6] at H
      have c6b0 : (((rd_T72 l0 x6_1).f0).toList == a1_0.toList) = true := beq_iff_eq.mpr c6
      have c6b1 : (((rd_T72 l0 x6_1).f0).toList != a1_0.toList) = false := bne_eq_false_iff_eq.mpr c6
      clear c6
      have H' := Aside0.mk H
      clear H
      have p413 : 0 ≤ (x6_1 : Int) := of_decide_eq_true (by first | (with_reducible assumption) | assumption)
      have q413 : x6_1 < (l0.length : Int) := of_decide_eq_true (by first | (with_reducible assumption) | assumption)
      obtain ⟨ad413, e413, hx413_0, hx413_1, hx413_2, hx413_3, hx413_4⟩ := at_T72 HR0.out x6_1 p413 q413
      cases e413
      replace hx413_0 := (HB.out.cell (World.block_lt_of_cell? w _ hx413_0)).trans hx413_0
      replace hx413_1 := (HB.out.cell (World.block_lt_of_cell? w _ hx413_1)).trans hx413_1
      replace hx413_2 := (HB.out.cell (World.block_lt_of_cell? w _ hx413_2)).trans hx413_2
      replace hx413_3 := (HB.out.cell (World.block_lt_of_cell? w _ hx413_3)).trans hx413_3
      replace hx413_4 := (HB.out.cell (World.block_lt_of_cell? w _ hx413_4)).trans hx413_4
      replace p413 := eq_true p413
      replace q413 := eq_true q413
      have hcz7_0 : wr.cell? ⟨gb412, 0, none⟩ = some (.string a1_0) := (blk_cell BK412.out 0).trans rfl
      have hcz7_1 : wr.cell? ⟨gb412, 1, none⟩ = some (.bool a1_1) := (blk_cell BK412.out 1).trans rfl
      have hcz7_2 : wr.cell? ⟨gb412, 2, none⟩ = some (.int .i64 a1_2) := (blk_cell BK412.out 2).trans rfl
      have hcz7_3 : wr.cell? ⟨gb412, 3, none⟩ = some (.int .i64 a1_3) := (blk_cell BK412.out 3).trans rfl
      have hcz7_4 : wr.cell? ⟨gb412, 4, none⟩ = some (.int .i64 a1_4) := (blk_cell BK412.out 4).trans rfl
      have hcz7_5 : wr.cell? ⟨gb412, 5, none⟩ = some (.string a1_5) := (blk_cell BK412.out 5).trans rfl
      have hfz7_0 := blk_frozen BK412.out 0
      have hfz7_1 := blk_frozen BK412.out 1
      have hfz7_2 := blk_frozen BK412.out 2
      have hfz7_3 := blk_frozen BK412.out 3
      have hfz7_4 := blk_frozen BK412.out 4
      have hfz7_5 := blk_frozen BK412.out 5
      go_wp2
      repeat (go_quiet (fail); try go_wp2)
      go_roundg k1
      case measure => have := HK1.out; omega
      case rel => exact ⟨(x5_1), (wrap64 (x6_1 + 1)), (by first | rfl | (simp; done) | (simp [*]; done)), H', ⟨by have := HK1.out; omega⟩, ⟨rS HO_5.out⟩, ⟨bS BK412.out⟩, ⟨by repeat (first | (with_reducible first | exact HB.out | apply below_alloc | apply pw_below_drewN | apply below_drew1 | refine below_set ?_ GE412.out) | exact HB.out)⟩⟩
     ·rw [if_neg c6] at H
      have c6b0 : (((rd_T72 l0 x6_1).f0).toList == a1_0.toList) = false := beq_eq_false_iff_ne.mpr c6
      have c6b1 : (((rd_T72 l0 x6_1).f0).toList != a1_0.toList) = true := bne_iff_ne.mpr c6
      by_cases c8 : x5_1.length < 2513169434916
      ·rw [if_pos c8] at H
       have LMc8 := Aside0.mk c8
       clear c8
       obtain ⟨y415, hy415⟩ : ∃ y_ : List (S72), y_ = (x5_1 ++ [(⟨(rd_T72 l0 x6_1).f0, (⟨(rd_T72 l0 x6_1).f1.f0, (rd_T72 l0 x6_1).f1.f1, (rd_T72 l0 x6_1).f1.f2, (rd_T72 l0 x6_1).f1.f3⟩ : S32)⟩ : S72)]) := ⟨_, rfl⟩
       replace H : (rollcallref05_Set.l0 k1 l0 y415 (wrap64 (x6_1 + 1)) a1_0 a1_1 a1_2 a1_3 a1_4 a1_5) = some r := by first | (rw [hy415]; with_reducible exact H) | (have H2_ := (Option.bind_some _ _).symm.trans H; rw [hy415]; with_reducible exact H2_) | (have H2_ := (Option.bind_some _ _).symm.trans H; with_reducible exact H2_) | with_reducible exact H | (rw [hy415]; exact H) | exact H
       have Ny415 := Aside0.mk hy415
       clear hy415
       have H' := Aside0.mk H
       clear H
       have p413 : 0 ≤ (x6_1 : Int) := of_decide_eq_true (by first | (with_reducible assumption) | assumption)
       have q413 : x6_1 < (l0.length : Int) := of_decide_eq_true (by first | (with_reducible assumption) | assumption)
       obtain ⟨ad413, e413, hx413_0, hx413_1, hx413_2, hx413_3, hx413_4⟩ := at_T72 HR0.out x6_1 p413 q413
       cases e413
       replace hx413_0 := (HB.out.cell (World.block_lt_of_cell? w _ hx413_0)).trans hx413_0
       replace hx413_1 := (HB.out.cell (World.block_lt_of_cell? w _ hx413_1)).trans hx413_1
       replace hx413_2 := (HB.out.cell (World.block_lt_of_cell? w _ hx413_2)).trans hx413_2
       replace hx413_3 := (HB.out.cell (World.block_lt_of_cell? w _ hx413_3)).trans hx413_3
       replace hx413_4 := (HB.out.cell (World.block_lt_of_cell? w _ hx413_4)).trans hx413_4
       replace p413 := eq_true p413
       replace q413 := eq_true q413
       have hcz9_0 : wr.cell? ⟨gb412, 0, none⟩ = some (.string a1_0) := (blk_cell BK412.out 0).trans rfl
       have hcz9_1 : wr.cell? ⟨gb412, 1, none⟩ = some (.bool a1_1) := (blk_cell BK412.out 1).trans rfl
       have hcz9_2 : wr.cell? ⟨gb412, 2, none⟩ = some (.int .i64 a1_2) := (blk_cell BK412.out 2).trans rfl
       have hcz9_3 : wr.cell? ⟨gb412, 3, none⟩ = some (.int .i64 a1_3) := (blk_cell BK412.out 3).trans rfl
       have hcz9_4 : wr.cell? ⟨gb412, 4, none⟩ = some (.int .i64 a1_4) := (blk_cell BK412.out 4).trans rfl
       have hcz9_5 : wr.cell? ⟨gb412, 5, none⟩ = some (.string a1_5) := (blk_cell BK412.out 5).trans rfl
       have hfz9_0 := blk_frozen BK412.out 0
       have hfz9_1 := blk_frozen BK412.out 1
       have hfz9_2 := blk_frozen BK412.out 2
       have hfz9_3 := blk_frozen BK412.out 3
       have hfz9_4 := blk_frozen BK412.out 4
       have hfz9_5 := blk_frozen BK412.out 5
       have p414 : 0 ≤ (x6_1 : Int) := of_decide_eq_true (by first | (with_reducible assumption) | assumption)
       have q414 : x6_1 < (l0.length : Int) := of_decide_eq_true (by first | (with_reducible assumption) | assumption)
       obtain ⟨ad414, e414, hx414_0, hx414_1, hx414_2, hx414_3, hx414_4⟩ := at_T72 HR0.out x6_1 p414 q414
       obtain rfl : ad413 = ad414 := (by injection e414)
       replace hx414_0 := (HB.out.cell (World.block_lt_of_cell? w _ hx414_0)).trans hx414_0
       replace hx414_1 := (HB.out.cell (World.block_lt_of_cell? w _ hx414_1)).trans hx414_1
       replace hx414_2 := (HB.out.cell (World.block_lt_of_cell? w _ hx414_2)).trans hx414_2
       replace hx414_3 := (HB.out.cell (World.block_lt_of_cell? w _ hx414_3)).trans hx414_3
       replace hx414_4 := (HB.out.cell (World.block_lt_of_cell? w _ hx414_4)).trans hx414_4
       replace p414 := eq_true p414
       replace q414 := eq_true q414
       go_wp2_with (first | ((with_reducible refine gate_builtin (b := .append) (xs := #[.tmp 24, .tmp 29]) rfl ?_); at_builtin; refine Kd.R_append k72 (w0 := w) w.heap.size rfl (.tmp 24) (.tmp 29) 46 72 (.agg #[(.string ⟨#[]⟩), (.int .i64 0), (.int .i64 0), (.int .i64 0), (.string ⟨#[]⟩)]) 56 rfl Try.underlying46 info72 rfl (by decide) (by omega) u5 x5_1 (⟨(rd_T72 l0 x6_1).f0, (⟨(rd_T72 l0 x6_1).f1.f0, (rd_T72 l0 x6_1).f1.f1, (rd_T72 l0 x6_1).f1.f2, (rd_T72 l0 x6_1).f1.f3⟩ : S32)⟩ : S72) [.string ((rd_T72 l0 x6_1).f0), .int .i64 ((rd_T72 l0 x6_1).f1.f0), .int .i64 ((rd_T72 l0 x6_1).f1.f1), .int .i64 ((rd_T72 l0 x6_1).f1.f2), .string ((rd_T72 l0 x6_1).f1.f3)] (fun _ => True) (fun _ => False) rfl rfl ?aP (fun _ hk => hk.elim) ?aF ?aO ?aB ?aS ?aL ?_; (case aP => exact k72_mkM _ _ _ (⟨(rd_T72 l0 x6_1).f0, (⟨(rd_T72 l0 x6_1).f1.f0, (rd_T72 l0 x6_1).f1.f1, (rd_T72 l0 x6_1).f1.f2, (rd_T72 l0 x6_1).f1.f3⟩ : S32)⟩ : S72)); (case aB => exact (hS HB.out)); (case aF => exact (fun _ _ => trivial)); (case aO => exact (rS HO_5.out)); (case aS => exact (below_size (hS HB.out))); (case aL => have := LMc8.out; omega); intro v416 w10 ho hb hg hat; rw [← Ny415.out] at ho; replace BK412 := Aside0.mk (blk_grown (bS BK412.out) hg (Kd.R_ne HO_5.out BK412.out (by decide))); replace HB := Aside0.mk (hb); have HO417 := Aside0.mk (ho); clear HO_5; clear ho hb hg hat))
       repeat (go_quiet (first | ((with_reducible refine gate_builtin (b := .append) (xs := #[.tmp 24, .tmp 29]) rfl ?_); at_builtin; refine Kd.R_append k72 (w0 := w) w.heap.size rfl (.tmp 24) (.tmp 29) 46 72 (.agg #[(.string ⟨#[]⟩), (.int .i64 0), (.int .i64 0), (.int .i64 0), (.string ⟨#[]⟩)]) 56 rfl Try.underlying46 info72 rfl (by decide) (by omega) u5 x5_1 (⟨(rd_T72 l0 x6_1).f0, (⟨(rd_T72 l0 x6_1).f1.f0, (rd_T72 l0 x6_1).f1.f1, (rd_T72 l0 x6_1).f1.f2, (rd_T72 l0 x6_1).f1.f3⟩ : S32)⟩ : S72) [.string ((rd_T72 l0 x6_1).f0), .int .i64 ((rd_T72 l0 x6_1).f1.f0), .int .i64 ((rd_T72 l0 x6_1).f1.f1), .int .i64 ((rd_T72 l0 x6_1).f1.f2), .string ((rd_T72 l0 x6_1).f1.f3)] (fun _ => True) (fun _ => False) rfl rfl ?aP (fun _ hk => hk.elim) ?aF ?aO ?aB ?aS ?aL ?_; (case aP => exact k72_mkM _ _ _ (⟨(rd_T72 l0 x6_1).f0, (⟨(rd_T72 l0 x6_1).f1.f0, (rd_T72 l0 x6_1).f1.f1, (rd_T72 l0 x6_1).f1.f2, (rd_T72 l0 x6_1).f1.f3⟩ : S32)⟩ : S72)); (case aB => exact (hS HB.out)); (case aF => exact (fun _ _ => trivial)); (case aO => exact (rS HO_5.out)); (case aS => exact (below_size (hS HB.out))); (case aL => have := LMc8.out; omega); intro v416 w10 ho hb hg hat; rw [← Ny415.out] at ho; replace BK412 := Aside0.mk (blk_grown (bS BK412.out) hg (Kd.R_ne HO_5.out BK412.out (by decide))); replace HB := Aside0.mk (hb); have HO417 := Aside0.mk (ho); clear HO_5; clear ho hb hg hat)); try go_wp2_with (first | ((with_reducible refine gate_builtin (b := .append) (xs := #[.tmp 24, .tmp 29]) rfl ?_); at_builtin; refine Kd.R_append k72 (w0 := w) w.heap.size rfl (.tmp 24) (.tmp 29) 46 72 (.agg #[(.string ⟨#[]⟩), (.int .i64 0), (.int .i64 0), (.int .i64 0), (.string ⟨#[]⟩)]) 56 rfl Try.underlying46 info72 rfl (by decide) (by omega) u5 x5_1 (⟨(rd_T72 l0 x6_1).f0, (⟨(rd_T72 l0 x6_1).f1.f0, (rd_T72 l0 x6_1).f1.f1, (rd_T72 l0 x6_1).f1.f2, (rd_T72 l0 x6_1).f1.f3⟩ : S32)⟩ : S72) [.string ((rd_T72 l0 x6_1).f0), .int .i64 ((rd_T72 l0 x6_1).f1.f0), .int .i64 ((rd_T72 l0 x6_1).f1.f1), .int .i64 ((rd_T72 l0 x6_1).f1.f2), .string ((rd_T72 l0 x6_1).f1.f3)] (fun _ => True) (fun _ => False) rfl rfl ?aP (fun _ hk => hk.elim) ?aF ?aO ?aB ?aS ?aL ?_; (case aP => exact k72_mkM _ _ _ (⟨(rd_T72 l0 x6_1).f0, (⟨(rd_T72 l0 x6_1).f1.f0, (rd_T72 l0 x6_1).f1.f1, (rd_T72 l0 x6_1).f1.f2, (rd_T72 l0 x6_1).f1.f3⟩ : S32)⟩ : S72)); (case aB => exact (hS HB.out)); (case aF => exact (fun _ _ => trivial)); (case aO => exact (rS HO_5.out)); (case aS => exact (below_size (hS HB.out))); (case aL => have := LMc8.out; omega); intro v416 w10 ho hb hg hat; rw [← Ny415.out] at ho; replace BK412 := Aside0.mk (blk_grown (bS BK412.out) hg (Kd.R_ne HO_5.out BK412.out (by decide))); replace HB := Aside0.mk (hb); have HO417 := Aside0.mk (ho); clear HO_5; clear ho hb hg hat)))
       go_roundg k1
       case measure => have := HK1.out; omega
       case rel => exact ⟨(y415), (wrap64 (x6_1 + 1)), (by first | rfl | (simp; done) | (simp [*]; done)), H', ⟨by have := HK1.out; omega⟩, ⟨rS HO417.out⟩, ⟨bS BK412.out⟩, ⟨by repeat (first | (with_reducible first | exact HB.out | apply below_alloc | apply pw_below_drewN | apply below_drew1 | refine below_set ?_ GE412.out) | exact HB.out)⟩⟩
      ·rw [if_neg c8] at H
       exact absurd H (by simp)
    ·rw [if_neg c5] at H
     exact absurd H (by simp)
   ·rw [if_neg c4] at H
    have c4b0 : decide (x6_1 < (l0.length : Int)) = false := decide_eq_false c4
    clear c4
    by_cases c11 : a1_1 = true
    ·subst c11
     have H1 : (rollcallref05_Set.l1 k1 x5_1 0 0 a1_0 true a1_2 a1_3 a1_4 a1_5) = some r := by rw [if_pos rfl] at H; exact H
     clear H
     have H := H1
     clear H1
     have H' := Aside0.mk H
     clear H
     have hcz12_0 : wr.cell? ⟨gb412, 0, none⟩ = some (.string a1_0) := (blk_cell BK412.out 0).trans rfl
     have hcz12_1 : wr.cell? ⟨gb412, 1, none⟩ = some (.bool true) := (blk_cell BK412.out 1).trans rfl
     have hcz12_2 : wr.cell? ⟨gb412, 2, none⟩ = some (.int .i64 a1_2) := (blk_cell BK412.out 2).trans rfl
     have hcz12_3 : wr.cell? ⟨gb412, 3, none⟩ = some (.int .i64 a1_3) := (blk_cell BK412.out 3).trans rfl
     have hcz12_4 : wr.cell? ⟨gb412, 4, none⟩ = some (.int .i64 a1_4) := (blk_cell BK412.out 4).trans rfl
     have hcz12_5 : wr.cell? ⟨gb412, 5, none⟩ = some (.string a1_5) := (blk_cell BK412.out 5).trans rfl
     have hfz12_0 := blk_frozen BK412.out 0
     have hfz12_1 := blk_frozen BK412.out 1
     have hfz12_2 := blk_frozen BK412.out 2
     have hfz12_3 := blk_frozen BK412.out 3
     have hfz12_4 := blk_frozen BK412.out 4
     have hfz12_5 := blk_frozen BK412.out 5
     go_wp2
     repeat (go_quiet (fail); try go_wp2)
     go_loopg [7, 8] k1 (fun kq v7 v8 w' => ∃ (x7_2 : Int) (x8_2 : Int), v7 = .int .i64 x7_2 ∧ v8 = .int .i64 x8_2 ∧ Aside0 (rollcallref05_Set.l1 kq x5_1 x7_2 x8_2 a1_0 true a1_2 a1_3 a1_4 a1_5 = some r) ∧ Aside0 (kq ≤ k1) ∧ Aside0 (Kd.R k72 72 w' w.heap.size (fun _ => True) u5 x5_1) ∧ Aside0 (w'.heap[gb412]? = some (.cells #[.string a1_0, .bool true, .int .i64 a1_2, .int .i64 a1_3, .int .i64 a1_4, .string a1_5] 34 (0, 0))) ∧ Aside0 (Below w.heap.size w w'))
     case atStart => exact ⟨(0), (0), (by first | rfl | (simp; done) | (simp [*]; done)), (by first | rfl | (simp; done) | (simp [*]; done)), H', ⟨Nat.le_refl _⟩, ⟨rS HO_5.out⟩, ⟨bS BK412.out⟩, ⟨by repeat (first | (with_reducible first | exact HB.out | apply below_alloc | apply pw_below_drewN | apply below_drew1 | refine below_set ?_ GE412.out) | exact HB.out)⟩⟩
     case round =>
      clear H'
      try clear c1
      try clear p2
      try clear c3
      try clear c4
      try clear c4b0
      try clear p4
      try clear q4
      try clear hx4
      try clear c5
      try clear c5b0
      try clear c6
      try clear c6b0
      try clear c6b1
      try clear p6
      try clear c8
      try clear c11
      try clear hcz12_0
      try clear hcz12_1
      try clear hcz12_2
      try clear hcz12_3
      try clear hcz12_4
      try clear hcz12_5
      try clear hcz7_0
      try clear hcz7_1
      try clear hcz7_2
      try clear hcz7_3
      try clear hcz7_4
      try clear hcz7_5
      try clear hcz9_0
      try clear hcz9_1
      try clear hcz9_2
      try clear hcz9_3
      try clear hcz9_4
      try clear hcz9_5
      try clear hfz12_0
      try clear hfz12_1
      try clear hfz12_2
      try clear hfz12_3
      try clear hfz12_4
      try clear hfz12_5
      try clear hfz7_0
      try clear hfz7_1
      try clear hfz7_2
      try clear hfz7_3
      try clear hfz7_4
      try clear hfz7_5
      try clear hfz9_0
      try clear hfz9_1
      try clear hfz9_2
      try clear hfz9_3
      try clear hfz9_4
      try clear hfz9_5
      try clear hx413_0
      try clear hx413_1
      try clear hx413_2
      try clear hx413_3
      try clear hx413_4
      try clear hx414_0
      try clear hx414_1
      try clear hx414_2
      try clear hx414_3
      try clear hx414_4
      try clear p2
      try clear p413
      try clear p414
      try clear q413
      try clear q414
      obtain ⟨x7_2, x8_2, rfl, rfl, HA, HK2, HO_5, BK412, HB⟩ := hrel
      cases gk with
      | zero => exact absurd HA.out (by simp [rollcallref05_Set.l1])
      | succ k2 =>
       have H := HA.out
       clear HA
       simp only [rollcallref05_Set.l1] at H
       by_cases c13 : x8_2 < (x5_1.length : Int)
       ·rw [if_pos c13] at H
        have c13b0 : decide (x8_2 < (x5_1.length : Int)) = true := decide_eq_true c13
        clear c13
        by_cases c14 : 0 ≤ x8_2
        ·rw [if_pos c14] at H
         have c14b0 : decide (0 ≤ x8_2) = true := decide_eq_true c14
         clear c14
         replace H := Option.bind_eq_some_iff.mp H
         obtain ⟨t419, A150, H⟩ := H
         replace H : (if t419 = true then (rollcallref05_Set.l1 k2 x5_1 (wrap64 (x8_2 + 1)) (wrap64 (x8_2 + 1)) a1_0 true a1_2 a1_3 a1_4 a1_5) else (rollcallref05_Set.l1 k2 x5_1 x7_2 (wrap64 (x8_2 + 1)) a1_0 true a1_2 a1_3 a1_4 a1_5)) = some r := H
         have A15 := Aside0.mk A150
         clear A150
         by_cases c16 : t419 = true
         ·subst c16
          have H1 : (rollcallref05_Set.l1 k2 x5_1 (wrap64 (x8_2 + 1)) (wrap64 (x8_2 + 1)) a1_0 true a1_2 a1_3 a1_4 a1_5) = some r := by rw [if_pos rfl] at H; exact H
          clear H
          have H := H1
          clear H1
          have H' := Aside0.mk H
          clear H
          obtain ⟨Ao17, co17, eo17⟩ := Kd.R_slice HO_5.out
          subst eo17
          have p418 : 0 ≤ (x8_2 : Int) := of_decide_eq_true (by first | (with_reducible assumption) | assumption)
          have q418 : x8_2 < (x5_1.length : Int) := of_decide_eq_true (by first | (with_reducible assumption) | assumption)
          obtain ⟨ad418, e418, hx418_0, hx418_1, hx418_2, hx418_3, hx418_4⟩ := at_T72 (Kd.R_reads' HO_5.out).2.2 x8_2 p418 q418
          cases e418
          replace p418 := eq_true p418
          replace q418 := eq_true q418
          have hcz18_0 : wr.cell? ⟨gb412, 0, none⟩ = some (.string a1_0) := (blk_cell BK412.out 0).trans rfl
          have hcz18_1 : wr.cell? ⟨gb412, 1, none⟩ = some (.bool true) := (blk_cell BK412.out 1).trans rfl
          have hcz18_2 : wr.cell? ⟨gb412, 2, none⟩ = some (.int .i64 a1_2) := (blk_cell BK412.out 2).trans rfl
          have hcz18_3 : wr.cell? ⟨gb412, 3, none⟩ = some (.int .i64 a1_3) := (blk_cell BK412.out 3).trans rfl
          have hcz18_4 : wr.cell? ⟨gb412, 4, none⟩ = some (.int .i64 a1_4) := (blk_cell BK412.out 4).trans rfl
          have hcz18_5 : wr.cell? ⟨gb412, 5, none⟩ = some (.string a1_5) := (blk_cell BK412.out 5).trans rfl
          have hfz18_0 := blk_frozen BK412.out 0
          have hfz18_1 := blk_frozen BK412.out 1
          have hfz18_2 := blk_frozen BK412.out 2
          have hfz18_3 := blk_frozen BK412.out 3
          have hfz18_4 := blk_frozen BK412.out 4
          have hfz18_5 := blk_frozen BK412.out 5
          go_wp2_with (first | (go_at_call 58; (with_reducible refine (rollcallref03_Less.calls ((rd_T72 x5_1 x8_2).f0) a1_0 true _ A15.out).mono ?_); rintro e w' ⟨rfl, ⟨nd, rfl⟩⟩; (try first | exact ⟨rfl, _, World.drewN_drewN _ _ _⟩ | exact ⟨rfl, _, Eq.trans (World.drewN_drewN _ _ _) (congrArg (World.drewN _) (Nat.add_assoc _ _ _))⟩)))
          repeat (go_quiet (first | (go_at_call 58; (with_reducible refine (rollcallref03_Less.calls ((rd_T72 x5_1 x8_2).f0) a1_0 true _ A15.out).mono ?_); rintro e w' ⟨rfl, ⟨nd, rfl⟩⟩; (try first | exact ⟨rfl, _, World.drewN_drewN _ _ _⟩ | exact ⟨rfl, _, Eq.trans (World.drewN_drewN _ _ _) (congrArg (World.drewN _) (Nat.add_assoc _ _ _))⟩))); try go_wp2_with (first | (go_at_call 58; (with_reducible refine (rollcallref03_Less.calls ((rd_T72 x5_1 x8_2).f0) a1_0 true _ A15.out).mono ?_); rintro e w' ⟨rfl, ⟨nd, rfl⟩⟩; (try first | exact ⟨rfl, _, World.drewN_drewN _ _ _⟩ | exact ⟨rfl, _, Eq.trans (World.drewN_drewN _ _ _) (congrArg (World.drewN _) (Nat.add_assoc _ _ _))⟩))))
          go_roundg k2
          case measure => have := HK1.out; have := HK2.out; omega
          case rel => exact ⟨(wrap64 (x8_2 + 1)), (wrap64 (x8_2 + 1)), (by first | rfl | (simp; done) | (simp [*]; done)), (by first | rfl | (simp; done) | (simp [*]; done)), H', ⟨by have := HK1.out; have := HK2.out; omega⟩, ⟨rS HO_5.out⟩, ⟨bS BK412.out⟩, ⟨by repeat (first | (with_reducible first | exact HB.out | apply below_alloc | apply pw_below_drewN | apply below_drew1 | refine below_set ?_ GE412.out) | exact HB.out)⟩⟩
         ·replace c16 := Bool.eq_false_iff.mpr c16
          subst c16
          have H1 : (rollcallref05_Set.l1 k2 x5_1 x7_2 (wrap64 (x8_2 + 1)) a1_0 true a1_2 a1_3 a1_4 a1_5) = some r := by rw [if_neg (show ¬ (false = true) by decide)] at H; exact H
          clear H
          have H := H1
          clear H1
          have H' := Aside0.mk H
          clear H
          obtain ⟨Ao19, co19, eo19⟩ := Kd.R_slice HO_5.out
          subst eo19
          have p418 : 0 ≤ (x8_2 : Int) := of_decide_eq_true (by first | (with_reducible assumption) | assumption)
          have q418 : x8_2 < (x5_1.length : Int) := of_decide_eq_true (by first | (with_reducible assumption) | assumption)
          obtain ⟨ad418, e418, hx418_0, hx418_1, hx418_2, hx418_3, hx418_4⟩ := at_T72 (Kd.R_reads' HO_5.out).2.2 x8_2 p418 q418
          cases e418
          replace p418 := eq_true p418
          replace q418 := eq_true q418
          have hcz20_0 : wr.cell? ⟨gb412, 0, none⟩ = some (.string a1_0) := (blk_cell BK412.out 0).trans rfl
          have hcz20_1 : wr.cell? ⟨gb412, 1, none⟩ = some (.bool true) := (blk_cell BK412.out 1).trans rfl
          have hcz20_2 : wr.cell? ⟨gb412, 2, none⟩ = some (.int .i64 a1_2) := (blk_cell BK412.out 2).trans rfl
          have hcz20_3 : wr.cell? ⟨gb412, 3, none⟩ = some (.int .i64 a1_3) := (blk_cell BK412.out 3).trans rfl
          have hcz20_4 : wr.cell? ⟨gb412, 4, none⟩ = some (.int .i64 a1_4) := (blk_cell BK412.out 4).trans rfl
          have hcz20_5 : wr.cell? ⟨gb412, 5, none⟩ = some (.string a1_5) := (blk_cell BK412.out 5).trans rfl
          have hfz20_0 := blk_frozen BK412.out 0
          have hfz20_1 := blk_frozen BK412.out 1
          have hfz20_2 := blk_frozen BK412.out 2
          have hfz20_3 := blk_frozen BK412.out 3
          have hfz20_4 := blk_frozen BK412.out 4
          have hfz20_5 := blk_frozen BK412.out 5
          go_wp2_with (first | (go_at_call 58; (with_reducible refine (rollcallref03_Less.calls ((rd_T72 x5_1 x8_2).f0) a1_0 false _ A15.out).mono ?_); rintro e w' ⟨rfl, ⟨nd, rfl⟩⟩; (try first | exact ⟨rfl, _, World.drewN_drewN _ _ _⟩ | exact ⟨rfl, _, Eq.trans (World.drewN_drewN _ _ _) (congrArg (World.drewN _) (Nat.add_assoc _ _ _))⟩)))
          repeat (go_quiet (first | (go_at_call 58; (with_reducible refine (rollcallref03_Less.calls ((rd_T72 x5_1 x8_2).f0) a1_0 false _ A15.out).mono ?_); rintro e w' ⟨rfl, ⟨nd, rfl⟩⟩; (try first | exact ⟨rfl, _, World.drewN_drewN _ _ _⟩ | exact ⟨rfl, _, Eq.trans (World.drewN_drewN _ _ _) (congrArg (World.drewN _) (Nat.add_assoc _ _ _))⟩))); try go_wp2_with (first | (go_at_call 58; (with_reducible refine (rollcallref03_Less.calls ((rd_T72 x5_1 x8_2).f0) a1_0 false _ A15.out).mono ?_); rintro e w' ⟨rfl, ⟨nd, rfl⟩⟩; (try first | exact ⟨rfl, _, World.drewN_drewN _ _ _⟩ | exact ⟨rfl, _, Eq.trans (World.drewN_drewN _ _ _) (congrArg (World.drewN _) (Nat.add_assoc _ _ _))⟩))))
          go_roundg k2
          case measure => have := HK1.out; have := HK2.out; omega
          case rel => exact ⟨(x7_2), (wrap64 (x8_2 + 1)), (by first | rfl | (simp; done) | (simp [*]; done)), (by first | rfl | (simp; done) | (simp [*]; done)), H', ⟨by have := HK1.out; have := HK2.out; omega⟩, ⟨rS HO_5.out⟩, ⟨bS BK412.out⟩, ⟨by repeat (first | (with_reducible first | exact HB.out | apply below_alloc | apply pw_below_drewN | apply below_drew1 | refine below_set ?_ GE412.out) | exact HB.out)⟩⟩
        ·rw [if_neg c14] at H
         exact absurd H (by simp)
       ·rw [if_neg c13] at H
        have c13b0 : decide (x8_2 < (x5_1.length : Int)) = false := decide_eq_false c13
        clear c13
        obtain ⟨y420, hy420⟩ : ∃ y_ : List (S72), y_ = (([] : List (S72))) := ⟨_, rfl⟩
        replace H : (if 0 ≤ x7_2 then (if x7_2 ≤ (x5_1.length : Int) then ((some (x5_1.take (x7_2 : Int).toNat : List (S72))).bind fun y423 => (if y420.length + y423.length < 2513169434916 then ((some (y420 ++ y423 : List (S72))).bind fun y427 => (if y427.length < 2513169434916 then ((some (y427 ++ [(⟨a1_0, (⟨a1_2, a1_3, a1_4, a1_5⟩ : S32)⟩ : S72)] : List (S72))).bind fun y430 => ((some (x5_1.drop (x7_2 : Int).toNat : List (S72))).bind fun y433 => (if y430.length + y433.length < 2513169434916 then (some (y430 ++ y433)) else (none)))) else (none))) else (none))) else (none)) else (none)) = some r := by first | (rw [hy420]; with_reducible exact H) | (have H2_ := (Option.bind_some _ _).symm.trans H; rw [hy420]; with_reducible exact H2_) | (have H2_ := (Option.bind_some _ _).symm.trans H; with_reducible exact H2_) | with_reducible exact H | (rw [hy420]; exact H) | exact H
        have Ny420 := Aside0.mk hy420
        clear hy420
        by_cases c21 : 0 ≤ x7_2
        ·rw [if_pos c21] at H
         have c21b0 := eq_true c21
         have c21b1 : decide (0 ≤ x7_2) = true := decide_eq_true c21
         clear c21
         by_cases c22 : x7_2 ≤ (x5_1.length : Int)
         ·rw [if_pos c22] at H
          have c22b0 := eq_true c22
          have c22b1 : decide (x7_2 ≤ (x5_1.length : Int)) = true := decide_eq_true c22
          clear c22
          obtain ⟨y423, hy423⟩ : ∃ y_ : List (S72), y_ = (x5_1.take (x7_2 : Int).toNat) := ⟨_, rfl⟩
          replace H : (if y420.length + y423.length < 2513169434916 then ((some (y420 ++ y423 : List (S72))).bind fun y427 => (if y427.length < 2513169434916 then ((some (y427 ++ [(⟨a1_0, (⟨a1_2, a1_3, a1_4, a1_5⟩ : S32)⟩ : S72)] : List (S72))).bind fun y430 => ((some (x5_1.drop (x7_2 : Int).toNat : List (S72))).bind fun y433 => (if y430.length + y433.length < 2513169434916 then (some (y430 ++ y433)) else (none)))) else (none))) else (none)) = some r := by first | (rw [hy423]; with_reducible exact H) | (have H2_ := (Option.bind_some _ _).symm.trans H; rw [hy423]; with_reducible exact H2_) | (have H2_ := (Option.bind_some _ _).symm.trans H; with_reducible exact H2_) | with_reducible exact H | (rw [hy423]; exact H) | exact H
          have Ny423 := Aside0.mk hy423
          clear hy423
          by_cases c23 : y420.length + y423.length < 2513169434916
          ·rw [if_pos c23] at H
           have LMc23 := Aside0.mk c23
           clear c23
           obtain ⟨y427, hy427⟩ : ∃ y_ : List (S72), y_ = (y420 ++ y423) := ⟨_, rfl⟩
           replace H : (if y427.length < 2513169434916 then ((some (y427 ++ [(⟨a1_0, (⟨a1_2, a1_3, a1_4, a1_5⟩ : S32)⟩ : S72)] : List (S72))).bind fun y430 => ((some (x5_1.drop (x7_2 : Int).toNat : List (S72))).bind fun y433 => (if y430.length + y433.length < 2513169434916 then (some (y430 ++ y433)) else (none)))) else (none)) = some r := by first | (rw [hy427]; with_reducible exact H) | (have H2_ := (Option.bind_some _ _).symm.trans H; rw [hy427]; with_reducible exact H2_) | (have H2_ := (Option.bind_some _ _).symm.trans H; with_reducible exact H2_) | with_reducible exact H | (rw [hy427]; exact H) | exact H
           have Ny427 := Aside0.mk hy427
           clear hy427
           by_cases c24 : y427.length < 2513169434916
           ·rw [if_pos c24] at H
            have LMc24 := Aside0.mk c24
            clear c24
            obtain ⟨y430, hy430⟩ : ∃ y_ : List (S72), y_ = (y427 ++ [(⟨a1_0, (⟨a1_2, a1_3, a1_4, a1_5⟩ : S32)⟩ : S72)]) := ⟨_, rfl⟩
            replace H : ((some (x5_1.drop (x7_2 : Int).toNat : List (S72))).bind fun y433 => (if y430.length + y433.length < 2513169434916 then (some (y430 ++ y433)) else (none))) = some r := by first | (rw [hy430]; with_reducible exact H) | (have H2_ := (Option.bind_some _ _).symm.trans H; rw [hy430]; with_reducible exact H2_) | (have H2_ := (Option.bind_some _ _).symm.trans H; with_reducible exact H2_) | with_reducible exact H | (rw [hy430]; exact H) | exact H
            have Ny430 := Aside0.mk hy430
            clear hy430
            have c25b0 := eq_true (of_decide_eq_true (by first | (with_reducible assumption) | assumption) : 0 ≤ x7_2)
            have c26b0 := eq_true (of_decide_eq_true (by first | (with_reducible assumption) | assumption) : x7_2 ≤ (x5_1.length : Int))
            obtain ⟨y433, hy433⟩ : ∃ y_ : List (S72), y_ = (x5_1.drop (x7_2 : Int).toNat) := ⟨_, rfl⟩
            replace H : (if y430.length + y433.length < 2513169434916 then (some (y430 ++ y433)) else (none)) = some r := by first | (rw [hy433]; with_reducible exact H) | (have H2_ := (Option.bind_some _ _).symm.trans H; rw [hy433]; with_reducible exact H2_) | (have H2_ := (Option.bind_some _ _).symm.trans H; with_reducible exact H2_) | with_reducible exact H | (rw [hy433]; exact H) | exact H
            have Ny433 := Aside0.mk hy433
            clear hy433
            by_cases c27 : y430.length + y433.length < 2513169434916
            ·rw [if_pos c27] at H
             have LMc27 := Aside0.mk c27
             clear c27
             obtain ⟨y437, hy437⟩ : ∃ y_ : List (S72), y_ = (y430 ++ y433) := ⟨_, rfl⟩
             replace H : (some y437) = some r := by first | (rw [hy437]; with_reducible exact H) | (have H2_ := (Option.bind_some _ _).symm.trans H; rw [hy437]; with_reducible exact H2_) | (have H2_ := (Option.bind_some _ _).symm.trans H; with_reducible exact H2_) | with_reducible exact H | (rw [hy437]; exact H) | exact H
             have Ny437 := Aside0.mk hy437
             clear hy437
             obtain rfl := Option.some.inj H
             obtain ⟨Ao28, co28, eo28⟩ := Kd.R_slice HO_5.out
             subst eo28
             go_wp2_with (first | ((with_reducible refine gate_dst (N := 51) rfl ?_); refine Kd.R_lit k72 _ 72 ?hg (N := 51) ?hd (xs := ([] : List (S72))) (inner := []) (ok := fun _ => True) (okp := fun _ => True) ?hr ?hp (fun _ hk => hk) trivial (Below.refl _ _) (Nat.le_refl _) (by simp) ?_; (case hd => rfl); (case hg => rfl); (case hr => first | (go_simp; done) | (go_simp; rfl)); (case hp => exact (Reps.none _ _)); intro v421 w29 ho30 hb hg_ hnew_; clear hg_ hnew_; (first | rw [← Ny420.out] at ho30 | (simp only [Int.reduceToNat] at ho30; rw [← Ny420.out] at ho30)); have HO422 := Aside0.mk (Kd.R_lower (Kd.R_new' ho30 (Kd.R_lt (rS HO_5.out))) (below_size (hS HB.out))); replace HO_5 := Aside0.mk (Kd.R_elder' (rS HO_5.out) (Kd.R_base ho30) hb); replace BK412 := Aside0.mk (blk_below (bS BK412.out) hb); replace HB := Aside0.mk (below_step (hS HB.out) hb); clear hb ho30; have q31 : (x7_2 : Int) ≤ ((x5_1.length : Int) : Int) := of_decide_eq_true (by first | (with_reducible assumption) | assumption); obtain ⟨i031, hi031, _, hsz31, _⟩ := info_parts info72; have hroom31 : x5_1.length ≤ co28 := (Kd.R_reads' HO_5.out).2.1; have hC31 : Kd.C k72 _ Ao28 x5_1.length x5_1 := (Kd.R_reads' HO_5.out).2.2; have hcut31 := cut_to (P := Try.prog) 46 72 .i64 Try.underlying46 hi031 Ao28 x5_1.length co28 x7_2 (of_decide_eq_true (by first | (with_reducible assumption) | assumption)) q31 hroom31; have hr31 := Kd.C_take (m := (x7_2 : Int).toNat) hC31 (by omega); have hy31 : y423.length = (x7_2 : Int).toNat := (by rw [Ny423.out, List.length_take]; omega); rw [← Ny423.out] at hr31; rw [← hy31] at hcut31; have HR426 := Aside0.mk hr31; have HC426 := Aside0.mk (show y423.length ≤ co28 from by omega); clear hr31 hC31 hroom31 hi031 hsz31; have KY31 := Aside0.mk hy31; clear hy31; have KL31 := Aside0.mk (show (x7_2 : Int).toNat ≤ x5_1.length from by omega); replace q31 := eq_true q31) | ((with_reducible refine gate_builtin (b := .append) (xs := #[.tmp 51, .tmp 54]) rfl ?_); at_builtin; refine Kd.R_append_rows k72 (w0 := w) w.heap.size rfl (.tmp 51) (.tmp 54) 46 72 (.agg #[(.string ⟨#[]⟩), (.int .i64 0), (.int .i64 0), (.int .i64 0), (.string ⟨#[]⟩)]) 56 rfl Try.underlying46 info72 rfl (by decide) (by omega) v421 y420 y423 _ _ _ (fun k_ => some k_ ≠ (.slice Ao28 x5_1.length co28 : Value).ownBlock) (fun _ => False) rfl rfl ?aO ?aR (fun _ _ h => h) (fun _ h => h.elim) ?aF ?aB ?aS ?aL ?_; (case aR => repeat (first | exact (by repeat (first | (with_reducible exact HR426.out) | (with_reducible refine Kd.C_alloc ?_ _) | (with_reducible refine Kd.C_drewN ?_ _) | (with_reducible refine Kd.C_drew ?_) | exact HR426.out)) | (with_reducible refine Kd.C_alloc ?_ _) | (with_reducible refine Kd.C_drewN ?_ _) | (with_reducible refine Kd.C_drew ?_))); (case aB => exact (hS HB.out)); (case aF => exact (fun k_ hk => Kd.fresh' (Kd.R_lt (rS HO_5.out)) k_ hk)); (case aO => exact (by (with_reducible repeat (first | apply Kd.R_alloc | apply Kd.R_drewN | apply Kd.R_drew)); exact Kd.R_mono HO422.out (fun _ hk => hk.2))); (case aS => exact (below_size (hS HB.out))); (case aL => have := LMc23.out; omega); intro v428 w32 ho hb hg hat; rw [← Ny427.out] at ho; replace BK412 := Aside0.mk (blk_grown (bS BK412.out) hg (Kd.R_ne HO422.out BK412.out (by decide))); replace HB := Aside0.mk (hb); replace HR426 := Aside0.mk ((show Kd.C k72 w32 Ao28 y423.length y423 from by rw [Ny423.out]; exact Kd.C_take (m := (x7_2 : Int).toNat) ((Kd.R_reads' (Kd.R_after (ok := (fun _ => True)) (rS HO_5.out) hg hat)).2.2) KL31.out)); replace HO_5 := Aside0.mk (Kd.R_after (ok := (fun _ => True)) (rS HO_5.out) hg hat); have HO429 := Aside0.mk (ho); clear HO422; clear ho hb hg hat; have hcz33_0 : w32.cell? ⟨gb412, 0, none⟩ = some (.string a1_0) := (blk_cell BK412.out 0).trans rfl; have hcz33_1 : w32.cell? ⟨gb412, 1, none⟩ = some (.bool true) := (blk_cell BK412.out 1).trans rfl; have hcz33_2 : w32.cell? ⟨gb412, 2, none⟩ = some (.int .i64 a1_2) := (blk_cell BK412.out 2).trans rfl; have hcz33_3 : w32.cell? ⟨gb412, 3, none⟩ = some (.int .i64 a1_3) := (blk_cell BK412.out 3).trans rfl; have hcz33_4 : w32.cell? ⟨gb412, 4, none⟩ = some (.int .i64 a1_4) := (blk_cell BK412.out 4).trans rfl; have hcz33_5 : w32.cell? ⟨gb412, 5, none⟩ = some (.string a1_5) := (blk_cell BK412.out 5).trans rfl; have hfz33_0 := blk_frozen BK412.out 0; have hfz33_1 := blk_frozen BK412.out 1; have hfz33_2 := blk_frozen BK412.out 2; have hfz33_3 := blk_frozen BK412.out 3; have hfz33_4 := blk_frozen BK412.out 4; have hfz33_5 := blk_frozen BK412.out 5) | ((with_reducible refine gate_builtin (b := .append) (xs := #[.tmp 56, .tmp 62]) rfl ?_); at_builtin; refine Kd.R_append k72 (w0 := w) w.heap.size rfl (.tmp 56) (.tmp 62) 46 72 (.agg #[(.string ⟨#[]⟩), (.int .i64 0), (.int .i64 0), (.int .i64 0), (.string ⟨#[]⟩)]) 56 rfl Try.underlying46 info72 rfl (by decide) (by omega) v428 y427 (⟨a1_0, (⟨a1_2, a1_3, a1_4, a1_5⟩ : S32)⟩ : S72) [.string a1_0, .int .i64 a1_2, .int .i64 a1_3, .int .i64 a1_4, .string a1_5] (fun k_ => some k_ ≠ (.slice Ao28 x5_1.length co28 : Value).ownBlock) (fun _ => False) rfl rfl ?aP (fun _ hk => hk.elim) ?aF ?aO ?aB ?aS ?aL ?_; (case aP => exact k72_mkM _ _ _ (⟨a1_0, (⟨a1_2, a1_3, a1_4, a1_5⟩ : S32)⟩ : S72)); (case aB => exact (hS HB.out)); (case aF => exact (fun k_ hk => Kd.fresh' (Kd.R_lt (rS HO_5.out)) k_ hk)); (case aO => exact (rS HO429.out)); (case aS => exact (below_size (hS HB.out))); (case aL => have := LMc24.out; omega); intro v431 w34 ho hb hg hat; rw [← Ny430.out] at ho; replace BK412 := Aside0.mk (blk_grown (bS BK412.out) hg (Kd.R_ne HO429.out BK412.out (by decide))); replace HB := Aside0.mk (hb); replace HR426 := Aside0.mk ((show Kd.C k72 w34 Ao28 y423.length y423 from by rw [Ny423.out]; exact Kd.C_take (m := (x7_2 : Int).toNat) ((Kd.R_reads' (Kd.R_after (ok := (fun _ => True)) (rS HO_5.out) hg hat)).2.2) KL31.out)); replace HO_5 := Aside0.mk (Kd.R_after (ok := (fun _ => True)) (rS HO_5.out) hg hat); have HO432 := Aside0.mk (ho); clear HO429; clear ho hb hg hat; have q35 : (x7_2 : Int) ≤ ((x5_1.length : Int) : Int) := of_decide_eq_true (by first | (with_reducible assumption) | assumption); obtain ⟨i035, hi035, _, hsz35, _⟩ := info_parts info72; have hroom35 : x5_1.length ≤ co28 := (Kd.R_reads' HO_5.out).2.1; have hC35 : Kd.C k72 _ Ao28 x5_1.length x5_1 := (Kd.R_reads' HO_5.out).2.2; have q035 : (0 : Int) ≤ (x7_2 : Int) := of_decide_eq_true (by first | (with_reducible assumption) | assumption); have hcut35 := cut_from (P := Try.prog) 46 72 .i64 Try.underlying46 hi035 5 hsz35 Ao28 x5_1.length co28 x7_2 q035 q35; have hr35 := Kd.C_drop (m := (x7_2 : Int).toNat) (c := co28) hC35 (by omega) hroom35; obtain ⟨A35, hA35⟩ : ∃ A1, A1 = (if co28 = (x7_2 : Int).toNat then Ao28 else (Ao28 : Option Addr).map (·.add ((x7_2 : Int).toNat * 5))) := ⟨_, rfl⟩; obtain ⟨c35, hc35⟩ : ∃ c1, c1 = co28 - (x7_2 : Int).toNat := ⟨_, rfl⟩; have hy35 : y433.length = x5_1.length - (x7_2 : Int).toNat := (by rw [Ny433.out, List.length_drop] <;> omega); rw [show (x5_1).drop (x7_2 : Int).toNat = y433 from Ny433.out.symm] at hr35; replace hr35 : Kd.C k72 _ A35 y433.length y433 := (by rw [hA35]; exact hr35); rw [← hy35, ← hA35, ← hc35] at hcut35; have HR436 := Aside0.mk hr35; have HC436 := Aside0.mk (show y433.length ≤ c35 from by rw [hy35, hc35]; exact Nat.sub_le_sub_right hroom35 _); clear hr35 hC35 hroom35 hi035 hsz35 hc35; have KY35 := Aside0.mk hy35; have KA35 := Aside0.mk hA35; clear hy35 hA35; have KL35 := Aside0.mk (show (x7_2 : Int).toNat ≤ x5_1.length from by omega); replace q35 := eq_true q35) | ((with_reducible refine gate_builtin (b := .append) (xs := #[.tmp 64, .tmp 67]) rfl ?_); at_builtin; refine Kd.R_append_rows k72 (w0 := w) w.heap.size rfl (.tmp 64) (.tmp 67) 46 72 (.agg #[(.string ⟨#[]⟩), (.int .i64 0), (.int .i64 0), (.int .i64 0), (.string ⟨#[]⟩)]) 56 rfl Try.underlying46 info72 rfl (by decide) (by omega) v431 y430 y433 _ _ _ (fun k_ => some k_ ≠ (.slice Ao28 x5_1.length co28 : Value).ownBlock) (fun _ => False) rfl rfl ?aO ?aR (fun _ _ h => h) (fun _ h => h.elim) ?aF ?aB ?aS ?aL ?_; (case aR => repeat (first | exact (by repeat (first | (with_reducible exact HR436.out) | (with_reducible refine Kd.C_alloc ?_ _) | (with_reducible refine Kd.C_drewN ?_ _) | (with_reducible refine Kd.C_drew ?_) | exact HR436.out)) | (with_reducible refine Kd.C_alloc ?_ _) | (with_reducible refine Kd.C_drewN ?_ _) | (with_reducible refine Kd.C_drew ?_))); (case aB => exact (hS HB.out)); (case aF => exact (fun k_ hk => Kd.fresh' (Kd.R_lt (rS HO_5.out)) k_ hk)); (case aO => exact (rS HO432.out)); (case aS => exact (below_size (hS HB.out))); (case aL => have := LMc27.out; omega); intro v438 w36 ho hb hg hat; rw [← Ny437.out] at ho; replace BK412 := Aside0.mk (blk_grown (bS BK412.out) hg (Kd.R_ne HO432.out BK412.out (by decide))); replace HB := Aside0.mk (hb); replace HR426 := Aside0.mk ((show Kd.C k72 w36 Ao28 y423.length y423 from by rw [Ny423.out]; exact Kd.C_take (m := (x7_2 : Int).toNat) ((Kd.R_reads' (Kd.R_after (ok := (fun _ => True)) (rS HO_5.out) hg hat)).2.2) KL31.out)); replace HR436 := Aside0.mk ((show Kd.C k72 w36 A35 y433.length y433 from by rw [Ny433.out, KA35.out]; exact Kd.C_drop (m := (x7_2 : Int).toNat) (c := co28) ((Kd.R_reads' (Kd.R_after (ok := (fun _ => True)) (rS HO_5.out) hg hat)).2.2) KL35.out ((Kd.R_reads' (Kd.R_after (ok := (fun _ => True)) (rS HO_5.out) hg hat)).2.1))); replace HO_5 := Aside0.mk (Kd.R_after (ok := (fun _ => True)) (rS HO_5.out) hg hat); have HO439 := Aside0.mk (ho); clear HO432; clear ho hb hg hat))
             repeat (go_quiet (first | ((with_reducible refine gate_dst (N := 51) rfl ?_); refine Kd.R_lit k72 _ 72 ?hg (N := 51) ?hd (xs := ([] : List (S72))) (inner := []) (ok := fun _ => True) (okp := fun _ => True) ?hr ?hp (fun _ hk => hk) trivial (Below.refl _ _) (Nat.le_refl _) (by simp) ?_; (case hd => rfl); (case hg => rfl); (case hr => first | (go_simp; done) | (go_simp; rfl)); (case hp => exact (Reps.none _ _)); intro v421 w29 ho30 hb hg_ hnew_; clear hg_ hnew_; (first | rw [← Ny420.out] at ho30 | (simp only [Int.reduceToNat] at ho30; rw [← Ny420.out] at ho30)); have HO422 := Aside0.mk (Kd.R_lower (Kd.R_new' ho30 (Kd.R_lt (rS HO_5.out))) (below_size (hS HB.out))); replace HO_5 := Aside0.mk (Kd.R_elder' (rS HO_5.out) (Kd.R_base ho30) hb); replace BK412 := Aside0.mk (blk_below (bS BK412.out) hb); replace HB := Aside0.mk (below_step (hS HB.out) hb); clear hb ho30; have q31 : (x7_2 : Int) ≤ ((x5_1.length : Int) : Int) := of_decide_eq_true (by first | (with_reducible assumption) | assumption); obtain ⟨i031, hi031, _, hsz31, _⟩ := info_parts info72; have hroom31 : x5_1.length ≤ co28 := (Kd.R_reads' HO_5.out).2.1; have hC31 : Kd.C k72 _ Ao28 x5_1.length x5_1 := (Kd.R_reads' HO_5.out).2.2; have hcut31 := cut_to (P := Try.prog) 46 72 .i64 Try.underlying46 hi031 Ao28 x5_1.length co28 x7_2 (of_decide_eq_true (by first | (with_reducible assumption) | assumption)) q31 hroom31; have hr31 := Kd.C_take (m := (x7_2 : Int).toNat) hC31 (by omega); have hy31 : y423.length = (x7_2 : Int).toNat := (by rw [Ny423.out, List.length_take]; omega); rw [← Ny423.out] at hr31; rw [← hy31] at hcut31; have HR426 := Aside0.mk hr31; have HC426 := Aside0.mk (show y423.length ≤ co28 from by omega); clear hr31 hC31 hroom31 hi031 hsz31; have KY31 := Aside0.mk hy31; clear hy31; have KL31 := Aside0.mk (show (x7_2 : Int).toNat ≤ x5_1.length from by omega); replace q31 := eq_true q31) | ((with_reducible refine gate_builtin (b := .append) (xs := #[.tmp 51, .tmp 54]) rfl ?_); at_builtin; refine Kd.R_append_rows k72 (w0 := w) w.heap.size rfl (.tmp 51) (.tmp 54) 46 72 (.agg #[(.string ⟨#[]⟩), (.int .i64 0), (.int .i64 0), (.int .i64 0), (.string ⟨#[]⟩)]) 56 rfl Try.underlying46 info72 rfl (by decide) (by omega) v421 y420 y423 _ _ _ (fun k_ => some k_ ≠ (.slice Ao28 x5_1.length co28 : Value).ownBlock) (fun _ => False) rfl rfl ?aO ?aR (fun _ _ h => h) (fun _ h => h.elim) ?aF ?aB ?aS ?aL ?_; (case aR => repeat (first | exact (by repeat (first | (with_reducible exact HR426.out) | (with_reducible refine Kd.C_alloc ?_ _) | (with_reducible refine Kd.C_drewN ?_ _) | (with_reducible refine Kd.C_drew ?_) | exact HR426.out)) | (with_reducible refine Kd.C_alloc ?_ _) | (with_reducible refine Kd.C_drewN ?_ _) | (with_reducible refine Kd.C_drew ?_))); (case aB => exact (hS HB.out)); (case aF => exact (fun k_ hk => Kd.fresh' (Kd.R_lt (rS HO_5.out)) k_ hk)); (case aO => exact (by (with_reducible repeat (first | apply Kd.R_alloc | apply Kd.R_drewN | apply Kd.R_drew)); exact Kd.R_mono HO422.out (fun _ hk => hk.2))); (case aS => exact (below_size (hS HB.out))); (case aL => have := LMc23.out; omega); intro v428 w32 ho hb hg hat; rw [← Ny427.out] at ho; replace BK412 := Aside0.mk (blk_grown (bS BK412.out) hg (Kd.R_ne HO422.out BK412.out (by decide))); replace HB := Aside0.mk (hb); replace HR426 := Aside0.mk ((show Kd.C k72 w32 Ao28 y423.length y423 from by rw [Ny423.out]; exact Kd.C_take (m := (x7_2 : Int).toNat) ((Kd.R_reads' (Kd.R_after (ok := (fun _ => True)) (rS HO_5.out) hg hat)).2.2) KL31.out)); replace HO_5 := Aside0.mk (Kd.R_after (ok := (fun _ => True)) (rS HO_5.out) hg hat); have HO429 := Aside0.mk (ho); clear HO422; clear ho hb hg hat; have hcz33_0 : w32.cell? ⟨gb412, 0, none⟩ = some (.string a1_0) := (blk_cell BK412.out 0).trans rfl; have hcz33_1 : w32.cell? ⟨gb412, 1, none⟩ = some (.bool true) := (blk_cell BK412.out 1).trans rfl; have hcz33_2 : w32.cell? ⟨gb412, 2, none⟩ = some (.int .i64 a1_2) := (blk_cell BK412.out 2).trans rfl; have hcz33_3 : w32.cell? ⟨gb412, 3, none⟩ = some (.int .i64 a1_3) := (blk_cell BK412.out 3).trans rfl; have hcz33_4 : w32.cell? ⟨gb412, 4, none⟩ = some (.int .i64 a1_4) := (blk_cell BK412.out 4).trans rfl; have hcz33_5 : w32.cell? ⟨gb412, 5, none⟩ = some (.string a1_5) := (blk_cell BK412.out 5).trans rfl; have hfz33_0 := blk_frozen BK412.out 0; have hfz33_1 := blk_frozen BK412.out 1; have hfz33_2 := blk_frozen BK412.out 2; have hfz33_3 := blk_frozen BK412.out 3; have hfz33_4 := blk_frozen BK412.out 4; have hfz33_5 := blk_frozen BK412.out 5) | ((with_reducible refine gate_builtin (b := .append) (xs := #[.tmp 56, .tmp 62]) rfl ?_); at_builtin; refine Kd.R_append k72 (w0 := w) w.heap.size rfl (.tmp 56) (.tmp 62) 46 72 (.agg #[(.string ⟨#[]⟩), (.int .i64 0), (.int .i64 0), (.int .i64 0), (.string ⟨#[]⟩)]) 56 rfl Try.underlying46 info72 rfl (by decide) (by omega) v428 y427 (⟨a1_0, (⟨a1_2, a1_3, a1_4, a1_5⟩ : S32)⟩ : S72) [.string a1_0, .int .i64 a1_2, .int .i64 a1_3, .int .i64 a1_4, .string a1_5] (fun k_ => some k_ ≠ (.slice Ao28 x5_1.length co28 : Value).ownBlock) (fun _ => False) rfl rfl ?aP (fun _ hk => hk.elim) ?aF ?aO ?aB ?aS ?aL ?_; (case aP => exact k72_mkM _ _ _ (⟨a1_0, (⟨a1_2, a1_3, a1_4, a1_5⟩ : S32)⟩ : S72)); (case aB => exact (hS HB.out)); (case aF => exact (fun k_ hk => Kd.fresh' (Kd.R_lt (rS HO_5.out)) k_ hk)); (case aO => exact (rS HO429.out)); (case aS => exact (below_size (hS HB.out))); (case aL => have := LMc24.out; omega); intro v431 w34 ho hb hg hat; rw [← Ny430.out] at ho; replace BK412 := Aside0.mk (blk_grown (bS BK412.out) hg (Kd.R_ne HO429.out BK412.out (by decide))); replace HB := Aside0.mk (hb); replace HR426 := Aside0.mk ((show Kd.C k72 w34 Ao28 y423.length y423 from by rw [Ny423.out]; exact Kd.C_take (m := (x7_2 : Int).toNat) ((Kd.R_reads' (Kd.R_after (ok := (fun _ => True)) (rS HO_5.out) hg hat)).2.2) KL31.out)); replace HO_5 := Aside0.mk (Kd.R_after (ok := (fun _ => True)) (rS HO_5.out) hg hat); have HO432 := Aside0.mk (ho); clear HO429; clear ho hb hg hat; have q35 : (x7_2 : Int) ≤ ((x5_1.length : Int) : Int) := of_decide_eq_true (by first | (with_reducible assumption) | assumption); obtain ⟨i035, hi035, _, hsz35, _⟩ := info_parts info72; have hroom35 : x5_1.length ≤ co28 := (Kd.R_reads' HO_5.out).2.1; have hC35 : Kd.C k72 _ Ao28 x5_1.length x5_1 := (Kd.R_reads' HO_5.out).2.2; have q035 : (0 : Int) ≤ (x7_2 : Int) := of_decide_eq_true (by first | (with_reducible assumption) | assumption); have hcut35 := cut_from (P := Try.prog) 46 72 .i64 Try.underlying46 hi035 5 hsz35 Ao28 x5_1.length co28 x7_2 q035 q35; have hr35 := Kd.C_drop (m := (x7_2 : Int).toNat) (c := co28) hC35 (by omega) hroom35; obtain ⟨A35, hA35⟩ : ∃ A1, A1 = (if co28 = (x7_2 : Int).toNat then Ao28 else (Ao28 : Option Addr).map (·.add ((x7_2 : Int).toNat * 5))) := ⟨_, rfl⟩; obtain ⟨c35, hc35⟩ : ∃ c1, c1 = co28 - (x7_2 : Int).toNat := ⟨_, rfl⟩; have hy35 : y433.length = x5_1.length - (x7_2 : Int).toNat := (by rw [Ny433.out, List.length_drop] <;> omega); rw [show (x5_1).drop (x7_2 : Int).toNat = y433 from Ny433.out.symm] at hr35; replace hr35 : Kd.C k72 _ A35 y433.length y433 := (by rw [hA35]; exact hr35); rw [← hy35, ← hA35, ← hc35] at hcut35; have HR436 := Aside0.mk hr35; have HC436 := Aside0.mk (show y433.length ≤ c35 from by rw [hy35, hc35]; exact Nat.sub_le_sub_right hroom35 _); clear hr35 hC35 hroom35 hi035 hsz35 hc35; have KY35 := Aside0.mk hy35; have KA35 := Aside0.mk hA35; clear hy35 hA35; have KL35 := Aside0.mk (show (x7_2 : Int).toNat ≤ x5_1.length from by omega); replace q35 := eq_true q35) | ((with_reducible refine gate_builtin (b := .append) (xs := #[.tmp 64, .tmp 67]) rfl ?_); at_builtin; refine Kd.R_append_rows k72 (w0 := w) w.heap.size rfl (.tmp 64) (.tmp 67) 46 72 (.agg #[(.string ⟨#[]⟩), (.int .i64 0), (.int .i64 0), (.int .i64 0), (.string ⟨#[]⟩)]) 56 rfl Try.underlying46 info72 rfl (by decide) (by omega) v431 y430 y433 _ _ _ (fun k_ => some k_ ≠ (.slice Ao28 x5_1.length co28 : Value).ownBlock) (fun _ => False) rfl rfl ?aO ?aR (fun _ _ h => h) (fun _ h => h.elim) ?aF ?aB ?aS ?aL ?_; (case aR => repeat (first | exact (by repeat (first | (with_reducible exact HR436.out) | (with_reducible refine Kd.C_alloc ?_ _) | (with_reducible refine Kd.C_drewN ?_ _) | (with_reducible refine Kd.C_drew ?_) | exact HR436.out)) | (with_reducible refine Kd.C_alloc ?_ _) | (with_reducible refine Kd.C_drewN ?_ _) | (with_reducible refine Kd.C_drew ?_))); (case aB => exact (hS HB.out)); (case aF => exact (fun k_ hk => Kd.fresh' (Kd.R_lt (rS HO_5.out)) k_ hk)); (case aO => exact (rS HO432.out)); (case aS => exact (below_size (hS HB.out))); (case aL => have := LMc27.out; omega); intro v438 w36 ho hb hg hat; rw [← Ny437.out] at ho; replace BK412 := Aside0.mk (blk_grown (bS BK412.out) hg (Kd.R_ne HO432.out BK412.out (by decide))); replace HB := Aside0.mk (hb); replace HR426 := Aside0.mk ((show Kd.C k72 w36 Ao28 y423.length y423 from by rw [Ny423.out]; exact Kd.C_take (m := (x7_2 : Int).toNat) ((Kd.R_reads' (Kd.R_after (ok := (fun _ => True)) (rS HO_5.out) hg hat)).2.2) KL31.out)); replace HR436 := Aside0.mk ((show Kd.C k72 w36 A35 y433.length y433 from by rw [Ny433.out, KA35.out]; exact Kd.C_drop (m := (x7_2 : Int).toNat) (c := co28) ((Kd.R_reads' (Kd.R_after (ok := (fun _ => True)) (rS HO_5.out) hg hat)).2.2) KL35.out ((Kd.R_reads' (Kd.R_after (ok := (fun _ => True)) (rS HO_5.out) hg hat)).2.1))); replace HO_5 := Aside0.mk (Kd.R_after (ok := (fun _ => True)) (rS HO_5.out) hg hat); have HO439 := Aside0.mk (ho); clear HO432; clear ho hb hg hat)); try go_wp2_with (first | ((with_reducible refine gate_dst (N := 51) rfl ?_); refine Kd.R_lit k72 _ 72 ?hg (N := 51) ?hd (xs := ([] : List (S72))) (inner := []) (ok := fun _ => True) (okp := fun _ => True) ?hr ?hp (fun _ hk => hk) trivial (Below.refl _ _) (Nat.le_refl _) (by simp) ?_; (case hd => rfl); (case hg => rfl); (case hr => first | (go_simp; done) | (go_simp; rfl)); (case hp => exact (Reps.none _ _)); intro v421 w29 ho30 hb hg_ hnew_; clear hg_ hnew_; (first | rw [← Ny420.out] at ho30 | (simp only [Int.reduceToNat] at ho30; rw [← Ny420.out] at ho30)); have HO422 := Aside0.mk (Kd.R_lower (Kd.R_new' ho30 (Kd.R_lt (rS HO_5.out))) (below_size (hS HB.out))); replace HO_5 := Aside0.mk (Kd.R_elder' (rS HO_5.out) (Kd.R_base ho30) hb); replace BK412 := Aside0.mk (blk_below (bS BK412.out) hb); replace HB := Aside0.mk (below_step (hS HB.out) hb); clear hb ho30; have q31 : (x7_2 : Int) ≤ ((x5_1.length : Int) : Int) := of_decide_eq_true (by first | (with_reducible assumption) | assumption); obtain ⟨i031, hi031, _, hsz31, _⟩ := info_parts info72; have hroom31 : x5_1.length ≤ co28 := (Kd.R_reads' HO_5.out).2.1; have hC31 : Kd.C k72 _ Ao28 x5_1.length x5_1 := (Kd.R_reads' HO_5.out).2.2; have hcut31 := cut_to (P := Try.prog) 46 72 .i64 Try.underlying46 hi031 Ao28 x5_1.length co28 x7_2 (of_decide_eq_true (by first | (with_reducible assumption) | assumption)) q31 hroom31; have hr31 := Kd.C_take (m := (x7_2 : Int).toNat) hC31 (by omega); have hy31 : y423.length = (x7_2 : Int).toNat := (by rw [Ny423.out, List.length_take]; omega); rw [← Ny423.out] at hr31; rw [← hy31] at hcut31; have HR426 := Aside0.mk hr31; have HC426 := Aside0.mk (show y423.length ≤ co28 from by omega); clear hr31 hC31 hroom31 hi031 hsz31; have KY31 := Aside0.mk hy31; clear hy31; have KL31 := Aside0.mk (show (x7_2 : Int).toNat ≤ x5_1.length from by omega); replace q31 := eq_true q31) | ((with_reducible refine gate_builtin (b := .append) (xs := #[.tmp 51, .tmp 54]) rfl ?_); at_builtin; refine Kd.R_append_rows k72 (w0 := w) w.heap.size rfl (.tmp 51) (.tmp 54) 46 72 (.agg #[(.string ⟨#[]⟩), (.int .i64 0), (.int .i64 0), (.int .i64 0), (.string ⟨#[]⟩)]) 56 rfl Try.underlying46 info72 rfl (by decide) (by omega) v421 y420 y423 _ _ _ (fun k_ => some k_ ≠ (.slice Ao28 x5_1.length co28 : Value).ownBlock) (fun _ => False) rfl rfl ?aO ?aR (fun _ _ h => h) (fun _ h => h.elim) ?aF ?aB ?aS ?aL ?_; (case aR => repeat (first | exact (by repeat (first | (with_reducible exact HR426.out) | (with_reducible refine Kd.C_alloc ?_ _) | (with_reducible refine Kd.C_drewN ?_ _) | (with_reducible refine Kd.C_drew ?_) | exact HR426.out)) | (with_reducible refine Kd.C_alloc ?_ _) | (with_reducible refine Kd.C_drewN ?_ _) | (with_reducible refine Kd.C_drew ?_))); (case aB => exact (hS HB.out)); (case aF => exact (fun k_ hk => Kd.fresh' (Kd.R_lt (rS HO_5.out)) k_ hk)); (case aO => exact (by (with_reducible repeat (first | apply Kd.R_alloc | apply Kd.R_drewN | apply Kd.R_drew)); exact Kd.R_mono HO422.out (fun _ hk => hk.2))); (case aS => exact (below_size (hS HB.out))); (case aL => have := LMc23.out; omega); intro v428 w32 ho hb hg hat; rw [← Ny427.out] at ho; replace BK412 := Aside0.mk (blk_grown (bS BK412.out) hg (Kd.R_ne HO422.out BK412.out (by decide))); replace HB := Aside0.mk (hb); replace HR426 := Aside0.mk ((show Kd.C k72 w32 Ao28 y423.length y423 from by rw [Ny423.out]; exact Kd.C_take (m := (x7_2 : Int).toNat) ((Kd.R_reads' (Kd.R_after (ok := (fun _ => True)) (rS HO_5.out) hg hat)).2.2) KL31.out)); replace HO_5 := Aside0.mk (Kd.R_after (ok := (fun _ => True)) (rS HO_5.out) hg hat); have HO429 := Aside0.mk (ho); clear HO422; clear ho hb hg hat; have hcz33_0 : w32.cell? ⟨gb412, 0, none⟩ = some (.string a1_0) := (blk_cell BK412.out 0).trans rfl; have hcz33_1 : w32.cell? ⟨gb412, 1, none⟩ = some (.bool true) := (blk_cell BK412.out 1).trans rfl; have hcz33_2 : w32.cell? ⟨gb412, 2, none⟩ = some (.int .i64 a1_2) := (blk_cell BK412.out 2).trans rfl; have hcz33_3 : w32.cell? ⟨gb412, 3, none⟩ = some (.int .i64 a1_3) := (blk_cell BK412.out 3).trans rfl; have hcz33_4 : w32.cell? ⟨gb412, 4, none⟩ = some (.int .i64 a1_4) := (blk_cell BK412.out 4).trans rfl; have hcz33_5 : w32.cell? ⟨gb412, 5, none⟩ = some (.string a1_5) := (blk_cell BK412.out 5).trans rfl; have hfz33_0 := blk_frozen BK412.out 0; have hfz33_1 := blk_frozen BK412.out 1; have hfz33_2 := blk_frozen BK412.out 2; have hfz33_3 := blk_frozen BK412.out 3; have hfz33_4 := blk_frozen BK412.out 4; have hfz33_5 := blk_frozen BK412.out 5) | ((with_reducible refine gate_builtin (b := .append) (xs := #[.tmp 56, .tmp 62]) rfl ?_); at_builtin; refine Kd.R_append k72 (w0 := w) w.heap.size rfl (.tmp 56) (.tmp 62) 46 72 (.agg #[(.string ⟨#[]⟩), (.int .i64 0), (.int .i64 0), (.int .i64 0), (.string ⟨#[]⟩)]) 56 rfl Try.underlying46 info72 rfl (by decide) (by omega) v428 y427 (⟨a1_0, (⟨a1_2, a1_3, a1_4, a1_5⟩ : S32)⟩ : S72) [.string a1_0, .int .i64 a1_2, .int .i64 a1_3, .int .i64 a1_4, .string a1_5] (fun k_ => some k_ ≠ (.slice Ao28 x5_1.length co28 : Value).ownBlock) (fun _ => False) rfl rfl ?aP (fun _ hk => hk.elim) ?aF ?aO ?aB ?aS ?aL ?_; (case aP => exact k72_mkM _ _ _ (⟨a1_0, (⟨a1_2, a1_3, a1_4, a1_5⟩ : S32)⟩ : S72)); (case aB => exact (hS HB.out)); (case aF => exact (fun k_ hk => Kd.fresh' (Kd.R_lt (rS HO_5.out)) k_ hk)); (case aO => exact (rS HO429.out)); (case aS => exact (below_size (hS HB.out))); (case aL => have := LMc24.out; omega); intro v431 w34 ho hb hg hat; rw [← Ny430.out] at ho; replace BK412 := Aside0.mk (blk_grown (bS BK412.out) hg (Kd.R_ne HO429.out BK412.out (by decide))); replace HB := Aside0.mk (hb); replace HR426 := Aside0.mk ((show Kd.C k72 w34 Ao28 y423.length y423 from by rw [Ny423.out]; exact Kd.C_take (m := (x7_2 : Int).toNat) ((Kd.R_reads' (Kd.R_after (ok := (fun _ => True)) (rS HO_5.out) hg hat)).2.2) KL31.out)); replace HO_5 := Aside0.mk (Kd.R_after (ok := (fun _ => True)) (rS HO_5.out) hg hat); have HO432 := Aside0.mk (ho); clear HO429; clear ho hb hg hat; have q35 : (x7_2 : Int) ≤ ((x5_1.length : Int) : Int) := of_decide_eq_true (by first | (with_reducible assumption) | assumption); obtain ⟨i035, hi035, _, hsz35, _⟩ := info_parts info72; have hroom35 : x5_1.length ≤ co28 := (Kd.R_reads' HO_5.out).2.1; have hC35 : Kd.C k72 _ Ao28 x5_1.length x5_1 := (Kd.R_reads' HO_5.out).2.2; have q035 : (0 : Int) ≤ (x7_2 : Int) := of_decide_eq_true (by first | (with_reducible assumption) | assumption); have hcut35 := cut_from (P := Try.prog) 46 72 .i64 Try.underlying46 hi035 5 hsz35 Ao28 x5_1.length co28 x7_2 q035 q35; have hr35 := Kd.C_drop (m := (x7_2 : Int).toNat) (c := co28) hC35 (by omega) hroom35; obtain ⟨A35, hA35⟩ : ∃ A1, A1 = (if co28 = (x7_2 : Int).toNat then Ao28 else (Ao28 : Option Addr).map (·.add ((x7_2 : Int).toNat * 5))) := ⟨_, rfl⟩; obtain ⟨c35, hc35⟩ : ∃ c1, c1 = co28 - (x7_2 : Int).toNat := ⟨_, rfl⟩; have hy35 : y433.length = x5_1.length - (x7_2 : Int).toNat := (by rw [Ny433.out, List.length_drop] <;> omega); rw [show (x5_1).drop (x7_2 : Int).toNat = y433 from Ny433.out.symm] at hr35; replace hr35 : Kd.C k72 _ A35 y433.length y433 := (by rw [hA35]; exact hr35); rw [← hy35, ← hA35, ← hc35] at hcut35; have HR436 := Aside0.mk hr35; have HC436 := Aside0.mk (show y433.length ≤ c35 from by rw [hy35, hc35]; exact Nat.sub_le_sub_right hroom35 _); clear hr35 hC35 hroom35 hi035 hsz35 hc35; have KY35 := Aside0.mk hy35; have KA35 := Aside0.mk hA35; clear hy35 hA35; have KL35 := Aside0.mk (show (x7_2 : Int).toNat ≤ x5_1.length from by omega); replace q35 := eq_true q35) | ((with_reducible refine gate_builtin (b := .append) (xs := #[.tmp 64, .tmp 67]) rfl ?_); at_builtin; refine Kd.R_append_rows k72 (w0 := w) w.heap.size rfl (.tmp 64) (.tmp 67) 46 72 (.agg #[(.string ⟨#[]⟩), (.int .i64 0), (.int .i64 0), (.int .i64 0), (.string ⟨#[]⟩)]) 56 rfl Try.underlying46 info72 rfl (by decide) (by omega) v431 y430 y433 _ _ _ (fun k_ => some k_ ≠ (.slice Ao28 x5_1.length co28 : Value).ownBlock) (fun _ => False) rfl rfl ?aO ?aR (fun _ _ h => h) (fun _ h => h.elim) ?aF ?aB ?aS ?aL ?_; (case aR => repeat (first | exact (by repeat (first | (with_reducible exact HR436.out) | (with_reducible refine Kd.C_alloc ?_ _) | (with_reducible refine Kd.C_drewN ?_ _) | (with_reducible refine Kd.C_drew ?_) | exact HR436.out)) | (with_reducible refine Kd.C_alloc ?_ _) | (with_reducible refine Kd.C_drewN ?_ _) | (with_reducible refine Kd.C_drew ?_))); (case aB => exact (hS HB.out)); (case aF => exact (fun k_ hk => Kd.fresh' (Kd.R_lt (rS HO_5.out)) k_ hk)); (case aO => exact (rS HO432.out)); (case aS => exact (below_size (hS HB.out))); (case aL => have := LMc27.out; omega); intro v438 w36 ho hb hg hat; rw [← Ny437.out] at ho; replace BK412 := Aside0.mk (blk_grown (bS BK412.out) hg (Kd.R_ne HO432.out BK412.out (by decide))); replace HB := Aside0.mk (hb); replace HR426 := Aside0.mk ((show Kd.C k72 w36 Ao28 y423.length y423 from by rw [Ny423.out]; exact Kd.C_take (m := (x7_2 : Int).toNat) ((Kd.R_reads' (Kd.R_after (ok := (fun _ => True)) (rS HO_5.out) hg hat)).2.2) KL31.out)); replace HR436 := Aside0.mk ((show Kd.C k72 w36 A35 y433.length y433 from by rw [Ny433.out, KA35.out]; exact Kd.C_drop (m := (x7_2 : Int).toNat) (c := co28) ((Kd.R_reads' (Kd.R_after (ok := (fun _ => True)) (rS HO_5.out) hg hat)).2.2) KL35.out ((Kd.R_reads' (Kd.R_after (ok := (fun _ => True)) (rS HO_5.out) hg hat)).2.1))); replace HO_5 := Aside0.mk (Kd.R_after (ok := (fun _ => True)) (rS HO_5.out) hg hat); have HO439 := Aside0.mk (ho); clear HO432; clear ho hb hg hat)))
             go_ret
             exact ⟨_, by first | rfl | (simp [errW_none, errW_some] <;> rfl) | (simp [*, errW_none, errW_some] <;> rfl), by (with_reducible repeat (first | apply Kd.R_alloc | apply Kd.R_drewN | apply Kd.R_drew)); exact Kd.R_mono HO439.out (fun _ hk => trivial), by repeat (first | (with_reducible first | exact HB.out | apply below_alloc | apply pw_below_drewN | apply below_drew1 | refine below_set ?_ GE412.out) | exact HB.out)⟩
            ·rw [if_neg c27] at H
             exact absurd H (by simp)
           ·rw [if_neg c24] at H
            exact absurd H (by simp)
          ·rw [if_neg c23] at H
           exact absurd H (by simp)
         ·rw [if_neg c22] at H
          exact absurd H (by simp)
        ·rw [if_neg c21] at H
         exact absurd H (by simp)
    ·replace c11 := Bool.eq_false_iff.mpr c11
     subst c11
     have H1 : (some x5_1) = some r := by rw [if_neg (show ¬ (false = true) by decide)] at H; exact H
     clear H
     have H := H1
     clear H1
     obtain rfl := Option.some.inj H
     have hcz37_0 : wr.cell? ⟨gb412, 0, none⟩ = some (.string a1_0) := (blk_cell BK412.out 0).trans rfl
     have hcz37_1 : wr.cell? ⟨gb412, 1, none⟩ = some (.bool false) := (blk_cell BK412.out 1).trans rfl
     have hcz37_2 : wr.cell? ⟨gb412, 2, none⟩ = some (.int .i64 a1_2) := (blk_cell BK412.out 2).trans rfl
     have hcz37_3 : wr.cell? ⟨gb412, 3, none⟩ = some (.int .i64 a1_3) := (blk_cell BK412.out 3).trans rfl
     have hcz37_4 : wr.cell? ⟨gb412, 4, none⟩ = some (.int .i64 a1_4) := (blk_cell BK412.out 4).trans rfl
     have hcz37_5 : wr.cell? ⟨gb412, 5, none⟩ = some (.string a1_5) := (blk_cell BK412.out 5).trans rfl
     have hfz37_0 := blk_frozen BK412.out 0
     have hfz37_1 := blk_frozen BK412.out 1
     have hfz37_2 := blk_frozen BK412.out 2
     have hfz37_3 := blk_frozen BK412.out 3
     have hfz37_4 := blk_frozen BK412.out 4
     have hfz37_5 := blk_frozen BK412.out 5
     go_wp2
     repeat (go_quiet (fail); try go_wp2)
     go_ret
     exact ⟨_, by first | rfl | (simp [errW_none, errW_some] <;> rfl) | (simp [*, errW_none, errW_some] <;> rfl), by (with_reducible repeat (first | apply Kd.R_alloc | apply Kd.R_drewN | apply Kd.R_drew)); exact HO_5.out, by repeat (first | (with_reducible first | exact HB.out | apply below_alloc | apply pw_below_drewN | apply below_drew1 | refine below_set ?_ GE412.out) | exact HB.out)⟩

/-! ### rollcallref17_Over: function 31 -/
def rollcallref17_Over.l0 : Nat → List (S72) → Int → List (S34) → Bool → Option ((List (S72)))
 | 0, _, _, _, _ => none
 | k + 1, x0, x5, x441000, x441001 => if x5 < (x441000.length : Int) then (if 0 ≤ x5 then ((rollcallref05_Set.f k x0 ((rd_T34 x441000 x5).f0) ((rd_T34 x441000 x5).f1) ((rd_T34 x441000 x5).f2.f0) ((rd_T34 x441000 x5).f2.f1) ((rd_T34 x441000 x5).f2.f2) ((rd_T34 x441000 x5).f2.f3)).bind fun t442 => (rollcallref17_Over.l0 k t442 (wrap64 (x5 + 1)) x441000 x441001)) else (none)) else (some x0)
def rollcallref17_Over.f (k : Nat) (l0 : List (S72)) (l1_0 : List (S34)) (a1_1 : Bool) : Option ((List (S72))) := rollcallref17_Over.l0 k l0 0 l1_0 a1_1
set_option maxHeartbeats 8000000 in
set_option maxRecDepth 100000 in
theorem rollcallref17_Over.calls (k : Nat) (P0_ : Nat → Prop) (A0 : Option Addr) (c0 : Nat) (l0 : List (S72)) (A1_0 : Option Addr) (c1_0 : Nat) (l1_0 : List (S34)) (a1_1 : Bool) (r : List (S72)) (w : World) (hs0 : Kd.V k72 72 w w.heap.size (fun k_ => P0_ k_) (.slice A0 l0.length c0) l0) (hr1_0 : Kd.C k34 w A1_0 l1_0.length l1_0) (hc1_0 : l1_0.length ≤ c1_0) (h : rollcallref17_Over.f k l0 l1_0 a1_1 = some r) :
  Calls Try.prog 31 #[.slice A0 l0.length c0, .agg #[.slice A1_0 l1_0.length c1_0, .bool a1_1]] w fun e w' => ∃ v0_ : Value, e = .returned (v0_) ∧ Kd.V k72 72 w' w.heap.size (fun k_ => (P0_ k_ ∨ w.heap.size ≤ k_)) v0_ r ∧ Below w.heap.size w w' := by
 have hu26 := Try.underlying26
 have hu34 := Try.underlying34
 have HO0 := Aside0.mk (show Kd.V k72 72 w w.heap.size (fun k_ => (P0_ k_ ∨ w.heap.size ≤ k_)) (.slice A0 l0.length c0) l0 from Kd.V_mono hs0 (fun k_ hk => .inl hk))
 have HR1_0 := Aside0.mk hr1_0
 have HC1_0 := Aside0.mk hc1_0
 clear hr1_0 hc1_0
 have HB := Aside0.mk (Below.refl w.heap.size w)
 have H : (rollcallref17_Over.l0 k l0 0 l1_0 a1_1) = some r := h
 clear h
 have H' := Aside0.mk H
 clear H
 go_enter Try.func31, Try.ntmps31
 go_wp2_with (first | ((with_reducible refine gate_dst (N := 3) rfl ?_); refine box_event ?hg (N := 3) ?hd (cs := #[.slice A1_0 l1_0.length c1_0, .bool a1_1]) (t := 26) ?hr ?_; (case hd => rfl); (case hg => rfl); (case hr => first | (go_simp; done) | (go_simp; rfl)); intro gb440 hg w3 hbox hb; replace HO0 := Aside0.mk (Kd.V_below (Kd.V_elderB (vS HO0.out) gb440 (Nat.le_of_eq hg.symm)) hb); have BK440 := Aside0.mk (hbox); have GW440 := Aside0.mk ((by rw [hg]; exact (below_size (hS HB.out)) : w.heap.size ≤ gb440)); have GE440 := Aside0.mk ((by rw [hg]; exact (below_size (hS HB.out)) : w.heap.size ≤ gb440)); replace HB := Aside0.mk (below_step (hS HB.out) hb); clear hb hbox hg))
 go_loopg [0, 5] k (fun kq v0 v5 w' => ∃ (x0_1 : List (S72)) (x5_1 : Int), v5 = .int .i64 x5_1 ∧ Aside0 (rollcallref17_Over.l0 kq x0_1 x5_1 l1_0 a1_1 = some r) ∧ Aside0 (kq ≤ k) ∧ Aside0 (Kd.V k72 72 w' w.heap.size (fun k_ => (P0_ k_ ∨ w.heap.size ≤ k_) ∧ k_ ≠ gb440) v0 x0_1) ∧ Aside0 (w'.heap[gb440]? = some (.cells #[(.slice A1_0 l1_0.length c1_0), .bool a1_1] 26 (0, 0))) ∧ Aside0 (Below w.heap.size w w'))
 case atStart => exact ⟨(l0), (0), (by first | rfl | (simp; done) | (simp [*]; done)), H', ⟨Nat.le_refl _⟩, ⟨vS HO0.out⟩, ⟨bS BK440.out⟩, ⟨by repeat (first | (with_reducible first | exact HB.out | apply below_alloc | apply pw_below_drewN | apply below_drew1 | refine below_set ?_ GE440.out) | exact HB.out)⟩⟩
 case round =>
  clear H'
  try clear c1
  try clear p2
  try clear c3
  obtain ⟨x0_1, x5_1, rfl, HA, HK1, HO_0, BK440, HB⟩ := hrel
  cases gk with
  | zero => exact absurd HA.out (by simp [rollcallref17_Over.l0])
  | succ k1 =>
   have H := HA.out
   clear HA
   simp only [rollcallref17_Over.l0] at H
   by_cases c4 : x5_1 < (l1_0.length : Int)
   ·rw [if_pos c4] at H
    have c4b0 : decide (x5_1 < (l1_0.length : Int)) = true := decide_eq_true c4
    clear c4
    by_cases c5 : 0 ≤ x5_1
    ·rw [if_pos c5] at H
     have c5b0 : decide (0 ≤ x5_1) = true := decide_eq_true c5
     clear c5
     replace H := Option.bind_eq_some_iff.mp H
     obtain ⟨t442, A60, H⟩ := H
     replace H : (rollcallref17_Over.l0 k1 t442 (wrap64 (x5_1 + 1)) l1_0 a1_1) = some r := H
     have A6 := Aside0.mk A60
     clear A60
     have H' := Aside0.mk H
     clear H
     have hcz7_0 : wr.cell? ⟨gb440, 0, none⟩ = some (.slice A1_0 l1_0.length c1_0) := (blk_cell BK440.out 0).trans rfl
     have hcz7_1 : wr.cell? ⟨gb440, 1, none⟩ = some (.bool a1_1) := (blk_cell BK440.out 1).trans rfl
     have hfz7_0 := blk_frozen BK440.out 0
     have hfz7_1 := blk_frozen BK440.out 1
     have p441 : 0 ≤ (x5_1 : Int) := of_decide_eq_true (by first | (with_reducible assumption) | assumption)
     have q441 : x5_1 < (l1_0.length : Int) := of_decide_eq_true (by first | (with_reducible assumption) | assumption)
     obtain ⟨ad441, e441, hx441_0, hx441_1, hx441_2, hx441_3, hx441_4, hx441_5⟩ := at_T34 HR1_0.out x5_1 p441 q441
     cases e441
     replace hx441_0 := (HB.out.cell (World.block_lt_of_cell? w _ hx441_0)).trans hx441_0
     replace hx441_1 := (HB.out.cell (World.block_lt_of_cell? w _ hx441_1)).trans hx441_1
     replace hx441_2 := (HB.out.cell (World.block_lt_of_cell? w _ hx441_2)).trans hx441_2
     replace hx441_3 := (HB.out.cell (World.block_lt_of_cell? w _ hx441_3)).trans hx441_3
     replace hx441_4 := (HB.out.cell (World.block_lt_of_cell? w _ hx441_4)).trans hx441_4
     replace hx441_5 := (HB.out.cell (World.block_lt_of_cell? w _ hx441_5)).trans hx441_5
     replace p441 := eq_true p441
     replace q441 := eq_true q441
     obtain ⟨Ao8, co8, eo8⟩ := Kd.V_slice HO_0.out
     subst eo8
     go_wp2_with (first | ((with_reducible refine gate_callee (f := 32) rfl ?_); refine goesL_ (some 19) rfl rfl Try.func32 (by kernel_rfl) rfl #[.slice Ao8 x0_1.length co8, .agg #[.string ((rd_T34 l1_0 x5_1).f0), .bool ((rd_T34 l1_0 x5_1).f1), .int .i64 ((rd_T34 l1_0 x5_1).f2.f0), .int .i64 ((rd_T34 l1_0 x5_1).f2.f1), .int .i64 ((rd_T34 l1_0 x5_1).f2.f2), .string ((rd_T34 l1_0 x5_1).f2.f3)]] rfl (by (try simp only [List.map_toArray, List.map_cons, List.map_nil]); first | done | rfl | (simp only [List.length_drop, List.length_take]; rfl)) ?_; (with_reducible refine (rollcallref05_Set.calls k1 _ _ x0_1 ((rd_T34 l1_0 x5_1).f0) ((rd_T34 l1_0 x5_1).f1) ((rd_T34 l1_0 x5_1).f2.f0) ((rd_T34 l1_0 x5_1).f2.f1) ((rd_T34 l1_0 x5_1).f2.f2) ((rd_T34 l1_0 x5_1).f2.f3) t442 _ ?side1 ?side2 A6.out).mono ?_); (case side1 => repeat (first | exact (Kd.V_reads' HO_0.out).2.2 | (with_reducible refine Kd.C_alloc ?_ _) | (with_reducible refine Kd.C_drewN ?_ _) | (with_reducible refine Kd.C_drew ?_))); (case side2 => exact (Kd.V_reads' HO_0.out).2.1); rintro e w9 ⟨v443, rfl, ho0, hb⟩; refine ⟨_, rfl, ?_⟩; replace HO_0 := Aside0.mk (Kd.V_elder' (vS HO_0.out) (Kd.R_base ho0) hb); have HO444 := Aside0.mk (Kd.R_lower (Kd.R_newM (M := fun k_ => (w.heap.size ≤ k_)) ho0 (below_size (hS HB.out)) (fun k_ h_ => h_)) (below_size (hS HB.out))); replace BK440 := Aside0.mk (blk_below (bS BK440.out) hb); replace HB := Aside0.mk (below_step (hS HB.out) hb); (try clear hb); (try clear hb2); (try clear hk); (try clear hi); (try clear ho0)))
     go_roundg k1
     case measure => have := HK1.out; omega
     case rel => exact ⟨(t442), (wrap64 (x5_1 + 1)), (by first | rfl | (simp; done) | (simp [*]; done)), H', ⟨by have := HK1.out; omega⟩, ⟨Kd.V_mono (Kd.R_V (by (with_reducible repeat (first | apply Kd.R_alloc | apply Kd.R_drewN | apply Kd.R_drew)); exact (Kd.R_types HO444.out BK440.out (by decide)))) (fun k_ hk => by first | exact ⟨.inr hk.1.1, hk.2⟩ | exact ⟨(.inr (hk.1)), hk.2⟩ | exact (.inr (hk)))⟩, ⟨bS BK440.out⟩, ⟨by repeat (first | (with_reducible first | exact HB.out | apply below_alloc | apply pw_below_drewN | apply below_drew1 | refine below_set ?_ GE440.out) | exact HB.out)⟩⟩
    ·rw [if_neg c5] at H
     exact absurd H (by simp)
   ·rw [if_neg c4] at H
    have c4b0 : decide (x5_1 < (l1_0.length : Int)) = false := decide_eq_false c4
    clear c4
    obtain rfl := Option.some.inj H
    have hcz10_0 : wr.cell? ⟨gb440, 0, none⟩ = some (.slice A1_0 l1_0.length c1_0) := (blk_cell BK440.out 0).trans rfl
    have hcz10_1 : wr.cell? ⟨gb440, 1, none⟩ = some (.bool a1_1) := (blk_cell BK440.out 1).trans rfl
    have hfz10_0 := blk_frozen BK440.out 0
    have hfz10_1 := blk_frozen BK440.out 1
    go_wp2
    go_ret
    exact ⟨_, by first | rfl | (simp [errW_none, errW_some] <;> rfl) | (simp [*, errW_none, errW_some] <;> rfl), by (with_reducible repeat (first | apply Kd.V_alloc | apply Kd.V_drewN | apply Kd.V_drew)); exact Kd.V_mono HO_0.out (fun _ hk => hk.1), by repeat (first | (with_reducible first | exact HB.out | apply below_alloc | apply pw_below_drewN | apply below_drew1 | refine below_set ?_ GE440.out) | exact HB.out)⟩

/-! ### queue_Pop: function 88 -/
def queue_Pop.f (l0_0 : List (S34)) (a0_1 : Bool) : Option (ByteArray × Bool × Int × Int × Int × ByteArray × (List (S34)) × Bool × Bool) := if (l0_0.length : Int) = 0 then (some ((⟨#[]⟩ : ByteArray), false, 0, 0, 0, (⟨#[]⟩ : ByteArray), l0_0, a0_1, false)) else (if 0 < (l0_0.length : Int) then (if 1 ≤ (l0_0.length : Int) then (some ((rd_T34 l0_0 0).f0, (rd_T34 l0_0 0).f1, (rd_T34 l0_0 0).f2.f0, (rd_T34 l0_0 0).f2.f1, (rd_T34 l0_0 0).f2.f2, (rd_T34 l0_0 0).f2.f3, (l0_0.drop 1), a0_1, true)) else (none)) else (none))
set_option maxHeartbeats 8000000 in
set_option maxRecDepth 100000 in
theorem queue_Pop.calls (P0_0_ : Nat → Prop) (A0_0 : Option Addr) (c0_0 : Nat) (l0_0 : List (S34)) (a0_1 : Bool) (r1 : ByteArray) (r2 : Bool) (r3 : Int) (r4 : Int) (r5 : Int) (r6 : ByteArray) (r7 : List (S34)) (r8 : Bool) (r9 : Bool) (w : World) (hs0_0 : Kd.V k34 34 w w.heap.size (fun k_ => P0_0_ k_) (.slice A0_0 l0_0.length c0_0) l0_0) (h : queue_Pop.f l0_0 a0_1 = some (r1, r2, r3, r4, r5, r6, r7, r8, r9)) :
  Calls Try.prog 88 #[.agg #[.slice A0_0 l0_0.length c0_0, .bool a0_1]] w fun e w' => ∃ v6_ : Value, e = .returned (.tuple #[.agg #[.string r1, .bool r2, .int .i64 r3, .int .i64 r4, .int .i64 r5, .string r6], .agg #[v6_, .bool r8], .bool r9]) ∧ Kd.V k34 34 w' w.heap.size (fun k_ => (P0_0_ k_ ∨ w.heap.size ≤ k_)) v6_ r7 ∧ Below w.heap.size w w' := by
 have hu26 := Try.underlying26
 have hu34 := Try.underlying34
 have HO0_0 := Aside0.mk (show Kd.V k34 34 w w.heap.size (fun k_ => (P0_0_ k_ ∨ w.heap.size ≤ k_)) (.slice A0_0 l0_0.length c0_0) l0_0 from Kd.V_mono hs0_0 (fun k_ hk => .inl hk))
 have HB := Aside0.mk (Below.refl w.heap.size w)
 have H : (if (l0_0.length : Int) = 0 then (some ((⟨#[]⟩ : ByteArray), false, 0, 0, 0, (⟨#[]⟩ : ByteArray), l0_0, a0_1, false)) else (if 0 < (l0_0.length : Int) then (if 1 ≤ (l0_0.length : Int) then (some ((rd_T34 l0_0 0).f0, (rd_T34 l0_0 0).f1, (rd_T34 l0_0 0).f2.f0, (rd_T34 l0_0 0).f2.f1, (rd_T34 l0_0 0).f2.f2, (rd_T34 l0_0 0).f2.f3, (l0_0.drop 1), a0_1, true)) else (none)) else (none))) = some (r1, r2, r3, r4, r5, r6, r7, r8, r9) := h
 clear h
 by_cases c2 : (l0_0.length : Int) = 0
 ·rw [if_pos c2] at H
  have c2b0 : ((l0_0.length : Int) == 0) = true := beq_iff_eq.mpr c2
  have c2b1 : ((l0_0.length : Int) != 0) = false := bne_eq_false_iff_eq.mpr c2
  clear c2
  simp only [Option.some.injEq, Prod.mk.injEq] at H
  obtain ⟨rfl, rfl, rfl, rfl, rfl, rfl, rfl, rfl, rfl⟩ := H
  go_enter Try.func88, Try.ntmps88
  try go_wp2_with (first | ((with_reducible refine gate_dst (N := 1) rfl ?_); refine box_event ?hg (N := 1) ?hd (cs := #[.slice A0_0 l0_0.length c0_0, .bool a0_1]) (t := 26) ?hr ?_; (case hd => rfl); (case hg => rfl); (case hr => first | (go_simp; done) | (go_simp; rfl)); intro gb445 hg w3 hbox hb; replace HO0_0 := Aside0.mk (Kd.V_below (Kd.V_elderB (vS HO0_0.out) gb445 (Nat.le_of_eq hg.symm)) hb); have BK445 := Aside0.mk (hbox); have GW445 := Aside0.mk ((by rw [hg]; exact (below_size (hS HB.out)) : w.heap.size ≤ gb445)); have GE445 := Aside0.mk ((by rw [hg]; exact (below_size (hS HB.out)) : w.heap.size ≤ gb445)); replace HB := Aside0.mk (below_step (hS HB.out) hb); clear hb hbox hg) | ((with_reducible refine gate_dst (N := 2) rfl ?_); refine box_event ?hg (N := 2) ?hd (cs := #[.string (⟨#[]⟩ : ByteArray), .bool false, .int .i64 0, .int .i64 0, .int .i64 0, .string (⟨#[]⟩ : ByteArray)]) (t := 34) ?hr ?_; (case hd => rfl); (case hg => rfl); (case hr => first | (go_simp; done) | (go_simp; rfl)); intro gb446 hg w4 hbox hb; replace HO0_0 := Aside0.mk (Kd.V_below (Kd.V_elderB (vS HO0_0.out) gb446 (Nat.le_of_eq hg.symm)) hb); have BK446 := Aside0.mk (hbox); have GW446 := Aside0.mk ((by rw [hg]; exact (below_size (hS HB.out)) : w.heap.size ≤ gb446)); have GE446 := Aside0.mk ((by rw [hg]; exact (below_size (hS HB.out)) : w.heap.size ≤ gb446)); replace HB := Aside0.mk (below_step (hS HB.out) hb); have NB445_446 := Aside0.mk ((by rw [hg]; exact Nat.ne_of_lt (blk_lt (bS BK445.out)) : gb445 ≠ gb446)); have NB446_445 := Aside0.mk ((by rw [hg]; exact Nat.ne_of_gt (blk_lt (bS BK445.out)) : gb446 ≠ gb445)); replace BK445 := Aside0.mk (blk_below (bS BK445.out) hb); clear hb hbox hg) | ((with_reducible refine gate_dst (N := 3) rfl ?_); refine box_event ?hg (N := 3) ?hd (cs := #[.slice none 0 0, .bool false]) (t := 26) ?hr ?_; (case hd => rfl); (case hg => rfl); (case hr => first | (go_simp; done) | (go_simp; rfl)); intro gb447 hg w5 hbox hb; replace HO0_0 := Aside0.mk (Kd.V_below (Kd.V_elderB (vS HO0_0.out) gb447 (Nat.le_of_eq hg.symm)) hb); have BK447 := Aside0.mk (hbox); have GW447 := Aside0.mk ((by rw [hg]; exact (below_size (hS HB.out)) : w.heap.size ≤ gb447)); have GE447 := Aside0.mk ((by rw [hg]; exact (below_size (hS HB.out)) : w.heap.size ≤ gb447)); replace HB := Aside0.mk (below_step (hS HB.out) hb); have NB445_447 := Aside0.mk ((by rw [hg]; exact Nat.ne_of_lt (blk_lt (bS BK445.out)) : gb445 ≠ gb447)); have NB447_445 := Aside0.mk ((by rw [hg]; exact Nat.ne_of_gt (blk_lt (bS BK445.out)) : gb447 ≠ gb445)); replace BK445 := Aside0.mk (blk_below (bS BK445.out) hb); have NB446_447 := Aside0.mk ((by rw [hg]; exact Nat.ne_of_lt (blk_lt (bS BK446.out)) : gb446 ≠ gb447)); have NB447_446 := Aside0.mk ((by rw [hg]; exact Nat.ne_of_gt (blk_lt (bS BK446.out)) : gb447 ≠ gb446)); replace BK446 := Aside0.mk (blk_below (bS BK446.out) hb); clear hb hbox hg; have hnb6 := NB445_446.out; have hnc6 := NB446_445.out; have hnb7 := NB445_447.out; have hnc7 := NB447_445.out; have hcz8_0 : w5.cell? ⟨gb445, 0, none⟩ = some (.slice A0_0 l0_0.length c0_0) := (blk_cell BK445.out 0).trans rfl; have hcz8_1 : w5.cell? ⟨gb445, 1, none⟩ = some (.bool a0_1) := (blk_cell BK445.out 1).trans rfl; have hfz8_0 := blk_frozen BK445.out 0; have hfz8_1 := blk_frozen BK445.out 1))
  replace HO0_0 := Aside0.mk (Kd.V_drew HO0_0.out)
  replace BK445 := Aside0.mk (blk_drew BK445.out)
  replace BK446 := Aside0.mk (blk_drew BK446.out)
  replace BK447 := Aside0.mk (blk_drew BK447.out)
  replace HB := Aside0.mk (below_drew1 HB.out)
  refine start_ (n := 5) (S := fun w' => w'.cell? ⟨gb445, 0, none⟩ = some (.slice A0_0 l0_0.length c0_0) ∧ w'.cell? ⟨gb445, 1, none⟩ = some (.bool a0_1)) (ds := []) #[false, false, false, false, false] (by kernel_rfl) rfl rfl ⟨(blk_cell BK445.out 0).trans rfl, (blk_cell BK445.out 1).trans rfl⟩ (fun hHeld => ?_)
  generalize w5.drew = w9 at HO0_0 BK445 BK446 BK447 HB hHeld ⊢
  refine pure_ (i := 0) (N := some 10) (v := ?_) (a' := ?_) #[true, false, false, false, false] rfl rfl (by kernel_rfl) (fun _ _ _ h => h) (Or.inl ⟨by rfl, ?_⟩) ?_ ?_
  rotate_left
  ·intro w'
   go_simp
   with_reducible rfl
  rotate_left
  ·simp only [Act.put, List.setIfInBounds_toArray, List.set_cons_zero, List.set_cons_succ, i64_w, i32_w]
   rfl
  refine take_ (i := 1) (N := some 11) (v := ?_) (a' := ?_) #[true, true, false, false, false] rfl rfl (by kernel_rfl) (fun _ _ _ h => h) (Or.inl ⟨by rfl, ?_⟩) hHeld ?_ ?_
  rotate_left
  ·rintro w' ⟨s0, s1⟩
   go_simp
   with_reducible rfl
  rotate_left
  ·simp only [Act.put, List.setIfInBounds_toArray, List.set_cons_zero, List.set_cons_succ, i64_w, i32_w]
   rfl
  refine one_ (i := 2) (N := none) #[true, true, true, false, false] rfl rfl (by kernel_rfl) (by decide) (fun K hK => ?_)
  have hs10 : w9.cell? ⟨gb446, 0, none⟩ = some (.string (⟨#[]⟩ : ByteArray)) := (blk_cell BK446.out 0).trans rfl
  have hfs10 := blk_frozen BK446.out 0
  have hns10_0 := NB445_446.out
  have hns10_2 := NB447_446.out
  have hms10_0 := NB446_445.out
  have hms10_2 := NB446_447.out
  have hs11 : w9.cell? ⟨gb446, 1, none⟩ = some (.bool false) := (blk_cell BK446.out 1).trans rfl
  have hfs11 := blk_frozen BK446.out 1
  have hns11_0 := NB445_446.out
  have hns11_2 := NB447_446.out
  have hms11_0 := NB446_445.out
  have hms11_2 := NB446_447.out
  have hs12 : w9.cell? ⟨gb446, 2, none⟩ = some (.int .i64 0) := (blk_cell BK446.out 2).trans rfl
  have hfs12 := blk_frozen BK446.out 2
  have hns12_0 := NB445_446.out
  have hns12_2 := NB447_446.out
  have hms12_0 := NB446_445.out
  have hms12_2 := NB446_447.out
  have hs13 : w9.cell? ⟨gb446, 3, none⟩ = some (.int .i64 0) := (blk_cell BK446.out 3).trans rfl
  have hfs13 := blk_frozen BK446.out 3
  have hns13_0 := NB445_446.out
  have hns13_2 := NB447_446.out
  have hms13_0 := NB446_445.out
  have hms13_2 := NB446_447.out
  have hs14 : w9.cell? ⟨gb446, 4, none⟩ = some (.int .i64 0) := (blk_cell BK446.out 4).trans rfl
  have hfs14 := blk_frozen BK446.out 4
  have hns14_0 := NB445_446.out
  have hns14_2 := NB447_446.out
  have hms14_0 := NB446_445.out
  have hms14_2 := NB446_447.out
  have hs15 : w9.cell? ⟨gb446, 5, none⟩ = some (.string (⟨#[]⟩ : ByteArray)) := (blk_cell BK446.out 5).trans rfl
  have hfs15 := blk_frozen BK446.out 5
  have hns15_0 := NB445_446.out
  have hns15_2 := NB447_446.out
  have hms15_0 := NB446_445.out
  have hms15_2 := NB446_447.out
  refine skip_ (w1 := ?_) (by rfl) rfl ?_ ?_
  rotate_left
  ·go_simp
   rfl
  refine hK.out _ _ ⟨((cell_far (p := ⟨gb446, _, none⟩) NB445_446.out _).trans (((cell_far (p := ⟨gb446, _, none⟩) NB445_446.out _).trans (((cell_far (p := ⟨gb446, _, none⟩) NB445_446.out _).trans (((cell_far (p := ⟨gb446, _, none⟩) NB445_446.out _).trans (((cell_far (p := ⟨gb446, _, none⟩) NB445_446.out _).trans (((cell_far (p := ⟨gb446, _, none⟩) NB445_446.out _).trans (hHeld.1)))))))))))), ((cell_far (p := ⟨gb446, _, none⟩) NB445_446.out _).trans (((cell_far (p := ⟨gb446, _, none⟩) NB445_446.out _).trans (((cell_far (p := ⟨gb446, _, none⟩) NB445_446.out _).trans (((cell_far (p := ⟨gb446, _, none⟩) NB445_446.out _).trans (((cell_far (p := ⟨gb446, _, none⟩) NB445_446.out _).trans (((cell_far (p := ⟨gb446, _, none⟩) NB445_446.out _).trans (hHeld.2))))))))))))⟩ (fun hHeld => ?_)
  clear hK K
  clear hs10 hfs10 hns10_0 hns10_2 hms10_0 hms10_2 hs11 hfs11 hns11_0 hns11_2 hms11_0 hms11_2 hs12 hfs12 hns12_0 hns12_2 hms12_0 hms12_2 hs13 hfs13 hns13_0 hns13_2 hms13_0 hms13_2 hs14 hfs14 hns14_0 hns14_2 hms14_0 hms14_2 hs15 hfs15 hns15_0 hns15_2 hms15_0 hms15_2
  generalize hq_ : ((((((w9.setCell ⟨gb446, 0, none⟩ (.string (⟨#[]⟩ : ByteArray))).setCell ⟨gb446, 1, none⟩ (.bool false)).setCell ⟨gb446, 2, none⟩ (.int .i64 0)).setCell ⟨gb446, 3, none⟩ (.int .i64 0)).setCell ⟨gb446, 4, none⟩ (.int .i64 0)).setCell ⟨gb446, 5, none⟩ (.string (⟨#[]⟩ : ByteArray))) = w9_c at hHeld ⊢
  have z_ := @id (((((((w9.setCell ⟨gb446, 0, none⟩ (.string (⟨#[]⟩ : ByteArray))).setCell ⟨gb446, 1, none⟩ (.bool false)).setCell ⟨gb446, 2, none⟩ (.int .i64 0)).setCell ⟨gb446, 3, none⟩ (.int .i64 0)).setCell ⟨gb446, 4, none⟩ (.int .i64 0)).setCell ⟨gb446, 5, none⟩ (.string (⟨#[]⟩ : ByteArray))).heap[gb446]? = some _) (bS (blk_put (bS (blk_put (bS (blk_put (bS (blk_put (bS (blk_put (bS (blk_put (bS BK446.out) 0 _ rfl)) 1 _ rfl)) 2 _ rfl)) 3 _ rfl)) 4 _ rfl)) 5 _ rfl)); rw [hq_] at z_; replace BK446 := Aside0.mk z_; clear z_
  have z_ := @id (((((((w9.setCell ⟨gb446, 0, none⟩ (.string (⟨#[]⟩ : ByteArray))).setCell ⟨gb446, 1, none⟩ (.bool false)).setCell ⟨gb446, 2, none⟩ (.int .i64 0)).setCell ⟨gb446, 3, none⟩ (.int .i64 0)).setCell ⟨gb446, 4, none⟩ (.int .i64 0)).setCell ⟨gb446, 5, none⟩ (.string (⟨#[]⟩ : ByteArray))).heap[gb447]? = some _) (bF BK447.out NB447_446.out); rw [hq_] at z_; replace BK447 := Aside0.mk z_; clear z_
  have z_ := @id (Kd.V _ _ ((((((w9.setCell ⟨gb446, 0, none⟩ (.string (⟨#[]⟩ : ByteArray))).setCell ⟨gb446, 1, none⟩ (.bool false)).setCell ⟨gb446, 2, none⟩ (.int .i64 0)).setCell ⟨gb446, 3, none⟩ (.int .i64 0)).setCell ⟨gb446, 4, none⟩ (.int .i64 0)).setCell ⟨gb446, 5, none⟩ (.string (⟨#[]⟩ : ByteArray))) _ _ _ _) (vF (b := gb446) (Kd.V_mono HO0_0.out (fun k_ hk => (⟨hk, hk.1.2⟩ : _ ∧ k_ ≠ gb446))) (fun _ hk => hk.2)); rw [hq_] at z_; replace HO0_0 := Aside0.mk z_; clear z_
  replace HB : Aside0 (Below w.heap.size w w9_c) := ⟨by rw [← hq_]; exact (by repeat (first | (with_reducible first | exact HB.out | apply below_alloc | apply pw_below_drewN | apply below_drew1 | refine below_set ?_ GE445.out | refine below_set ?_ GE446.out | refine below_set ?_ GE447.out) | exact HB.out))⟩
  clear hq_
  refine one_ (i := 3) (N := none) #[true, true, true, true, false] rfl rfl (by kernel_rfl) (by decide) (fun K hK => ?_)
  have hs16 : w9_c.cell? ⟨gb447, 0, none⟩ = some (.slice none 0 0) := (blk_cell BK447.out 0).trans rfl
  have hfs16 := blk_frozen BK447.out 0
  have hns16_0 := NB445_447.out
  have hns16_1 := NB446_447.out
  have hms16_0 := NB447_445.out
  have hms16_1 := NB447_446.out
  have hs17 : w9_c.cell? ⟨gb447, 1, none⟩ = some (.bool false) := (blk_cell BK447.out 1).trans rfl
  have hfs17 := blk_frozen BK447.out 1
  have hns17_0 := NB445_447.out
  have hns17_1 := NB446_447.out
  have hms17_0 := NB447_445.out
  have hms17_1 := NB447_446.out
  refine skip_ (w1 := ?_) (by rfl) rfl ?_ ?_
  rotate_left
  ·go_simp
   rfl
  refine hK.out _ _ ⟨((cell_far (p := ⟨gb447, _, none⟩) NB445_447.out _).trans (((cell_far (p := ⟨gb447, _, none⟩) NB445_447.out _).trans (hHeld.1)))), ((cell_far (p := ⟨gb447, _, none⟩) NB445_447.out _).trans (((cell_far (p := ⟨gb447, _, none⟩) NB445_447.out _).trans (hHeld.2))))⟩ (fun hHeld => ?_)
  clear hK K
  refine pure_ (i := 4) (N := some 4) (v := ?_) (a' := ?_) #[true, true, true, true, true] rfl rfl (by kernel_rfl) (fun _ _ _ h => h) (Or.inl ⟨by rfl, ?_⟩) ?_ ?_
  rotate_left
  ·intro w'
   go_simp
   with_reducible rfl
  rotate_left
  ·simp only [Act.put, List.setIfInBounds_toArray, List.set_cons_zero, List.set_cons_succ, i64_w, i32_w]
   rfl
  refine done_ (by kernel_rfl) ?_
  try go_wp2
  refine bodyPost_ret (results_list (rs := [.cell 2 34, .cell 3 26, .tmp 4]) rfl (by simp) (.cell gb446 34 #[.string (⟨#[]⟩ : ByteArray), .bool false, .int .i64 0, .int .i64 0, .int .i64 0, .string (⟨#[]⟩ : ByteArray)] (0, 0) _ rfl (bF BK446.out NB446_447.out) Try.underlying34 rfl (by kernel_rfl) (.cell gb447 26 #[.slice A0_0 l0_0.length c0_0, .bool a0_1] (0, 0) _ rfl (bS (blk_put (bS (blk_put BK447.out 0 _ rfl)) 1 _ rfl)) Try.underlying26 rfl (by kernel_rfl) (.tmp .nil)))) rfl ?_
  exact ⟨_, by first | rfl | (simp [errW_none, errW_some] <;> rfl) | (simp [*, errW_none, errW_some] <;> rfl), by (with_reducible repeat (first | apply Kd.V_alloc | apply Kd.V_drewN | apply Kd.V_drew)); exact Kd.V_mono (vF (b := gb447) (Kd.V_mono HO0_0.out (fun k_ hk => (⟨hk, hk.1.2⟩ : _ ∧ k_ ≠ gb447))) (fun _ hk => hk.2)) (fun _ hk => hk.1.1.1.1.1), by repeat (first | (with_reducible first | exact HB.out | apply below_alloc | apply pw_below_drewN | apply below_drew1 | refine below_set ?_ GE445.out | refine below_set ?_ GE446.out | refine below_set ?_ GE447.out) | exact HB.out)⟩
 ·rw [if_neg c2] at H
  have c2b0 : ((l0_0.length : Int) == 0) = false := beq_eq_false_iff_ne.mpr c2
  have c2b1 : ((l0_0.length : Int) != 0) = true := bne_iff_ne.mpr c2
  have c2b2 : ¬ (l0_0 = []) := fun h_ => c2 (by rw [h_]; rfl)
  by_cases c18 : 0 < (l0_0.length : Int)
  ·rw [if_pos c18] at H
   have c18b0 : decide (0 < (l0_0.length : Int)) = true := decide_eq_true c18
   have c18b1 : decide (0 < l0_0.length) = true := decide_eq_true (by omega)
   clear c18
   by_cases c19 : 1 ≤ (l0_0.length : Int)
   ·rw [if_pos c19] at H
    have c19b0 := eq_true c19
    have c19b1 : decide (1 ≤ (l0_0.length : Int)) = true := decide_eq_true c19
    clear c19
    obtain ⟨y450, hy450⟩ : ∃ y_ : List (S34), y_ = (l0_0.drop 1) := ⟨_, rfl⟩
    replace H : (some ((rd_T34 l0_0 0).f0, (rd_T34 l0_0 0).f1, (rd_T34 l0_0 0).f2.f0, (rd_T34 l0_0 0).f2.f1, (rd_T34 l0_0 0).f2.f2, (rd_T34 l0_0 0).f2.f3, y450, a0_1, true)) = some (r1, r2, r3, r4, r5, r6, r7, r8, r9) := by first | (rw [hy450]; with_reducible exact H) | (have H2_ := (Option.bind_some _ _).symm.trans H; rw [hy450]; with_reducible exact H2_) | (have H2_ := (Option.bind_some _ _).symm.trans H; with_reducible exact H2_) | with_reducible exact H | (rw [hy450]; exact H) | exact H
    have Ny450 := Aside0.mk hy450
    clear hy450
    simp only [Option.some.injEq, Prod.mk.injEq] at H
    obtain ⟨rfl, rfl, rfl, rfl, rfl, rfl, rfl, rfl, rfl⟩ := H
    go_enter Try.func88, Try.ntmps88
    try go_wp2_with (first | ((with_reducible refine gate_dst (N := 1) rfl ?_); refine box_event ?hg (N := 1) ?hd (cs := #[.slice A0_0 l0_0.length c0_0, .bool a0_1]) (t := 26) ?hr ?_; (case hd => rfl); (case hg => rfl); (case hr => first | (go_simp; done) | (go_simp; rfl)); intro gb445 hg w20 hbox hb; replace HO0_0 := Aside0.mk (Kd.V_below (Kd.V_elderB (vS HO0_0.out) gb445 (Nat.le_of_eq hg.symm)) hb); have BK445 := Aside0.mk (hbox); have GW445 := Aside0.mk ((by rw [hg]; exact (below_size (hS HB.out)) : w.heap.size ≤ gb445)); have GE445 := Aside0.mk ((by rw [hg]; exact (below_size (hS HB.out)) : w.heap.size ≤ gb445)); replace HB := Aside0.mk (below_step (hS HB.out) hb); clear hb hbox hg) | ((with_reducible refine gate_dst (N := 2) rfl ?_); refine box_event ?hg (N := 2) ?hd (cs := #[.string (⟨#[]⟩ : ByteArray), .bool false, .int .i64 0, .int .i64 0, .int .i64 0, .string (⟨#[]⟩ : ByteArray)]) (t := 34) ?hr ?_; (case hd => rfl); (case hg => rfl); (case hr => first | (go_simp; done) | (go_simp; rfl)); intro gb446 hg w21 hbox hb; replace HO0_0 := Aside0.mk (Kd.V_below (Kd.V_elderB (vS HO0_0.out) gb446 (Nat.le_of_eq hg.symm)) hb); have BK446 := Aside0.mk (hbox); have GW446 := Aside0.mk ((by rw [hg]; exact (below_size (hS HB.out)) : w.heap.size ≤ gb446)); have GE446 := Aside0.mk ((by rw [hg]; exact (below_size (hS HB.out)) : w.heap.size ≤ gb446)); replace HB := Aside0.mk (below_step (hS HB.out) hb); have NB445_446 := Aside0.mk ((by rw [hg]; exact Nat.ne_of_lt (blk_lt (bS BK445.out)) : gb445 ≠ gb446)); have NB446_445 := Aside0.mk ((by rw [hg]; exact Nat.ne_of_gt (blk_lt (bS BK445.out)) : gb446 ≠ gb445)); replace BK445 := Aside0.mk (blk_below (bS BK445.out) hb); clear hb hbox hg) | ((with_reducible refine gate_dst (N := 3) rfl ?_); refine box_event ?hg (N := 3) ?hd (cs := #[.slice none 0 0, .bool false]) (t := 26) ?hr ?_; (case hd => rfl); (case hg => rfl); (case hr => first | (go_simp; done) | (go_simp; rfl)); intro gb447 hg w22 hbox hb; replace HO0_0 := Aside0.mk (Kd.V_below (Kd.V_elderB (vS HO0_0.out) gb447 (Nat.le_of_eq hg.symm)) hb); have BK447 := Aside0.mk (hbox); have GW447 := Aside0.mk ((by rw [hg]; exact (below_size (hS HB.out)) : w.heap.size ≤ gb447)); have GE447 := Aside0.mk ((by rw [hg]; exact (below_size (hS HB.out)) : w.heap.size ≤ gb447)); replace HB := Aside0.mk (below_step (hS HB.out) hb); have NB445_447 := Aside0.mk ((by rw [hg]; exact Nat.ne_of_lt (blk_lt (bS BK445.out)) : gb445 ≠ gb447)); have NB447_445 := Aside0.mk ((by rw [hg]; exact Nat.ne_of_gt (blk_lt (bS BK445.out)) : gb447 ≠ gb445)); replace BK445 := Aside0.mk (blk_below (bS BK445.out) hb); have NB446_447 := Aside0.mk ((by rw [hg]; exact Nat.ne_of_lt (blk_lt (bS BK446.out)) : gb446 ≠ gb447)); have NB447_446 := Aside0.mk ((by rw [hg]; exact Nat.ne_of_gt (blk_lt (bS BK446.out)) : gb447 ≠ gb446)); replace BK446 := Aside0.mk (blk_below (bS BK446.out) hb); clear hb hbox hg; have hnb23 := NB445_446.out; have hnc23 := NB446_445.out; have hnb24 := NB445_447.out; have hnc24 := NB447_445.out; have hcz25_0 : w22.cell? ⟨gb445, 0, none⟩ = some (.slice A0_0 l0_0.length c0_0) := (blk_cell BK445.out 0).trans rfl; have hcz25_1 : w22.cell? ⟨gb445, 1, none⟩ = some (.bool a0_1) := (blk_cell BK445.out 1).trans rfl; have hfz25_0 := blk_frozen BK445.out 0; have hfz25_1 := blk_frozen BK445.out 1; have p448 : 0 ≤ (0 : Int) := (by omega); have q448 : 0 < (l0_0.length : Int) := of_decide_eq_true (by first | (with_reducible assumption) | assumption); obtain ⟨ad448, e448, hx448_0, hx448_1, hx448_2, hx448_3, hx448_4, hx448_5⟩ := at_T34 (Kd.V_reads' HO0_0.out).2.2 0 p448 q448; cases e448; have qi448 : (0 < l0_0.length) = True := eq_true (by omega); (try rw [show ((0 : Int)).toNat = 0 from rfl] at hx448_0); (try rw [show 0 * 6 = 0 from rfl] at hx448_0); (try rw [Addr.add_zero'] at hx448_0); (try rw [show ((0 : Int)).toNat = 0 from rfl] at hx448_1); (try rw [show 0 * 6 = 0 from rfl] at hx448_1); (try rw [Addr.add_zero'] at hx448_1); (try rw [show ((0 : Int)).toNat = 0 from rfl] at hx448_2); (try rw [show 0 * 6 = 0 from rfl] at hx448_2); (try rw [Addr.add_zero'] at hx448_2); (try rw [show ((0 : Int)).toNat = 0 from rfl] at hx448_3); (try rw [show 0 * 6 = 0 from rfl] at hx448_3); (try rw [Addr.add_zero'] at hx448_3); (try rw [show ((0 : Int)).toNat = 0 from rfl] at hx448_4); (try rw [show 0 * 6 = 0 from rfl] at hx448_4); (try rw [Addr.add_zero'] at hx448_4); (try rw [show ((0 : Int)).toNat = 0 from rfl] at hx448_5); (try rw [show 0 * 6 = 0 from rfl] at hx448_5); (try rw [Addr.add_zero'] at hx448_5); replace p448 := eq_true p448; replace q448 := eq_true q448) | ((with_reducible refine gate_dst (N := 5) rfl ?_); refine box_event ?hg (N := 5) ?hd (cs := #[.string (⟨#[]⟩ : ByteArray), .bool false, .int .i64 0, .int .i64 0, .int .i64 0, .string (⟨#[]⟩ : ByteArray)]) (t := 34) ?hr ?_; (case hd => rfl); (case hg => rfl); (case hr => first | (go_simp; done) | (go_simp; rfl)); intro gb449 hg w26 hbox hb; replace HO0_0 := Aside0.mk (Kd.V_below (Kd.V_elderB (vS HO0_0.out) gb449 (Nat.le_of_eq hg.symm)) hb); have BK449 := Aside0.mk (hbox); have GW449 := Aside0.mk ((by rw [hg]; exact (below_size (hS HB.out)) : w.heap.size ≤ gb449)); have GE449 := Aside0.mk ((by rw [hg]; exact (below_size (hS HB.out)) : w.heap.size ≤ gb449)); replace HB := Aside0.mk (below_step (hS HB.out) hb); have NB445_449 := Aside0.mk ((by rw [hg]; exact Nat.ne_of_lt (blk_lt (bS BK445.out)) : gb445 ≠ gb449)); have NB449_445 := Aside0.mk ((by rw [hg]; exact Nat.ne_of_gt (blk_lt (bS BK445.out)) : gb449 ≠ gb445)); replace BK445 := Aside0.mk (blk_below (bS BK445.out) hb); have NB446_449 := Aside0.mk ((by rw [hg]; exact Nat.ne_of_lt (blk_lt (bS BK446.out)) : gb446 ≠ gb449)); have NB449_446 := Aside0.mk ((by rw [hg]; exact Nat.ne_of_gt (blk_lt (bS BK446.out)) : gb449 ≠ gb446)); replace BK446 := Aside0.mk (blk_below (bS BK446.out) hb); have NB447_449 := Aside0.mk ((by rw [hg]; exact Nat.ne_of_lt (blk_lt (bS BK447.out)) : gb447 ≠ gb449)); have NB449_447 := Aside0.mk ((by rw [hg]; exact Nat.ne_of_gt (blk_lt (bS BK447.out)) : gb449 ≠ gb447)); replace BK447 := Aside0.mk (blk_below (bS BK447.out) hb); clear hb hbox hg; have hnb27 := NB449_445.out; have hnc27 := NB445_449.out; have hnb28 := NB449_446.out; have hnc28 := NB446_449.out; have hnb29 := NB449_447.out; have hnc29 := NB447_449.out; have hcz30_0 : w26.cell? ⟨gb449, 0, none⟩ = some (.string (⟨#[]⟩ : ByteArray)) := (blk_cell BK449.out 0).trans rfl; have hcz30_1 : w26.cell? ⟨gb449, 1, none⟩ = some (.bool false) := (blk_cell BK449.out 1).trans rfl; have hcz30_2 : w26.cell? ⟨gb449, 2, none⟩ = some (.int .i64 0) := (blk_cell BK449.out 2).trans rfl; have hcz30_3 : w26.cell? ⟨gb449, 3, none⟩ = some (.int .i64 0) := (blk_cell BK449.out 3).trans rfl; have hcz30_4 : w26.cell? ⟨gb449, 4, none⟩ = some (.int .i64 0) := (blk_cell BK449.out 4).trans rfl; have hcz30_5 : w26.cell? ⟨gb449, 5, none⟩ = some (.string (⟨#[]⟩ : ByteArray)) := (blk_cell BK449.out 5).trans rfl; have hfz30_0 := blk_frozen BK449.out 0; have hfz30_1 := blk_frozen BK449.out 1; have hfz30_2 := blk_frozen BK449.out 2; have hfz30_3 := blk_frozen BK449.out 3; have hfz30_4 := blk_frozen BK449.out 4; have hfz30_5 := blk_frozen BK449.out 5) | ((with_reducible refine gate_store (t := 34) (p := 5) rfl ?_); refine store_event (t := 34) (p := 5) (v := ?vo_w31) (w1 := ((((((w26.setCell ⟨gb449, 0, none⟩ (.string ((rd_T34 l0_0 0).f0))).setCell ⟨gb449, 1, none⟩ (.bool ((rd_T34 l0_0 0).f1))).setCell ⟨gb449, 2, none⟩ (.int .i64 ((rd_T34 l0_0 0).f2.f0))).setCell ⟨gb449, 3, none⟩ (.int .i64 ((rd_T34 l0_0 0).f2.f1))).setCell ⟨gb449, 4, none⟩ (.int .i64 ((rd_T34 l0_0 0).f2.f2))).setCell ⟨gb449, 5, none⟩ (.string ((rd_T34 l0_0 0).f2.f3)))) ?hg ?ho ?hn ?hr ?_; (case ho => rfl); (case hg => rfl); (case hn => rfl); (case hr => first | (go_simp; done) | (go_simp; rfl)); intro w31 hw; replace HO0_0 : Aside0 (Kd.V k34 34 w31 w.heap.size (fun k_ => (P0_0_ k_ ∨ w.heap.size ≤ k_) ∧ k_ ≠ gb445 ∧ k_ ≠ gb446 ∧ k_ ≠ gb447 ∧ k_ ≠ gb449) (.slice (some ad448) l0_0.length c0_0) l0_0) := ⟨(by rw [hw]; exact (by (with_reducible repeat (first | apply Kd.V_alloc | apply Kd.V_drewN | apply Kd.V_drew)); exact Kd.V_mono (vF (b := gb449) (Kd.V_mono HO0_0.out (fun k_ hk => (⟨hk, hk.2⟩ : _ ∧ k_ ≠ gb449))) (fun _ hk => hk.2)) (fun _ hk => ⟨hk.1.1.1.1.1, ⟨hk.1.1.1.1.2, ⟨hk.1.1.1.2, ⟨hk.1.1.2, hk.1.2⟩⟩⟩⟩)))⟩; replace BK445 : Aside0 (w31.heap[gb445]? = some (.cells #[.slice (some ad448) l0_0.length c0_0, .bool a0_1] 26 (0, 0))) := ⟨(by rw [hw]; exact (bF (BK445.out) NB445_449.out))⟩; replace BK446 : Aside0 (w31.heap[gb446]? = some (.cells #[.string (⟨#[]⟩ : ByteArray), .bool false, .int .i64 0, .int .i64 0, .int .i64 0, .string (⟨#[]⟩ : ByteArray)] 34 (0, 0))) := ⟨(by rw [hw]; exact (bF (BK446.out) NB446_449.out))⟩; replace BK447 : Aside0 (w31.heap[gb447]? = some (.cells #[.slice none 0 0, .bool false] 26 (0, 0))) := ⟨(by rw [hw]; exact (bF (BK447.out) NB447_449.out))⟩; replace BK449 : Aside0 (w31.heap[gb449]? = some (.cells #[.string ((rd_T34 l0_0 0).f0), .bool ((rd_T34 l0_0 0).f1), .int .i64 ((rd_T34 l0_0 0).f2.f0), .int .i64 ((rd_T34 l0_0 0).f2.f1), .int .i64 ((rd_T34 l0_0 0).f2.f2), .string ((rd_T34 l0_0 0).f2.f3)] 34 (0, 0))) := ⟨(by rw [hw]; exact (bS (blk_put (bS (blk_put (bS (blk_put (bS (blk_put (bS (blk_put (bS (blk_put (bS BK449.out) 0 _ rfl)) 1 _ rfl)) 2 _ rfl)) 3 _ rfl)) 4 _ rfl)) 5 _ rfl)))⟩; replace HB : Aside0 (Below w.heap.size w w31) := ⟨(by rw [hw]; exact (hF HB.out GE449.out))⟩; clear hw; have hcz32_0 : w31.cell? ⟨gb445, 0, none⟩ = some (.slice (some ad448) l0_0.length c0_0) := (blk_cell BK445.out 0).trans rfl; have hcz32_1 : w31.cell? ⟨gb445, 1, none⟩ = some (.bool a0_1) := (blk_cell BK445.out 1).trans rfl; have hfz32_0 := blk_frozen BK445.out 0; have hfz32_1 := blk_frozen BK445.out 1; have q33 : (1 : Int) ≤ ((l0_0.length : Int) : Int) := of_decide_eq_true (by first | (with_reducible assumption) | assumption); obtain ⟨i033, hi033, _, hsz33, _⟩ := info_parts info34; have hroom33 : l0_0.length ≤ c0_0 := (Kd.V_reads' HO0_0.out).2.1; have hC33 : Kd.F k34 _ _ (some ad448) l0_0.length l0_0 := (Kd.V_at (base := w.heap.size) HO0_0.out).2.2; have hcut33 := cut_from (P := Try.prog) 24 34 .i64 Try.underlying24 hi033 6 hsz33 (some ad448) l0_0.length c0_0 1 (by omega) q33; have hr33 := Kd.F_cut (m := (1 : Int).toNat) (c := c0_0) hC33 (by omega) hroom33; obtain ⟨A33, hA33⟩ : ∃ A1, A1 = (if c0_0 = (1 : Int).toNat then (some ad448) else ((some ad448) : Option Addr).map (·.add ((1 : Int).toNat * 6))) := ⟨_, rfl⟩; obtain ⟨c33, hc33⟩ : ∃ c1, c1 = c0_0 - (1 : Int).toNat := ⟨_, rfl⟩; have hy33 : y450.length = l0_0.length - (1 : Int).toNat := (by rw [Ny450.out, List.length_drop] <;> omega); rw [show (l0_0).drop (1 : Int).toNat = y450 from Ny450.out.symm] at hr33; replace hr33 : Kd.F k34 _ _ A33 y450.length y450 := (by rw [hA33]; exact hr33); rw [← hy33, ← hA33, ← hc33] at hcut33; have HO454 := Aside0.mk (show Kd.V k34 34 _ w.heap.size _ (.slice A33 y450.length c33) y450 from Kd.V_mk (by rw [hy33, hc33]; exact Nat.sub_le_sub_right hroom33 _) hr33); have HC454 := Aside0.mk (show y450.length ≤ c33 from by rw [hy33, hc33]; exact Nat.sub_le_sub_right hroom33 _); clear hr33 hC33 hroom33 hi033 hsz33 hc33; have KY33 := Aside0.mk hy33; have KA33 := Aside0.mk hA33; clear hy33 hA33; replace q33 := eq_true q33))
    have n0_ : Aside0 (Kd.V k34 34 (w31.setCell ⟨gb445, 0, none⟩ (.slice A33 y450.length c33)) w.heap.size (fun k_ => (P0_0_ k_ ∨ w.heap.size ≤ k_) ∧ k_ ≠ gb445 ∧ k_ ≠ gb446 ∧ k_ ≠ gb447 ∧ k_ ≠ gb449) (.slice (some ad448) l0_0.length c0_0) l0_0) := ⟨by (with_reducible repeat (first | apply Kd.V_alloc | apply Kd.V_drewN | apply Kd.V_drew)); exact Kd.V_mono (vF (b := gb445) (Kd.V_mono HO0_0.out (fun k_ hk => (⟨hk, hk.2.1⟩ : _ ∧ k_ ≠ gb445))) (fun _ hk => hk.2)) (fun _ hk => ⟨hk.1.1, ⟨hk.1.2.1, ⟨hk.1.2.2.1, ⟨hk.1.2.2.2.1, hk.1.2.2.2.2⟩⟩⟩⟩)⟩
    have n1_ : Aside0 (Kd.V k34 34 (w31.setCell ⟨gb445, 0, none⟩ (.slice A33 y450.length c33)) w.heap.size (fun k_ => (P0_0_ k_ ∨ w.heap.size ≤ k_) ∧ k_ ≠ gb445 ∧ k_ ≠ gb446 ∧ k_ ≠ gb447 ∧ k_ ≠ gb449) (.slice A33 y450.length c33) y450) := ⟨by (with_reducible repeat (first | apply Kd.V_alloc | apply Kd.V_drewN | apply Kd.V_drew)); exact Kd.V_mono (vF (b := gb445) (Kd.V_mono HO454.out (fun k_ hk => (⟨hk, hk.2.1⟩ : _ ∧ k_ ≠ gb445))) (fun _ hk => hk.2)) (fun _ hk => ⟨hk.1.1, ⟨hk.1.2.1, ⟨hk.1.2.2.1, ⟨hk.1.2.2.2.1, hk.1.2.2.2.2⟩⟩⟩⟩)⟩
    have n2_ : Aside0 ((w31.setCell ⟨gb445, 0, none⟩ (.slice A33 y450.length c33)).heap[gb445]? = some (.cells #[.slice A33 y450.length c33, .bool a0_1] 26 (0, 0))) := ⟨by refine bS ?_; refine blk_put (cs := #[.slice (some ad448) l0_0.length c0_0, .bool a0_1]) ?_ 0 _ rfl; refine bS ?_; exact BK445.out⟩
    have n3_ : Aside0 ((w31.setCell ⟨gb445, 0, none⟩ (.slice A33 y450.length c33)).heap[gb446]? = some (.cells #[.string (⟨#[]⟩ : ByteArray), .bool false, .int .i64 0, .int .i64 0, .int .i64 0, .string (⟨#[]⟩ : ByteArray)] 34 (0, 0))) := ⟨bF (BK446.out) NB446_445.out⟩
    have n4_ : Aside0 ((w31.setCell ⟨gb445, 0, none⟩ (.slice A33 y450.length c33)).heap[gb447]? = some (.cells #[.slice none 0 0, .bool false] 26 (0, 0))) := ⟨bF (BK447.out) NB447_445.out⟩
    have n5_ : Aside0 ((w31.setCell ⟨gb445, 0, none⟩ (.slice A33 y450.length c33)).heap[gb449]? = some (.cells #[.string ((rd_T34 l0_0 0).f0), .bool ((rd_T34 l0_0 0).f1), .int .i64 ((rd_T34 l0_0 0).f2.f0), .int .i64 ((rd_T34 l0_0 0).f2.f1), .int .i64 ((rd_T34 l0_0 0).f2.f2), .string ((rd_T34 l0_0 0).f2.f3)] 34 (0, 0))) := ⟨bF (BK449.out) NB449_445.out⟩
    have n6_ : Aside0 (Below w.heap.size w (w31.setCell ⟨gb445, 0, none⟩ (.slice A33 y450.length c33))) := ⟨by repeat (first | (with_reducible first | exact HB.out | apply below_alloc | apply pw_below_drewN | apply below_drew1 | refine below_set ?_ GE445.out | refine below_set ?_ GE446.out | refine below_set ?_ GE447.out | refine below_set ?_ GE449.out) | exact HB.out)⟩
    (try clear HO0_0)
    (try clear HO454)
    (try clear BK445)
    (try clear BK446)
    (try clear BK447)
    (try clear BK449)
    (try clear HB)
    generalize (w31.setCell ⟨gb445, 0, none⟩ (.slice A33 y450.length c33)) = w34 at n0_ n1_ n2_ n3_ n4_ n5_ n6_ ⊢
    have HO0_0 := n0_
    have HO454 := n1_
    have BK445 := n2_
    have BK446 := n3_
    have BK447 := n4_
    have BK449 := n5_
    have HB := n6_
    clear n0_ n1_ n2_ n3_ n4_ n5_ n6_
    replace HO0_0 := Aside0.mk (Kd.V_drew HO0_0.out)
    replace HO454 := Aside0.mk (Kd.V_drew HO454.out)
    replace BK445 := Aside0.mk (blk_drew BK445.out)
    replace BK446 := Aside0.mk (blk_drew BK446.out)
    replace BK447 := Aside0.mk (blk_drew BK447.out)
    replace BK449 := Aside0.mk (blk_drew BK449.out)
    replace HB := Aside0.mk (below_drew1 HB.out)
    refine start_ (n := 5) (S := fun w' => w'.cell? ⟨gb449, 0, none⟩ = some (.string ((rd_T34 l0_0 0).f0)) ∧ w'.cell? ⟨gb449, 1, none⟩ = some (.bool ((rd_T34 l0_0 0).f1)) ∧ w'.cell? ⟨gb449, 2, none⟩ = some (.int .i64 ((rd_T34 l0_0 0).f2.f0)) ∧ w'.cell? ⟨gb449, 3, none⟩ = some (.int .i64 ((rd_T34 l0_0 0).f2.f1)) ∧ w'.cell? ⟨gb449, 4, none⟩ = some (.int .i64 ((rd_T34 l0_0 0).f2.f2)) ∧ w'.cell? ⟨gb449, 5, none⟩ = some (.string ((rd_T34 l0_0 0).f2.f3)) ∧ w'.cell? ⟨gb445, 0, none⟩ = some (.slice A33 y450.length c33) ∧ w'.cell? ⟨gb445, 1, none⟩ = some (.bool a0_1)) (ds := []) #[false, false, false, false, false] (by kernel_rfl) rfl rfl ⟨(blk_cell BK449.out 0).trans rfl, (blk_cell BK449.out 1).trans rfl, (blk_cell BK449.out 2).trans rfl, (blk_cell BK449.out 3).trans rfl, (blk_cell BK449.out 4).trans rfl, (blk_cell BK449.out 5).trans rfl, (blk_cell BK445.out 0).trans rfl, (blk_cell BK445.out 1).trans rfl⟩ (fun hHeld => ?_)
    generalize w34.drew = w35 at HO0_0 HO454 BK445 BK446 BK447 BK449 HB hHeld ⊢
    refine take_ (i := 0) (N := some 20) (v := ?_) (a' := ?_) #[true, false, false, false, false] rfl rfl (by kernel_rfl) (fun _ _ _ h => h) (Or.inl ⟨by rfl, ?_⟩) hHeld ?_ ?_
    rotate_left
    ·rintro w' ⟨s0, s1, s2, s3, s4, s5, s6, s7⟩
     go_simp
     with_reducible rfl
    rotate_left
    ·simp only [Act.put, List.setIfInBounds_toArray, List.set_cons_zero, List.set_cons_succ, i64_w, i32_w]
     rfl
    refine take_ (i := 1) (N := some 21) (v := ?_) (a' := ?_) #[true, true, false, false, false] rfl rfl (by kernel_rfl) (fun _ _ _ h => h) (Or.inl ⟨by rfl, ?_⟩) hHeld ?_ ?_
    rotate_left
    ·rintro w' ⟨s0, s1, s2, s3, s4, s5, s6, s7⟩
     go_simp
     with_reducible rfl
    rotate_left
    ·simp only [Act.put, List.setIfInBounds_toArray, List.set_cons_zero, List.set_cons_succ, i64_w, i32_w]
     rfl
    refine one_ (i := 2) (N := none) #[true, true, true, false, false] rfl rfl (by kernel_rfl) (by decide) (fun K hK => ?_)
    have hs36 : w35.cell? ⟨gb446, 0, none⟩ = some (.string (⟨#[]⟩ : ByteArray)) := (blk_cell BK446.out 0).trans rfl
    have hfs36 := blk_frozen BK446.out 0
    have hns36_0 := NB445_446.out
    have hns36_2 := NB447_446.out
    have hns36_3 := NB449_446.out
    have hms36_0 := NB446_445.out
    have hms36_2 := NB446_447.out
    have hms36_3 := NB446_449.out
    have hs37 : w35.cell? ⟨gb446, 1, none⟩ = some (.bool false) := (blk_cell BK446.out 1).trans rfl
    have hfs37 := blk_frozen BK446.out 1
    have hns37_0 := NB445_446.out
    have hns37_2 := NB447_446.out
    have hns37_3 := NB449_446.out
    have hms37_0 := NB446_445.out
    have hms37_2 := NB446_447.out
    have hms37_3 := NB446_449.out
    have hs38 : w35.cell? ⟨gb446, 2, none⟩ = some (.int .i64 0) := (blk_cell BK446.out 2).trans rfl
    have hfs38 := blk_frozen BK446.out 2
    have hns38_0 := NB445_446.out
    have hns38_2 := NB447_446.out
    have hns38_3 := NB449_446.out
    have hms38_0 := NB446_445.out
    have hms38_2 := NB446_447.out
    have hms38_3 := NB446_449.out
    have hs39 : w35.cell? ⟨gb446, 3, none⟩ = some (.int .i64 0) := (blk_cell BK446.out 3).trans rfl
    have hfs39 := blk_frozen BK446.out 3
    have hns39_0 := NB445_446.out
    have hns39_2 := NB447_446.out
    have hns39_3 := NB449_446.out
    have hms39_0 := NB446_445.out
    have hms39_2 := NB446_447.out
    have hms39_3 := NB446_449.out
    have hs40 : w35.cell? ⟨gb446, 4, none⟩ = some (.int .i64 0) := (blk_cell BK446.out 4).trans rfl
    have hfs40 := blk_frozen BK446.out 4
    have hns40_0 := NB445_446.out
    have hns40_2 := NB447_446.out
    have hns40_3 := NB449_446.out
    have hms40_0 := NB446_445.out
    have hms40_2 := NB446_447.out
    have hms40_3 := NB446_449.out
    have hs41 : w35.cell? ⟨gb446, 5, none⟩ = some (.string (⟨#[]⟩ : ByteArray)) := (blk_cell BK446.out 5).trans rfl
    have hfs41 := blk_frozen BK446.out 5
    have hns41_0 := NB445_446.out
    have hns41_2 := NB447_446.out
    have hns41_3 := NB449_446.out
    have hms41_0 := NB446_445.out
    have hms41_2 := NB446_447.out
    have hms41_3 := NB446_449.out
    refine skip_ (w1 := ?_) (by rfl) rfl ?_ ?_
    rotate_left
    ·go_simp
     rfl
    refine hK.out _ _ ⟨((cell_far (p := ⟨gb446, _, none⟩) NB449_446.out _).trans (((cell_far (p := ⟨gb446, _, none⟩) NB449_446.out _).trans (((cell_far (p := ⟨gb446, _, none⟩) NB449_446.out _).trans (((cell_far (p := ⟨gb446, _, none⟩) NB449_446.out _).trans (((cell_far (p := ⟨gb446, _, none⟩) NB449_446.out _).trans (((cell_far (p := ⟨gb446, _, none⟩) NB449_446.out _).trans (hHeld.1)))))))))))), ((cell_far (p := ⟨gb446, _, none⟩) NB449_446.out _).trans (((cell_far (p := ⟨gb446, _, none⟩) NB449_446.out _).trans (((cell_far (p := ⟨gb446, _, none⟩) NB449_446.out _).trans (((cell_far (p := ⟨gb446, _, none⟩) NB449_446.out _).trans (((cell_far (p := ⟨gb446, _, none⟩) NB449_446.out _).trans (((cell_far (p := ⟨gb446, _, none⟩) NB449_446.out _).trans (hHeld.2.1)))))))))))), ((cell_far (p := ⟨gb446, _, none⟩) NB449_446.out _).trans (((cell_far (p := ⟨gb446, _, none⟩) NB449_446.out _).trans (((cell_far (p := ⟨gb446, _, none⟩) NB449_446.out _).trans (((cell_far (p := ⟨gb446, _, none⟩) NB449_446.out _).trans (((cell_far (p := ⟨gb446, _, none⟩) NB449_446.out _).trans (((cell_far (p := ⟨gb446, _, none⟩) NB449_446.out _).trans (hHeld.2.2.1)))))))))))), ((cell_far (p := ⟨gb446, _, none⟩) NB449_446.out _).trans (((cell_far (p := ⟨gb446, _, none⟩) NB449_446.out _).trans (((cell_far (p := ⟨gb446, _, none⟩) NB449_446.out _).trans (((cell_far (p := ⟨gb446, _, none⟩) NB449_446.out _).trans (((cell_far (p := ⟨gb446, _, none⟩) NB449_446.out _).trans (((cell_far (p := ⟨gb446, _, none⟩) NB449_446.out _).trans (hHeld.2.2.2.1)))))))))))), ((cell_far (p := ⟨gb446, _, none⟩) NB449_446.out _).trans (((cell_far (p := ⟨gb446, _, none⟩) NB449_446.out _).trans (((cell_far (p := ⟨gb446, _, none⟩) NB449_446.out _).trans (((cell_far (p := ⟨gb446, _, none⟩) NB449_446.out _).trans (((cell_far (p := ⟨gb446, _, none⟩) NB449_446.out _).trans (((cell_far (p := ⟨gb446, _, none⟩) NB449_446.out _).trans (hHeld.2.2.2.2.1)))))))))))), ((cell_far (p := ⟨gb446, _, none⟩) NB449_446.out _).trans (((cell_far (p := ⟨gb446, _, none⟩) NB449_446.out _).trans (((cell_far (p := ⟨gb446, _, none⟩) NB449_446.out _).trans (((cell_far (p := ⟨gb446, _, none⟩) NB449_446.out _).trans (((cell_far (p := ⟨gb446, _, none⟩) NB449_446.out _).trans (((cell_far (p := ⟨gb446, _, none⟩) NB449_446.out _).trans (hHeld.2.2.2.2.2.1)))))))))))), ((cell_far (p := ⟨gb446, _, none⟩) NB445_446.out _).trans (((cell_far (p := ⟨gb446, _, none⟩) NB445_446.out _).trans (((cell_far (p := ⟨gb446, _, none⟩) NB445_446.out _).trans (((cell_far (p := ⟨gb446, _, none⟩) NB445_446.out _).trans (((cell_far (p := ⟨gb446, _, none⟩) NB445_446.out _).trans (((cell_far (p := ⟨gb446, _, none⟩) NB445_446.out _).trans (hHeld.2.2.2.2.2.2.1)))))))))))), ((cell_far (p := ⟨gb446, _, none⟩) NB445_446.out _).trans (((cell_far (p := ⟨gb446, _, none⟩) NB445_446.out _).trans (((cell_far (p := ⟨gb446, _, none⟩) NB445_446.out _).trans (((cell_far (p := ⟨gb446, _, none⟩) NB445_446.out _).trans (((cell_far (p := ⟨gb446, _, none⟩) NB445_446.out _).trans (((cell_far (p := ⟨gb446, _, none⟩) NB445_446.out _).trans (hHeld.2.2.2.2.2.2.2))))))))))))⟩ (fun hHeld => ?_)
    clear hK K
    clear hs36 hfs36 hns36_0 hns36_2 hns36_3 hms36_0 hms36_2 hms36_3 hs37 hfs37 hns37_0 hns37_2 hns37_3 hms37_0 hms37_2 hms37_3 hs38 hfs38 hns38_0 hns38_2 hns38_3 hms38_0 hms38_2 hms38_3 hs39 hfs39 hns39_0 hns39_2 hns39_3 hms39_0 hms39_2 hms39_3 hs40 hfs40 hns40_0 hns40_2 hns40_3 hms40_0 hms40_2 hms40_3 hs41 hfs41 hns41_0 hns41_2 hns41_3 hms41_0 hms41_2 hms41_3
    generalize hq_ : ((((((w35.setCell ⟨gb446, 0, none⟩ (.string ((rd_T34 l0_0 0).f0))).setCell ⟨gb446, 1, none⟩ (.bool ((rd_T34 l0_0 0).f1))).setCell ⟨gb446, 2, none⟩ (.int .i64 ((rd_T34 l0_0 0).f2.f0))).setCell ⟨gb446, 3, none⟩ (.int .i64 ((rd_T34 l0_0 0).f2.f1))).setCell ⟨gb446, 4, none⟩ (.int .i64 ((rd_T34 l0_0 0).f2.f2))).setCell ⟨gb446, 5, none⟩ (.string ((rd_T34 l0_0 0).f2.f3))) = w35_c at hHeld ⊢
    have z_ := @id (((((((w35.setCell ⟨gb446, 0, none⟩ (.string ((rd_T34 l0_0 0).f0))).setCell ⟨gb446, 1, none⟩ (.bool ((rd_T34 l0_0 0).f1))).setCell ⟨gb446, 2, none⟩ (.int .i64 ((rd_T34 l0_0 0).f2.f0))).setCell ⟨gb446, 3, none⟩ (.int .i64 ((rd_T34 l0_0 0).f2.f1))).setCell ⟨gb446, 4, none⟩ (.int .i64 ((rd_T34 l0_0 0).f2.f2))).setCell ⟨gb446, 5, none⟩ (.string ((rd_T34 l0_0 0).f2.f3))).heap[gb446]? = some _) (bS (blk_put (bS (blk_put (bS (blk_put (bS (blk_put (bS (blk_put (bS (blk_put (bS BK446.out) 0 _ rfl)) 1 _ rfl)) 2 _ rfl)) 3 _ rfl)) 4 _ rfl)) 5 _ rfl)); rw [hq_] at z_; replace BK446 := Aside0.mk z_; clear z_
    have z_ := @id (((((((w35.setCell ⟨gb446, 0, none⟩ (.string ((rd_T34 l0_0 0).f0))).setCell ⟨gb446, 1, none⟩ (.bool ((rd_T34 l0_0 0).f1))).setCell ⟨gb446, 2, none⟩ (.int .i64 ((rd_T34 l0_0 0).f2.f0))).setCell ⟨gb446, 3, none⟩ (.int .i64 ((rd_T34 l0_0 0).f2.f1))).setCell ⟨gb446, 4, none⟩ (.int .i64 ((rd_T34 l0_0 0).f2.f2))).setCell ⟨gb446, 5, none⟩ (.string ((rd_T34 l0_0 0).f2.f3))).heap[gb447]? = some _) (bF BK447.out NB447_446.out); rw [hq_] at z_; replace BK447 := Aside0.mk z_; clear z_
    have z_ := @id (Kd.V _ _ ((((((w35.setCell ⟨gb446, 0, none⟩ (.string ((rd_T34 l0_0 0).f0))).setCell ⟨gb446, 1, none⟩ (.bool ((rd_T34 l0_0 0).f1))).setCell ⟨gb446, 2, none⟩ (.int .i64 ((rd_T34 l0_0 0).f2.f0))).setCell ⟨gb446, 3, none⟩ (.int .i64 ((rd_T34 l0_0 0).f2.f1))).setCell ⟨gb446, 4, none⟩ (.int .i64 ((rd_T34 l0_0 0).f2.f2))).setCell ⟨gb446, 5, none⟩ (.string ((rd_T34 l0_0 0).f2.f3))) _ _ _ _) (vF (b := gb446) (Kd.V_mono HO454.out (fun k_ hk => (⟨hk, hk.2.2.1⟩ : _ ∧ k_ ≠ gb446))) (fun _ hk => hk.2)); rw [hq_] at z_; replace HO454 := Aside0.mk z_; clear z_
    replace HB : Aside0 (Below w.heap.size w w35_c) := ⟨by rw [← hq_]; exact (by repeat (first | (with_reducible first | exact HB.out | apply below_alloc | apply pw_below_drewN | apply below_drew1 | refine below_set ?_ GE445.out | refine below_set ?_ GE446.out | refine below_set ?_ GE447.out | refine below_set ?_ GE449.out) | exact HB.out))⟩
    clear hq_
    refine one_ (i := 3) (N := none) #[true, true, true, true, false] rfl rfl (by kernel_rfl) (by decide) (fun K hK => ?_)
    have hs42 : w35_c.cell? ⟨gb447, 0, none⟩ = some (.slice none 0 0) := (blk_cell BK447.out 0).trans rfl
    have hfs42 := blk_frozen BK447.out 0
    have hns42_0 := NB445_447.out
    have hns42_1 := NB446_447.out
    have hns42_3 := NB449_447.out
    have hms42_0 := NB447_445.out
    have hms42_1 := NB447_446.out
    have hms42_3 := NB447_449.out
    have hs43 : w35_c.cell? ⟨gb447, 1, none⟩ = some (.bool false) := (blk_cell BK447.out 1).trans rfl
    have hfs43 := blk_frozen BK447.out 1
    have hns43_0 := NB445_447.out
    have hns43_1 := NB446_447.out
    have hns43_3 := NB449_447.out
    have hms43_0 := NB447_445.out
    have hms43_1 := NB447_446.out
    have hms43_3 := NB447_449.out
    refine skip_ (w1 := ?_) (by rfl) rfl ?_ ?_
    rotate_left
    ·go_simp
     rfl
    refine hK.out _ _ ⟨((cell_far (p := ⟨gb447, _, none⟩) NB449_447.out _).trans (((cell_far (p := ⟨gb447, _, none⟩) NB449_447.out _).trans (hHeld.1)))), ((cell_far (p := ⟨gb447, _, none⟩) NB449_447.out _).trans (((cell_far (p := ⟨gb447, _, none⟩) NB449_447.out _).trans (hHeld.2.1)))), ((cell_far (p := ⟨gb447, _, none⟩) NB449_447.out _).trans (((cell_far (p := ⟨gb447, _, none⟩) NB449_447.out _).trans (hHeld.2.2.1)))), ((cell_far (p := ⟨gb447, _, none⟩) NB449_447.out _).trans (((cell_far (p := ⟨gb447, _, none⟩) NB449_447.out _).trans (hHeld.2.2.2.1)))), ((cell_far (p := ⟨gb447, _, none⟩) NB449_447.out _).trans (((cell_far (p := ⟨gb447, _, none⟩) NB449_447.out _).trans (hHeld.2.2.2.2.1)))), ((cell_far (p := ⟨gb447, _, none⟩) NB449_447.out _).trans (((cell_far (p := ⟨gb447, _, none⟩) NB449_447.out _).trans (hHeld.2.2.2.2.2.1)))), ((cell_far (p := ⟨gb447, _, none⟩) NB445_447.out _).trans (((cell_far (p := ⟨gb447, _, none⟩) NB445_447.out _).trans (hHeld.2.2.2.2.2.2.1)))), ((cell_far (p := ⟨gb447, _, none⟩) NB445_447.out _).trans (((cell_far (p := ⟨gb447, _, none⟩) NB445_447.out _).trans (hHeld.2.2.2.2.2.2.2))))⟩ (fun hHeld => ?_)
    clear hK K
    refine pure_ (i := 4) (N := some 4) (v := ?_) (a' := ?_) #[true, true, true, true, true] rfl rfl (by kernel_rfl) (fun _ _ _ h => h) (Or.inl ⟨by rfl, ?_⟩) ?_ ?_
    rotate_left
    ·intro w'
     go_simp
     with_reducible rfl
    rotate_left
    ·simp only [Act.put, List.setIfInBounds_toArray, List.set_cons_zero, List.set_cons_succ, i64_w, i32_w]
     rfl
    refine done_ (by kernel_rfl) ?_
    try go_wp2
    refine bodyPost_ret (results_list (rs := [.cell 2 34, .cell 3 26, .tmp 4]) rfl (by simp) (.cell gb446 34 #[.string ((rd_T34 l0_0 0).f0), .bool ((rd_T34 l0_0 0).f1), .int .i64 ((rd_T34 l0_0 0).f2.f0), .int .i64 ((rd_T34 l0_0 0).f2.f1), .int .i64 ((rd_T34 l0_0 0).f2.f2), .string ((rd_T34 l0_0 0).f2.f3)] (0, 0) _ rfl (bF BK446.out NB446_447.out) Try.underlying34 rfl (by kernel_rfl) (.cell gb447 26 #[.slice A33 y450.length c33, .bool a0_1] (0, 0) _ rfl (bS (blk_put (bS (blk_put BK447.out 0 _ rfl)) 1 _ rfl)) Try.underlying26 rfl (by kernel_rfl) (.tmp .nil)))) rfl ?_
    exact ⟨_, by first | rfl | (simp [errW_none, errW_some] <;> rfl) | (simp [*, errW_none, errW_some] <;> rfl), by (with_reducible repeat (first | apply Kd.V_alloc | apply Kd.V_drewN | apply Kd.V_drew)); exact Kd.V_mono (vF (b := gb447) (Kd.V_mono HO454.out (fun k_ hk => (⟨hk, hk.1.2.2.2.1⟩ : _ ∧ k_ ≠ gb447))) (fun _ hk => hk.2)) (fun _ hk => hk.1.1.1), by repeat (first | (with_reducible first | exact HB.out | apply below_alloc | apply pw_below_drewN | apply below_drew1 | refine below_set ?_ GE445.out | refine below_set ?_ GE446.out | refine below_set ?_ GE447.out | refine below_set ?_ GE449.out) | exact HB.out)⟩
   ·rw [if_neg c19] at H
    exact absurd H (by simp)
  ·rw [if_neg c18] at H
   exact absurd H (by simp)

end Go.Proofs.Ytmigglldahkngaa.PA
end

section
/- link's talk, walked: what is told next. -/
namespace Go.Proofs.Ytmigglldahkngaa.XTell
open Go.RowKit Go.Proofs.YtmigglldahkngaaW.PrintWords Go.Proofs.YtmigglldahkngaaW.PrintLast Go.Proofs.YtmigglldahkngaaW.PrintMore Go.Proofs.Ytmigglldahkngaa.PA Go.Proofs.Ytmigglldahkngaa.XMem Go.Proofs.Ytmigglldahkngaa.XSum Go.Proofs.Ytmigglldahkngaa.XQuiet
set_option linter.unusedVariables false
set_option linter.unusedSimpArgs false
set_option maxRecDepth 100000
abbrev Ch := S34
abbrev kCh : Kd Ch := k34
abbrev Fr := S60
abbrev kFr : Kd Fr := k60
/-- A talk's cells. -/
abbrev tc (s : Int) (L : Value) (lat : Bool) (tok at_ : Int) (sn : Bool) (dg c0 c1 c2 c3 : Int) (V : Value) (now : Int) : Array Value :=
 #[.int .i64 s, L, .bool lat, .int .i64 tok, .int .i64 at_, .bool sn, .int .i64 dg, .int .i64 c0, .int .i64 c1, .int .i64 c2, .int .i64 c3, V, .int .i64 now]
/-- A frame's cells. -/
abbrev fc (kd sq : Int) (on : Bool) (ct : ByteArray) (v0 v1 v2 : Int) (v3 : ByteArray) (sum : Int) (T : Value) : Array Value :=
 #[.int .i64 kd, .int .i64 sq, .bool on, .string ct, .int .i64 v0, .int .i64 v1, .int .i64 v2, .string v3, .int .u64 sum, T]
abbrev TT : TypeId := 80
abbrev TF : TypeId := 60
/-- Two blocks are written; all else is as it was, but for new memory. -/
structure Tell (w0 w w' : World) (p q : Nat) (cp cq : Array Value) : Prop where
 bel : Below w0.heap.size w0 w'
 tp : w'.heap[p]? = some (.cells cp TT (0, 0))
 tq : w'.heap[q]? = some (.cells cq TF (0, 0))
 size : w.heap.size ≤ w'.heap.size
 keep : ∀ k, k < w.heap.size → k ≠ p → k ≠ q → w'.heap[k]? = w.heap[k]?
theorem Tell.start {w0 w : World} {p q : Nat} {cp cq : Array Value} (hB : Below w0.heap.size w0 w) (tp : w.heap[p]? = some (.cells cp TT (0, 0))) (tq : w.heap[q]? = some (.cells cq TF (0, 0))) : Tell w0 w w p q cp cq :=
 ⟨hB, tp, tq, Nat.le_refl _, fun _ _ _ _ => rfl⟩
theorem Tell.below {w0 w w' w2 : World} {p q : Nat} {cp cq : Array Value} (h : Tell w0 w w' p q cp cq) (hb : Below w'.heap.size w' w2) : Tell w0 w w2 p q cp cq :=
 ⟨below_step h.bel hb, blk_below h.tp hb, blk_below h.tq hb, Nat.le_trans h.size hb.size, fun k h1 h2 h3 => (hb.block k (Nat.lt_of_lt_of_le h1 h.size)).trans (h.keep k h1 h2 h3)⟩
theorem Tell.setp {w0 w w' : World} {p q : Nat} {cp cq : Array Value} (h : Tell w0 w w' p q cp cq) (hp : w0.heap.size ≤ p) (hne : p ≠ q) (i : Nat) (v : Value) : Tell w0 w (w'.setCell ⟨p, i, none⟩ v) p q (cp.setIfInBounds i v) cq :=
 ⟨below_set h.bel hp, blk_set h.tp i v, blk_far h.tq (p := ⟨p, i, none⟩) (fun e => hne e.symm) v, Nat.le_trans h.size (by simp [World.setCell]), fun k h1 h2 h3 => (Below.heap_setCell w' ⟨p, i, none⟩ v k (fun e => h2 e)).trans (h.keep k h1 h2 h3)⟩
theorem Tell.setq {w0 w w' : World} {p q : Nat} {cp cq : Array Value} (h : Tell w0 w w' p q cp cq) (hq : w0.heap.size ≤ q) (hne : p ≠ q) (i : Nat) (v : Value) : Tell w0 w (w'.setCell ⟨q, i, none⟩ v) p q cp (cq.setIfInBounds i v) :=
 ⟨below_set h.bel hq, blk_far h.tp (p := ⟨q, i, none⟩) hne v, blk_set h.tq i v, Nat.le_trans h.size (by simp [World.setCell]), fun k h1 h2 h3 => (Below.heap_setCell w' ⟨q, i, none⟩ v k (fun e => h3 e)).trans (h.keep k h1 h2 h3)⟩
theorem snapshot_no (s : Int) (L : Value) (lat : Bool) (tok at_ dg c0 c1 c2 c3 : Int) (V : Value) (now : Int) (p q : Nat) (w : World) (tp : w.heap[p]? = some (.cells (tc s L lat tok at_ false dg c0 c1 c2 c3 V now) TT (0, 0))) :
  Calls Try.prog 75 #[.pointer (some ⟨p, 0, none⟩), .pointer (some ⟨q, 0, none⟩)] w fun e w' => e = .returned (.bool false) ∧ w' = w := by
 have r5 := (blk_cell tp 5).trans rfl
 go_enter Try.func75, Try.ntmps75
 go_wp2
 go_ret
 exact ⟨rfl, rfl⟩
set_option maxHeartbeats 4000000 in
theorem snapshot_yes (s : Int) (A : Option Addr) (n cc : Nat) (lat : Bool) (tok at_ dg c0 c1 c2 c3 : Int) (B : Option Addr) (m mc : Nat) (now sq sum : Int) (on : Bool) (ct : ByteArray) (v0 v1 v2 : Int) (v3 : ByteArray) (D : Option Addr) (d dc : Nat) (kd : Int) (p q : Nat) (w0 w : World) (hB : Below w0.heap.size w0 w) (hp : w0.heap.size ≤ p) (hq : w0.heap.size ≤ q) (hne : p ≠ q)
  (tp : w.heap[p]? = some (.cells (tc s (.slice A n cc) lat tok at_ true dg c0 c1 c2 c3 (.slice B m mc) now) TT (0, 0))) (tq : w.heap[q]? = some (.cells (fc kd sq on ct v0 v1 v2 v3 sum (.slice D d dc)) TF (0, 0))) :
  Calls Try.prog 75 #[.pointer (some ⟨p, 0, none⟩), .pointer (some ⟨q, 0, none⟩)] w fun e w' => e = .returned (.bool true) ∧ Tell w0 w w' p q (tc s (.slice A n cc) lat tok at_ false now c0 c1 c2 c3 (.slice B m mc) now) (fc 3 sq on ct v0 v1 v2 v3 sum (.slice B m mc)) := by
 have H := Tell.start hB tp tq
 have r5 := (blk_cell tp 5).trans rfl
 have r12 := (blk_cell tp 12).trans rfl
 have r11 := (blk_cell tp 11).trans rfl
 have r6 := (blk_cell tp 6).trans rfl
 have z5 := blk_frozen tp 5
 have z6 := blk_frozen tp 6
 go_enter Try.func75, Try.ntmps75
 go_upto_region 4 with (fail)
 have H1 := (H.setp hp hne 5 (.bool false)).setp hp hne 6 (.int .i64 now)
 generalize (w.setCell ⟨p, 5, none⟩ (.bool false)).setCell ⟨p, 6, none⟩ (.int .i64 now) = w1 at H1 ⊢
 clear r5 r12 r11 r6 z5 z6 H tp tq hB
 have r11 := (blk_cell H1.tp 11).trans rfl
 have y0 := (blk_cell H1.tq 0).trans rfl
 have y9 := (blk_cell H1.tq 9).trans rfl
 have z0 := blk_frozen H1.tq 0
 have z9 := blk_frozen H1.tq 9
 go_upto_region 5 with (fail)
 have H2 := (H1.setq hq hne 0 (.int .i64 3)).setq hq hne 9 (.slice B m mc)
 generalize (w1.setCell ⟨q, 0, none⟩ (.int .i64 3)).setCell ⟨q, 9, none⟩ (.slice B m mc) = w2 at H2 ⊢
 clear r11 y0 y9 z0 z9 H1
 go_wp2
 go_ret
 exact ⟨rfl, H2⟩
theorem drewH (w : World) (g : Nat) : w.drew.heap[g]? = w.heap[g]? := rfl
theorem setH (w : World) {g q : Nat} (i : Nat) (v : Value) (h : g ≠ q) : (w.setCell ⟨q, i, none⟩ v).heap[g]? = w.heap[g]? := Below.heap_setCell w ⟨q, i, none⟩ v g h
theorem pop_nil (lat : Bool) : queue_Pop.f [] lat = some (⟨#[]⟩, false, 0, 0, 0, ⟨#[]⟩, [], lat, false) := by
 unfold queue_Pop.f
 rw [if_pos (by simp)]
theorem pop_cons (x : Ch) (l : List Ch) (lat : Bool) : queue_Pop.f (x :: l) lat = some (x.f0, x.f1, x.f2.f0, x.f2.f1, x.f2.f2, x.f2.f3, l, lat, true) := by
 unfold queue_Pop.f
 rw [if_neg (by simp <;> omega), if_pos (by simp <;> omega), if_pos (by simp <;> omega)]
 rfl
theorem delta_no (s : Int) (A : Option Addr) (cc : Nat) (lat : Bool) (tok at_ : Int) (sn : Bool) (dg c0 c1 c2 c3 : Int) (V : Value) (now : Int) (p q : Nat) (ok : Nat → Prop) (w : World) (tp : w.heap[p]? = some (.cells (tc s (.slice A 0 cc) lat tok at_ sn dg c0 c1 c2 c3 V now) TT (0, 0)))
  (hv : Kd.V kCh 34 w w.heap.size ok (.slice A 0 cc) []) :
  Calls Try.prog 76 #[.pointer (some ⟨p, 0, none⟩), .pointer (some ⟨q, 0, none⟩)] w fun e w' => e = .returned (.bool false) ∧ Below w.heap.size w w' := by
 have r1 := (blk_cell tp 1).trans rfl
 have r2 := (blk_cell tp 2).trans rfl
 have HP := Aside0.mk (queue_Pop.calls ok A cc [] lat _ _ _ _ _ _ _ _ _ w hv (pop_nil lat))
 clear hv tp
 go_enter Try.func76, Try.ntmps76
 go_wp2_with fail
 refine HP.out.mono ?_
 rintro e w1 ⟨v6, rfl, hV, hb⟩
 obtain ⟨A6, c6, rfl⟩ := Kd.V_slice hV
 clear hV HP r1 r2
 go_upto_region 2 with (fail)
 generalize hg : World.alloc _ _ = w2
 obtain ⟨hB', _, _⟩ := Mem.new2 hg hb (Mem.nil _)
 clear hg hb
 go_wp2
 go_ret
 exact ⟨rfl, hB'⟩
set_option maxHeartbeats 8000000 in
theorem delta_yes (s : Int) (A : Option Addr) (n cc : Nat) (lat : Bool) (tok at_ : Int) (sn : Bool) (dg c0 c1 c2 c3 : Int) (B : Option Addr) (m mc : Nat) (now sq sum : Int) (on : Bool) (ct : ByteArray) (v0 v1 v2 : Int) (v3 : ByteArray) (T : Value) (kd : Int) (p q : Nat) (w0 w : World) (hB : Below w0.heap.size w0 w) (hp : w0.heap.size ≤ p) (hq : w0.heap.size ≤ q) (hne : p ≠ q) (x : Ch) (l : List Ch)
  (tp : w.heap[p]? = some (.cells (tc s (.slice A (x :: l).length cc) lat tok at_ sn dg c0 c1 c2 c3 (.slice B m mc) now) TT (0, 0))) (tq : w.heap[q]? = some (.cells (fc kd sq on ct v0 v1 v2 v3 sum T) TF (0, 0)))
  (ok : Nat → Prop) (hok : ∀ k, ok k → k ≠ p ∧ k ≠ q) (hnew : ∀ k, w.heap.size ≤ k → ok k) (hv : Kd.V kCh 34 w w.heap.size ok (.slice A (x :: l).length cc) (x :: l)) :
  Calls Try.prog 76 #[.pointer (some ⟨p, 0, none⟩), .pointer (some ⟨q, 0, none⟩)] w fun e w' => e = .returned (.bool true) ∧ ∃ A' c', Tell w0 w w' p q (tc s (.slice A' l.length c') lat tok at_ sn dg c0 c1 c2 c3 (.slice B m mc) now) (fc 1 sq x.f1 x.f0 x.f2.f0 x.f2.f1 x.f2.f2 x.f2.f3 sum T) ∧ Kd.V kCh 34 w' 0 ok (.slice A' l.length c') l := by
 have H := Tell.start hB tp tq
 have r1 := (blk_cell tp 1).trans rfl
 have r2 := (blk_cell tp 2).trans rfl
 have HP := Aside0.mk (queue_Pop.calls ok A cc (x :: l) lat _ _ _ _ _ _ _ _ _ w hv (pop_cons x l lat))
 have hpl := blk_lt tp
 have hql := blk_lt tq
 generalize hn : (x :: l).length = n1 at r1 HP
 clear hv tp tq hB
 go_enter Try.func76, Try.ntmps76
 go_wp2_with fail
 refine HP.out.mono ?_
 rintro e w1 ⟨v6, rfl, hV, hb⟩
 obtain ⟨A6, c6, rfl⟩ := Kd.V_slice hV
 have H1 := H.below hb
 have hV1 : Kd.V kCh 34 w1 0 ok (.slice A6 l.length c6) l := Kd.V_mono hV (fun k hk => by rcases hk with h | h; exact h; exact hnew k h)
 have hz1 : w0.heap.size ≤ w1.heap.size := H1.bel.size
 clear hV HP r1 r2 hb H
 go_upto_region 2 with (fail)
 generalize hg : World.alloc _ _ = w2
 obtain ⟨_, hM, hb⟩ := Mem.new2 hg (Below.refl _ _) (Mem.nil _)
 have H2 := H1.below hb
 have hV2 := Kd.V_below hV1 hb
 have hpq : p < w1.heap.size ∧ q < w1.heap.size := ⟨blk_lt H1.tp, blk_lt H1.tq⟩
 clear hg hb H1 hV1
 generalize w1.heap.size = g5 at hM hpq ⊢
 have T6 := hM.get 0 rfl
 have T5 := hM.get 1 rfl
 have u0 := (blk_cell T6 0).trans rfl
 have u1 := (blk_cell T6 1).trans rfl
 have r1 := (blk_cell H2.tp 1).trans rfl
 have r2 := (blk_cell H2.tp 2).trans rfl
 have z1 := blk_frozen H2.tp 1
 have z2 := blk_frozen H2.tp 2
 go_upto_region 5 with (fail)
 have H3 := (H2.setp hp hne 1 (.slice A6 l.length c6)).setp hp hne 2 (.bool lat)
 have hV3 := Kd.V_far (Kd.V_far hV2 (p := ⟨p, 1, none⟩) (fun k hk => (hok k hk).1) (.slice A6 l.length c6)) (p := ⟨p, 2, none⟩) (fun k hk => (hok k hk).1) (.bool lat)
 have T5' := blk_far (blk_far T5 (p := ⟨p, 1, none⟩) (by show g5 ≠ p; omega) (.slice A6 l.length c6)) (p := ⟨p, 2, none⟩) (by show g5 ≠ p; omega) (.bool lat)
 generalize (w2.setCell ⟨p, 1, none⟩ (.slice A6 l.length c6)).setCell ⟨p, 2, none⟩ (.bool lat) = w3 at H3 hV3 T5' ⊢
 clear T5 T6 u0 u1 r1 r2 z1 z2 H2 hV2 hM
 have SS : ∀ w' : World, w'.heap[g5]? = w3.heap[g5]? → w'.cell? ⟨g5, 0, none⟩ = some (.string x.f0) ∧ w'.cell? ⟨g5, 1, none⟩ = some (.bool x.f1) ∧ w'.cell? ⟨g5, 2, none⟩ = some (.int .i64 x.f2.f0) ∧ w'.cell? ⟨g5, 3, none⟩ = some (.int .i64 x.f2.f1) ∧ w'.cell? ⟨g5, 4, none⟩ = some (.int .i64 x.f2.f2) ∧ w'.cell? ⟨g5, 5, none⟩ = some (.string x.f2.f3) := fun w' he => by
  have T := he.trans T5'
  exact ⟨(blk_cell T 0).trans rfl, (blk_cell T 1).trans rfl, (blk_cell T 2).trans rfl, (blk_cell T 3).trans rfl, (blk_cell T 4).trans rfl, (blk_cell T 5).trans rfl⟩
 have hgq : g5 ≠ q := by omega
 clear T5'
 have y0 := (blk_cell H3.tq 0).trans rfl
 have z0 := blk_frozen H3.tq 0
 have y2 := (blk_cell H3.tq 2).trans rfl
 have z2 := blk_frozen H3.tq 2
 have y3 := (blk_cell H3.tq 3).trans rfl
 have z3 := blk_frozen H3.tq 3
 have y4 := (blk_cell H3.tq 4).trans rfl
 have z4 := blk_frozen H3.tq 4
 have y5 := (blk_cell H3.tq 5).trans rfl
 have z5 := blk_frozen H3.tq 5
 have y6 := (blk_cell H3.tq 6).trans rfl
 have z6 := blk_frozen H3.tq 6
 have y7 := (blk_cell H3.tq 7).trans rfl
 have z7 := blk_frozen H3.tq 7
 go_wp2_with fail
 go_region_held3 (fun w' => w'.cell? ⟨g5, 0, none⟩ = some (.string x.f0) ∧ w'.cell? ⟨g5, 1, none⟩ = some (.bool x.f1) ∧ w'.cell? ⟨g5, 2, none⟩ = some (.int .i64 x.f2.f0) ∧ w'.cell? ⟨g5, 3, none⟩ = some (.int .i64 x.f2.f1) ∧ w'.cell? ⟨g5, 4, none⟩ = some (.int .i64 x.f2.f2) ∧ w'.cell? ⟨g5, 5, none⟩ = some (.string x.f2.f3)) (exact SS _ (by with_reducible (repeat (first | exact Eq.refl _ | exact drewH _ _ | refine (setH _ _ _ hgq).trans ?_ | refine (drewH _ _).trans ?_)))) (first | fail)
 have H4 := ((((((H3.setq hq hne 0 (.int .i64 1)).setq hq hne 3 (.string x.f0)).setq hq hne 2 (.bool x.f1)).setq hq hne 4 (.int .i64 x.f2.f0)).setq hq hne 5 (.int .i64 x.f2.f1)).setq hq hne 6 (.int .i64 x.f2.f2)).setq hq hne 7 (.string x.f2.f3)
 have hV4 := Kd.V_far (p := ⟨q, 7, none⟩) (Kd.V_far (p := ⟨q, 6, none⟩) (Kd.V_far (p := ⟨q, 5, none⟩) (Kd.V_far (p := ⟨q, 4, none⟩) (Kd.V_far (p := ⟨q, 2, none⟩) (Kd.V_far (p := ⟨q, 3, none⟩) (Kd.V_far (p := ⟨q, 0, none⟩) hV3 (fun k hk => (hok k hk).2) (.int .i64 1)) (fun k hk => (hok k hk).2) (.string x.f0)) (fun k hk => (hok k hk).2) (.bool x.f1)) (fun k hk => (hok k hk).2) (.int .i64 x.f2.f0)) (fun k hk => (hok k hk).2) (.int .i64 x.f2.f1)) (fun k hk => (hok k hk).2) (.int .i64 x.f2.f2)) (fun k hk => (hok k hk).2) (.string x.f2.f3)
 generalize hw4 : ((((((w3.setCell ⟨q, 0, none⟩ (.int .i64 1)).setCell ⟨q, 3, none⟩ (.string x.f0)).setCell ⟨q, 2, none⟩ (.bool x.f1)).setCell ⟨q, 4, none⟩ (.int .i64 x.f2.f0)).setCell ⟨q, 5, none⟩ (.int .i64 x.f2.f1)).setCell ⟨q, 6, none⟩ (.int .i64 x.f2.f2)).setCell ⟨q, 7, none⟩ (.string x.f2.f3) = w4 at H4 hV4 ⊢
 have hd : Below w4.heap.size w4 w4.drew := below_drew1 (Below.refl _ _)
 replace H4 := H4.below hd
 replace hV4 := Kd.V_below hV4 hd
 clear y0 y2 y3 y4 y5 y6 y7 z0 z2 z3 z4 z5 z6 z7 SS H3 hV3 hd hw4
 generalize w4.drew = w5 at H4 hV4 ⊢
 go_wp2
 go_ret
 exact ⟨rfl, A6, c6, H4, hV4⟩
theorem digest_no (s : Int) (L : Value) (lat : Bool) (tok at_ : Int) (sn : Bool) (dg c0 c1 c2 c3 : Int) (V : Value) (now : Int) (h0 : 0 ≤ dg) (h1 : dg ≤ 1099511627776) (h2 : 0 ≤ now) (h3 : now ≤ 1099511627776) (hd : now - dg < c3) (p q : Nat) (w : World) (tp : w.heap[p]? = some (.cells (tc s L lat tok at_ sn dg c0 c1 c2 c3 V now) TT (0, 0))) :
  Calls Try.prog 77 #[.pointer (some ⟨p, 0, none⟩), .pointer (some ⟨q, 0, none⟩)] w fun e w' => e = .returned (.bool false) ∧ Below w.heap.size w w' := by
 have r6 := (blk_cell tp 6).trans rfl
 have r12 := (blk_cell tp 12).trans rfl
 have r10 := (blk_cell tp 10).trans rfl
 have hw : IntKind.i64.wrap (now - dg) = now - dg := IntWalk.i64_in _ (by omega)
 have y6 : ∀ u : Kin w, u.at'.cell? _ = _ := Kin.cell r6
 have y12 : ∀ u : Kin w, u.at'.cell? _ = _ := Kin.cell r12
 have y10 : ∀ u : Kin w, u.at'.cell? _ = _ := Kin.cell r10
 clear h0 h1 h2 h3 r6 r12 r10
 go_enter Try.func77, Try.ntmps77
 go_wp2_with fail
 refine region_kin (by kernel_rfl) (by kernel_rfl) ?_
 repeat (go_big_quiet_step (fail))
 refine wpQuiet_nil ?_
 rintro w6 ⟨⟨_, b6⟩, rfl⟩
 clear y6 y12 y10
 go_wp2
 go_ret
 exact ⟨rfl, b6⟩
set_option maxHeartbeats 4000000 in
theorem digest_yes (s : Int) (A : Option Addr) (n cc : Nat) (lat : Bool) (tok at_ : Int) (sn : Bool) (dg c0 c1 c2 c3 : Int) (B : Option Addr) (mc : Nat) (now sq sum : Int) (h0 : 0 ≤ dg) (h1 : dg ≤ 1099511627776) (h2 : 0 ≤ now) (h3 : now ≤ 1099511627776) (hd : c3 ≤ now - dg) (on : Bool) (ct : ByteArray) (v0 v1 v2 : Int) (v3 : ByteArray) (T : Value) (kd : Int) (p q : Nat) (w0 w : World) (hB : Below w0.heap.size w0 w) (hp : w0.heap.size ≤ p) (hq : w0.heap.size ≤ q) (hne : p ≠ q)
  (k0 : Nat) (t : List Se) (hl : t.length ≤ 40) (hm : digest_May.f k0 t = some true) (hz : ∀ x ∈ t, x.f0.size ≤ 9223372036854775807)
  (tp : w.heap[p]? = some (.cells (tc s (.slice A n cc) lat tok at_ sn dg c0 c1 c2 c3 (.slice B t.length mc) now) TT (0, 0))) (tq : w.heap[q]? = some (.cells (fc kd sq on ct v0 v1 v2 v3 sum T) TF (0, 0)))
  (hv : Kd.V kSe 72 w 0 (fun k => k ≠ p) (.slice B t.length mc) t) :
  Calls Try.prog 77 #[.pointer (some ⟨p, 0, none⟩), .pointer (some ⟨q, 0, none⟩)] w fun e w' => e = .returned (.bool true) ∧ Tell w0 w w' p q (tc s (.slice A n cc) lat tok at_ sn now c0 c1 c2 c3 (.slice B t.length mc) now) (fc 2 sq on ct v0 v1 v2 v3 (sumB t) T) := by
 have H := Tell.start hB tp tq
 have r6 := (blk_cell tp 6).trans rfl
 have r12 := (blk_cell tp 12).trans rfl
 have r10 := (blk_cell tp 10).trans rfl
 have z6 := blk_frozen tp 6
 have hw : IntKind.i64.wrap (now - dg) = now - dg := IntWalk.i64_in _ (by omega)
 have HS := Aside0.mk (fun w h => sum_calls k0 t hl hm hz w (.slice B t.length mc) h)
 have y6 : ∀ u : Kin w, u.at'.cell? _ = _ := Kin.cell r6
 have y12 : ∀ u : Kin w, u.at'.cell? _ = _ := Kin.cell r12
 have y10 : ∀ u : Kin w, u.at'.cell? _ = _ := Kin.cell r10
 clear h0 h1 h2 h3 tp tq hB hm hz hl r6 r12 r10 z6
 go_enter Try.func77, Try.ntmps77
 go_wp2_with fail
 refine region_kin (by kernel_rfl) (by kernel_rfl) ?_
 repeat (go_big_quiet_step (fail))
 refine wpQuiet_nil ?_
 rintro w1 ⟨⟨_, b6⟩, rfl⟩
 rename World => w1
 clear y6 y12 y10
 have H1 := H.below b6
 have hv1 := Kd.V_below hv b6
 clear b6 H hv
 have r6 := (blk_cell H1.tp 6).trans rfl
 have r12 := (blk_cell H1.tp 12).trans rfl
 have z6 := blk_frozen H1.tp 6
 go_upto_region 4 with (fail)
 have H2 := H1.setp hp hne 6 (.int .i64 now)
 have hv2 := Kd.V_far hv1 (p := ⟨p, 6, none⟩) (fun k hk => hk) (.int .i64 now)
 generalize w1.setCell ⟨p, 6, none⟩ (.int .i64 now) = w2 at H2 hv2 ⊢
 clear r6 r12 z6 H1 hv1
 have r11 := (blk_cell H2.tp 11).trans rfl
 go_wp2_with fail
 refine (HS.out w2 (Im.of_V hv2)).mono ?_
 rintro e w3 ⟨rfl, hb⟩
 have H3 := H2.below hb
 clear hb hv2 H2 HS r11
 have y0 := (blk_cell H3.tq 0).trans rfl
 have y8 := (blk_cell H3.tq 8).trans rfl
 have z0 := blk_frozen H3.tq 0
 have z8 := blk_frozen H3.tq 8
 generalize hsm : sumB t = sm at H3 ⊢
 go_upto_region 5 with (fail)
 have H4 := (H3.setq hq hne 0 (.int .i64 2)).setq hq hne 8 (.int .u64 sm)
 generalize (w3.setCell ⟨q, 0, none⟩ (.int .i64 2)).setCell ⟨q, 8, none⟩ (.int .u64 sm) = w4 at H4 ⊢
 clear y0 y8 z0 z8 H3
 go_wp2
 go_ret
 subst hsm
 exact ⟨rfl, H4⟩
end Go.Proofs.Ytmigglldahkngaa.XTell
end

section
/- link's talk, walked: the next frame, if something is to be told. -/
namespace Go.Proofs.Ytmigglldahkngaa.XTell
open Go.RowKit Go.Proofs.YtmigglldahkngaaW.PrintWords Go.Proofs.YtmigglldahkngaaW.PrintLast Go.Proofs.YtmigglldahkngaaW.PrintMore Go.Proofs.Ytmigglldahkngaa.PA Go.Proofs.Ytmigglldahkngaa.XMem Go.Proofs.Ytmigglldahkngaa.XSum Go.Proofs.Ytmigglldahkngaa.XQuiet
set_option linter.unusedVariables false
set_option linter.unusedSimpArgs false
set_option maxRecDepth 100000
theorem idx0 (a b c : Value) (w : World) : (Instr.index 108 (.agg #[a, b, c]) (.int .i64 0)).run Try.prog w = .ok a w := by
 have h := Try.underlying108
 have hz := Try.sizeOf107 w
 simp [Instr.index, run_underlying h, asIntOf, go_sem, hz, part]
theorem idx1 (a b c : Value) (w : World) : (Instr.index 108 (.agg #[a, b, c]) (.int .i64 1)).run Try.prog w = .ok b w := by
 have h := Try.underlying108
 have hz := Try.sizeOf107 w
 simp [Instr.index, run_underlying h, asIntOf, go_sem, hz, part]
theorem idx2 (a b c : Value) (w : World) : (Instr.index 108 (.agg #[a, b, c]) (.int .i64 2)).run Try.prog w = .ok c w := by
 have h := Try.underlying108
 have hz := Try.sizeOf107 w
 simp [Instr.index, run_underlying h, asIntOf, go_sem, hz, part]
attribute [local go_sem] idx0 idx1 idx2
/-- One block is written; all else is as it was, but for new memory. -/
structure Next (w0 w w' : World) (p : Nat) (cp : Array Value) : Prop where
 bel : Below w0.heap.size w0 w'
 tp : w'.heap[p]? = some (.cells cp TT (0, 0))
 size : w.heap.size ≤ w'.heap.size
 keep : ∀ k, k < w.heap.size → k ≠ p → w'.heap[k]? = w.heap[k]?
theorem Next.of {w0 w w1 w' : World} {p q : Nat} {cp cq : Array Value} (h : Tell w0 w1 w' p q cp cq) (hb : Below w.heap.size w w1) (hq : w.heap.size ≤ q) : Next w0 w w' p cp :=
 ⟨h.bel, h.tp, Nat.le_trans hb.size h.size, fun k h1 h2 => (h.keep k (Nat.lt_of_lt_of_le h1 hb.size) h2 (by omega)).trans (hb.block k h1)⟩
theorem Next.setp {w0 w w' : World} {p : Nat} {cp : Array Value} (h : Next w0 w w' p cp) (hp : w0.heap.size ≤ p) (i : Nat) (v : Value) : Next w0 w (w'.setCell ⟨p, i, none⟩ v) p (cp.setIfInBounds i v) :=
 ⟨below_set h.bel hp, blk_set h.tp i v, Nat.le_trans h.size (by simp [World.setCell]), fun k h1 h2 => (Below.heap_setCell w' ⟨p, i, none⟩ v k (fun e => h2 e)).trans (h.keep k h1 h2)⟩
theorem Next.setq {w0 w w' : World} {p q : Nat} {cp : Array Value} (h : Next w0 w w' p cp) (hq : w.heap.size ≤ q) (hq0 : w0.heap.size ≤ q) (hne : p ≠ q) (i : Nat) (v : Value) : Next w0 w (w'.setCell ⟨q, i, none⟩ v) p cp :=
 ⟨below_set h.bel hq0, blk_far h.tp (p := ⟨q, i, none⟩) hne v, Nat.le_trans h.size (by simp [World.setCell]), fun k h1 h2 => (Below.heap_setCell w' ⟨q, i, none⟩ v k (by show k ≠ q; omega)).trans (h.keep k h1 h2)⟩
theorem Next.below {w0 w w' w2 : World} {p : Nat} {cp : Array Value} (h : Next w0 w w' p cp) (hb : Below w'.heap.size w' w2) : Next w0 w w2 p cp :=
 ⟨below_step h.bel hb, blk_below h.tp hb, Nat.le_trans h.size hb.size, fun k h1 h2 => (hb.block k (Nat.lt_of_lt_of_le h1 h.size)).trans (h.keep k h1 h2)⟩

set_option maxHeartbeats 8000000 in
theorem next_snap (s : Int) (A : Option Addr) (n cc : Nat) (tok at_ dg c0 c1 c2 c3 : Int) (B : Option Addr) (m mc : Nat) (now : Int) (p : Nat) (w0 w : World) (hB : Below w0.heap.size w0 w) (hp : w0.heap.size ≤ p) (hs0 : 0 ≤ s) (hs : s < 1099511627776)
  (tp : w.heap[p]? = some (.cells (tc s (.slice A n cc) false tok at_ true dg c0 c1 c2 c3 (.slice B m mc) now) TT (0, 0))) :
  Calls Try.prog 52 #[.pointer (some ⟨p, 0, none⟩)] w fun e w' => e = .returned (.tuple #[.agg #[(.int .i64 3), (.int .i64 s), (.bool false), (.string ⟨#[]⟩), (.int .i64 0), (.int .i64 0), (.int .i64 0), (.string ⟨#[]⟩), (.int .u64 0), (.slice B m mc)], .bool true]) ∧ Next w0 w w' p (tc (s + 1) (.slice A n cc) false tok at_ false now c0 c1 c2 c3 (.slice B m mc) now) := by
 have r0 := (blk_cell tp 0).trans rfl
 have hpl := blk_lt tp
 go_enter Try.func52, Try.ntmps52
 go_upto_region 1 with (fail)
 generalize hg : World.alloc _ _ = w1
 have hb1 := al_below hg
 have T2 := al_new hg
 have tp1 := blk_below tp hb1
 have hB1 := below_step hB hb1
 have hwz := hB.size
 have r0' := pw_cell_below hb1 r0
 clear hg r0 hB
 obtain ⟨p2, hp2⟩ : ∃ x, x = w.heap.size := ⟨_, rfl⟩
 rw [← hp2] at T2
 rw [← hp2]
 have hlt2 := blk_lt T2
 go_upto_region 2 with (fail)
 generalize hg : World.alloc _ _ = w2
 have hb2 := al_below hg
 have T4 := al_new hg
 have tp2 := blk_below tp1 hb2
 have T2' := blk_below T2 hb2
 have hB2 := below_step hB1 hb2
 have hbw := below_step hb1 hb2
 clear hg r0' hB1 tp1 T2
 obtain ⟨q, hq⟩ : ∃ x, x = w1.heap.size := ⟨_, rfl⟩
 rw [← hq] at T4
 rw [← hq]
 have hne : p ≠ q := by omega
 have hq0 : w0.heap.size ≤ q := by omega
 have hqw : w.heap.size ≤ q := by omega
 have hpq : p2 ≠ q := by omega
 have hpp : p ≠ p2 := by omega
 have hpw : w.heap.size ≤ p2 := by omega
 have hp0 : w0.heap.size ≤ p2 := by omega
 have hqp : ∀ k, k < w.heap.size → k ≠ q ∧ k ≠ p2 := fun k hk => ⟨by omega, by omega⟩
 clear hq hp2 hlt2 hwz
 go_wp2
 refine wp_loop_rounds 4 ?_
 rw [rounds_succ]
 go_wp2_with fail
 refine (snapshot_yes s A n cc false tok at_ dg c0 c1 c2 c3 B m mc now s 0 false ⟨#[]⟩ 0 0 0 ⟨#[]⟩ none 0 0 0 p q w0 w2 hB2 hp hq0 hne tp2 T4).mono ?_
 rintro e w3 ⟨rfl, H⟩
 have T2n := (H.keep p2 (blk_lt T2') (fun e => hpp e.symm) hpq).trans T2'
 have Tq := H.tq
 have HN := Next.of H hbw hqw
 clear H T2' T4 hB2 hbw
 have hw : wrap64 (s + 1) = s + 1 := by unfold wrap64; omega
 have r0 := (blk_cell HN.tp 0).trans rfl
 have z0 := blk_frozen HN.tp 0
 go_upto_region 7 with (fail)
 have HN2 := HN.setp hp 0 (.int .i64 (s + 1))
 have Tq2 := blk_far Tq (p := ⟨p, 0, none⟩) (fun e => hne e.symm) (.int .i64 (s + 1))
 have T22 := blk_far T2n (p := ⟨p, 0, none⟩) (fun e => hpp e.symm) (.int .i64 (s + 1))
 generalize w3.setCell ⟨p, 0, none⟩ (.int .i64 (s + 1)) = w6 at HN2 Tq2 T22 ⊢
 clear HN Tq T2n r0 z0
 have y0 := (blk_cell Tq2 0).trans rfl
 have y1 := (blk_cell Tq2 1).trans rfl
 have y2 := (blk_cell Tq2 2).trans rfl
 have y3 := (blk_cell Tq2 3).trans rfl
 have y4 := (blk_cell Tq2 4).trans rfl
 have y5 := (blk_cell Tq2 5).trans rfl
 have y6 := (blk_cell Tq2 6).trans rfl
 have y7 := (blk_cell Tq2 7).trans rfl
 have y8 := (blk_cell Tq2 8).trans rfl
 have y9 := (blk_cell Tq2 9).trans rfl
 have k0 := (blk_cell T22 0).trans rfl
 have z0 := blk_frozen T22 0
 have k1 := (blk_cell T22 1).trans rfl
 have z1 := blk_frozen T22 1
 have k2 := (blk_cell T22 2).trans rfl
 have z2 := blk_frozen T22 2
 have k3 := (blk_cell T22 3).trans rfl
 have z3 := blk_frozen T22 3
 have k4 := (blk_cell T22 4).trans rfl
 have z4 := blk_frozen T22 4
 have k5 := (blk_cell T22 5).trans rfl
 have z5 := blk_frozen T22 5
 have k6 := (blk_cell T22 6).trans rfl
 have z6 := blk_frozen T22 6
 have k7 := (blk_cell T22 7).trans rfl
 have z7 := blk_frozen T22 7
 have k8 := (blk_cell T22 8).trans rfl
 have z8 := blk_frozen T22 8
 have k9 := (blk_cell T22 9).trans rfl
 have z9 := blk_frozen T22 9
 go_wp2
 have b0 : (w6.setCell ⟨p2, 0, none⟩ (.int .i64 3)).heap[p2]? = some (.cells #[(.int .i64 3), (.int .i64 0), (.bool false), (.string ⟨#[]⟩), (.int .i64 0), (.int .i64 0), (.int .i64 0), (.string ⟨#[]⟩), (.int .u64 0), (.slice none 0 0)] TF (0, 0)) := blk_set T22 0 _
 have n0 := HN2.setq hpw hp0 hpp 0 (.int .i64 3)
 have b1 : ((w6.setCell ⟨p2, 0, none⟩ (.int .i64 3)).setCell ⟨p2, 1, none⟩ (.int .i64 s)).heap[p2]? = some (.cells #[(.int .i64 3), (.int .i64 s), (.bool false), (.string ⟨#[]⟩), (.int .i64 0), (.int .i64 0), (.int .i64 0), (.string ⟨#[]⟩), (.int .u64 0), (.slice none 0 0)] TF (0, 0)) := blk_set b0 1 _
 have n1 := n0.setq hpw hp0 hpp 1 (.int .i64 s)
 have b2 : (((w6.setCell ⟨p2, 0, none⟩ (.int .i64 3)).setCell ⟨p2, 1, none⟩ (.int .i64 s)).setCell ⟨p2, 2, none⟩ (.bool false)).heap[p2]? = some (.cells #[(.int .i64 3), (.int .i64 s), (.bool false), (.string ⟨#[]⟩), (.int .i64 0), (.int .i64 0), (.int .i64 0), (.string ⟨#[]⟩), (.int .u64 0), (.slice none 0 0)] TF (0, 0)) := blk_set b1 2 _
 have n2 := n1.setq hpw hp0 hpp 2 (.bool false)
 have b3 : ((((w6.setCell ⟨p2, 0, none⟩ (.int .i64 3)).setCell ⟨p2, 1, none⟩ (.int .i64 s)).setCell ⟨p2, 2, none⟩ (.bool false)).setCell ⟨p2, 3, none⟩ (.string ⟨#[]⟩)).heap[p2]? = some (.cells #[(.int .i64 3), (.int .i64 s), (.bool false), (.string ⟨#[]⟩), (.int .i64 0), (.int .i64 0), (.int .i64 0), (.string ⟨#[]⟩), (.int .u64 0), (.slice none 0 0)] TF (0, 0)) := blk_set b2 3 _
 have n3 := n2.setq hpw hp0 hpp 3 (.string ⟨#[]⟩)
 have b4 : (((((w6.setCell ⟨p2, 0, none⟩ (.int .i64 3)).setCell ⟨p2, 1, none⟩ (.int .i64 s)).setCell ⟨p2, 2, none⟩ (.bool false)).setCell ⟨p2, 3, none⟩ (.string ⟨#[]⟩)).setCell ⟨p2, 4, none⟩ (.int .i64 0)).heap[p2]? = some (.cells #[(.int .i64 3), (.int .i64 s), (.bool false), (.string ⟨#[]⟩), (.int .i64 0), (.int .i64 0), (.int .i64 0), (.string ⟨#[]⟩), (.int .u64 0), (.slice none 0 0)] TF (0, 0)) := blk_set b3 4 _
 have n4 := n3.setq hpw hp0 hpp 4 (.int .i64 0)
 have b5 : ((((((w6.setCell ⟨p2, 0, none⟩ (.int .i64 3)).setCell ⟨p2, 1, none⟩ (.int .i64 s)).setCell ⟨p2, 2, none⟩ (.bool false)).setCell ⟨p2, 3, none⟩ (.string ⟨#[]⟩)).setCell ⟨p2, 4, none⟩ (.int .i64 0)).setCell ⟨p2, 5, none⟩ (.int .i64 0)).heap[p2]? = some (.cells #[(.int .i64 3), (.int .i64 s), (.bool false), (.string ⟨#[]⟩), (.int .i64 0), (.int .i64 0), (.int .i64 0), (.string ⟨#[]⟩), (.int .u64 0), (.slice none 0 0)] TF (0, 0)) := blk_set b4 5 _
 have n5 := n4.setq hpw hp0 hpp 5 (.int .i64 0)
 have b6 : (((((((w6.setCell ⟨p2, 0, none⟩ (.int .i64 3)).setCell ⟨p2, 1, none⟩ (.int .i64 s)).setCell ⟨p2, 2, none⟩ (.bool false)).setCell ⟨p2, 3, none⟩ (.string ⟨#[]⟩)).setCell ⟨p2, 4, none⟩ (.int .i64 0)).setCell ⟨p2, 5, none⟩ (.int .i64 0)).setCell ⟨p2, 6, none⟩ (.int .i64 0)).heap[p2]? = some (.cells #[(.int .i64 3), (.int .i64 s), (.bool false), (.string ⟨#[]⟩), (.int .i64 0), (.int .i64 0), (.int .i64 0), (.string ⟨#[]⟩), (.int .u64 0), (.slice none 0 0)] TF (0, 0)) := blk_set b5 6 _
 have n6 := n5.setq hpw hp0 hpp 6 (.int .i64 0)
 have b7 : ((((((((w6.setCell ⟨p2, 0, none⟩ (.int .i64 3)).setCell ⟨p2, 1, none⟩ (.int .i64 s)).setCell ⟨p2, 2, none⟩ (.bool false)).setCell ⟨p2, 3, none⟩ (.string ⟨#[]⟩)).setCell ⟨p2, 4, none⟩ (.int .i64 0)).setCell ⟨p2, 5, none⟩ (.int .i64 0)).setCell ⟨p2, 6, none⟩ (.int .i64 0)).setCell ⟨p2, 7, none⟩ (.string ⟨#[]⟩)).heap[p2]? = some (.cells #[(.int .i64 3), (.int .i64 s), (.bool false), (.string ⟨#[]⟩), (.int .i64 0), (.int .i64 0), (.int .i64 0), (.string ⟨#[]⟩), (.int .u64 0), (.slice none 0 0)] TF (0, 0)) := blk_set b6 7 _
 have n7 := n6.setq hpw hp0 hpp 7 (.string ⟨#[]⟩)
 have b8 : (((((((((w6.setCell ⟨p2, 0, none⟩ (.int .i64 3)).setCell ⟨p2, 1, none⟩ (.int .i64 s)).setCell ⟨p2, 2, none⟩ (.bool false)).setCell ⟨p2, 3, none⟩ (.string ⟨#[]⟩)).setCell ⟨p2, 4, none⟩ (.int .i64 0)).setCell ⟨p2, 5, none⟩ (.int .i64 0)).setCell ⟨p2, 6, none⟩ (.int .i64 0)).setCell ⟨p2, 7, none⟩ (.string ⟨#[]⟩)).setCell ⟨p2, 8, none⟩ (.int .u64 0)).heap[p2]? = some (.cells #[(.int .i64 3), (.int .i64 s), (.bool false), (.string ⟨#[]⟩), (.int .i64 0), (.int .i64 0), (.int .i64 0), (.string ⟨#[]⟩), (.int .u64 0), (.slice none 0 0)] TF (0, 0)) := blk_set b7 8 _
 have n8 := n7.setq hpw hp0 hpp 8 (.int .u64 0)
 have b9 : ((((((((((w6.setCell ⟨p2, 0, none⟩ (.int .i64 3)).setCell ⟨p2, 1, none⟩ (.int .i64 s)).setCell ⟨p2, 2, none⟩ (.bool false)).setCell ⟨p2, 3, none⟩ (.string ⟨#[]⟩)).setCell ⟨p2, 4, none⟩ (.int .i64 0)).setCell ⟨p2, 5, none⟩ (.int .i64 0)).setCell ⟨p2, 6, none⟩ (.int .i64 0)).setCell ⟨p2, 7, none⟩ (.string ⟨#[]⟩)).setCell ⟨p2, 8, none⟩ (.int .u64 0)).setCell ⟨p2, 9, none⟩ (.slice B m mc)).heap[p2]? = some (.cells #[(.int .i64 3), (.int .i64 s), (.bool false), (.string ⟨#[]⟩), (.int .i64 0), (.int .i64 0), (.int .i64 0), (.string ⟨#[]⟩), (.int .u64 0), (.slice B m mc)] TF (0, 0)) := blk_set b8 9 _
 have n9 := n8.setq hpw hp0 hpp 9 (.slice B m mc)
 generalize hwf : ((((((((((w6.setCell ⟨p2, 0, none⟩ (.int .i64 3)).setCell ⟨p2, 1, none⟩ (.int .i64 s)).setCell ⟨p2, 2, none⟩ (.bool false)).setCell ⟨p2, 3, none⟩ (.string ⟨#[]⟩)).setCell ⟨p2, 4, none⟩ (.int .i64 0)).setCell ⟨p2, 5, none⟩ (.int .i64 0)).setCell ⟨p2, 6, none⟩ (.int .i64 0)).setCell ⟨p2, 7, none⟩ (.string ⟨#[]⟩)).setCell ⟨p2, 8, none⟩ (.int .u64 0)).setCell ⟨p2, 9, none⟩ (.slice B m mc)) = wf at b9 n9 ⊢
 clear b0 n0 b1 n1 b2 n2 b3 n3 b4 n4 b5 n5 b6 n6 b7 n7 b8 n8
 refine bodyPost_ret (results_ct rfl _ _ p2 TF #[(.int .i64 3), (.int .i64 s), (.bool false), (.string ⟨#[]⟩), (.int .i64 0), (.int .i64 0), (.int .i64 0), (.string ⟨#[]⟩), (.int .u64 0), (.slice B m mc)] (0, 0) _ rfl b9 Try.underlying60 rfl (by kernel_rfl)) rfl ?_
 exact ⟨rfl, n9⟩
set_option maxHeartbeats 8000000 in
theorem next_delta (s : Int) (A : Option Addr) (cc : Nat) (tok at_ dg c0 c1 c2 c3 : Int) (B : Option Addr) (m mc : Nat) (now : Int) (p : Nat) (w0 w : World) (hB : Below w0.heap.size w0 w) (hp : w0.heap.size ≤ p) (hs0 : 0 ≤ s) (hs : s < 1099511627776) (x : Ch) (l : List Ch) (ok : Nat → Prop) (hok : ∀ k, ok k → k ≠ p) (hnew : ∀ k, w.heap.size ≤ k → ok k) (hv : Kd.V kCh 34 w 0 ok (.slice A (x :: l).length cc) (x :: l))
  (tp : w.heap[p]? = some (.cells (tc s (.slice A (x :: l).length cc) false tok at_ false dg c0 c1 c2 c3 (.slice B m mc) now) TT (0, 0))) :
  Calls Try.prog 52 #[.pointer (some ⟨p, 0, none⟩)] w fun e w' => ∃ A' c', e = .returned (.tuple #[.agg #[(.int .i64 1), (.int .i64 s), (.bool x.f1), (.string x.f0), (.int .i64 x.f2.f0), (.int .i64 x.f2.f1), (.int .i64 x.f2.f2), (.string x.f2.f3), (.int .u64 0), (.slice none 0 0)], .bool true]) ∧ Next w0 w w' p (tc (s + 1) (.slice A' l.length c') false tok at_ false dg c0 c1 c2 c3 (.slice B m mc) now) ∧ Kd.V kCh 34 w' 0 ok (.slice A' l.length c') l := by
 have r0 := (blk_cell tp 0).trans rfl
 have hpl := blk_lt tp
 go_enter Try.func52, Try.ntmps52
 go_upto_region 1 with (fail)
 generalize hg : World.alloc _ _ = w1
 have hb1 := al_below hg
 have T2 := al_new hg
 have tp1 := blk_below tp hb1
 have hB1 := below_step hB hb1
 have hwz := hB.size
 have r0' := pw_cell_below hb1 r0
 clear hg r0 hB
 obtain ⟨p2, hp2⟩ : ∃ x, x = w.heap.size := ⟨_, rfl⟩
 rw [← hp2] at T2
 rw [← hp2]
 have hlt2 := blk_lt T2
 go_upto_region 2 with (fail)
 generalize hg : World.alloc _ _ = w2
 have hb2 := al_below hg
 have T4 := al_new hg
 have tp2 := blk_below tp1 hb2
 have T2' := blk_below T2 hb2
 have hB2 := below_step hB1 hb2
 have hbw := below_step hb1 hb2
 clear hg r0' hB1 tp1 T2
 obtain ⟨q, hq⟩ : ∃ x, x = w1.heap.size := ⟨_, rfl⟩
 rw [← hq] at T4
 rw [← hq]
 have hne : p ≠ q := by omega
 have hq0 : w0.heap.size ≤ q := by omega
 have hqw : w.heap.size ≤ q := by omega
 have hpq : p2 ≠ q := by omega
 have hpp : p ≠ p2 := by omega
 have hpw : w.heap.size ≤ p2 := by omega
 have hp0 : w0.heap.size ≤ p2 := by omega
 have hqp : ∀ k, k < w.heap.size → k ≠ q ∧ k ≠ p2 := fun k hk => ⟨by omega, by omega⟩
 clear hq hp2 hlt2 hwz
 have hv2 := Kd.V_below hv hbw
 go_wp2
 refine wp_loop_rounds 4 ?_
 rw [rounds_succ]
 go_wp2_with fail
 refine (snapshot_no s _ false tok at_ dg c0 c1 c2 c3 _ now p q w2 tp2).mono ?_
 rintro e w3 ⟨rfl, rfl⟩
 go_wp2
 rw [rounds_succ]
 go_wp2_with fail
 have hvq : Kd.V kCh 34 w3 w3.heap.size (fun k => ok k ∧ k ≠ q ∧ k ≠ p2) (.slice A (x :: l).length cc) (x :: l) := Kd.V_mono (Kd.V_below (Kd.V_bound hv) hbw) (fun k hk => ⟨hk.1, (hqp k hk.2).1, (hqp k hk.2).2⟩)
 refine (delta_yes s A 0 cc false tok at_ false dg c0 c1 c2 c3 B m mc now s 0 false ⟨#[]⟩ 0 0 0 ⟨#[]⟩ (.slice none 0 0) 0 p q w0 w3 hB2 hp hq0 hne x l tp2 T4 (fun k => ok k ∧ k ≠ q ∧ k ≠ p2) (fun k h => ⟨hok k h.1, h.2.1⟩) (fun k h => by have h2 := blk_lt T4; have h3 := blk_lt T2'; have h4 := hbw.size; exact ⟨hnew k (by omega), by omega, by omega⟩) hvq).mono ?_
 rintro e w4 ⟨rfl, A', c', H, hV⟩
 have T2n := (H.keep p2 (blk_lt T2') (fun e => hpp e.symm) hpq).trans T2'
 have Tq := H.tq
 have HN := Next.of H hbw hqw
 clear H T2' T4 hB2 hbw
 have hw : wrap64 (s + 1) = s + 1 := by unfold wrap64; omega
 have r0 := (blk_cell HN.tp 0).trans rfl
 have z0 := blk_frozen HN.tp 0
 go_upto_region 7 with (fail)
 have HN2 := HN.setp hp 0 (.int .i64 (s + 1))
 have Tq2 := blk_far Tq (p := ⟨p, 0, none⟩) (fun e => hne e.symm) (.int .i64 (s + 1))
 have T22 := blk_far T2n (p := ⟨p, 0, none⟩) (fun e => hpp e.symm) (.int .i64 (s + 1))
 have hV2 := Kd.V_far hV (p := ⟨p, 0, none⟩) (fun k hk => hok k hk.1) (.int .i64 (s + 1))
 generalize w4.setCell ⟨p, 0, none⟩ (.int .i64 (s + 1)) = w6 at HN2 Tq2 T22 hV2 ⊢
 clear HN Tq T2n r0 z0 hV
 have y0 := (blk_cell Tq2 0).trans rfl
 have y1 := (blk_cell Tq2 1).trans rfl
 have y2 := (blk_cell Tq2 2).trans rfl
 have y3 := (blk_cell Tq2 3).trans rfl
 have y4 := (blk_cell Tq2 4).trans rfl
 have y5 := (blk_cell Tq2 5).trans rfl
 have y6 := (blk_cell Tq2 6).trans rfl
 have y7 := (blk_cell Tq2 7).trans rfl
 have y8 := (blk_cell Tq2 8).trans rfl
 have y9 := (blk_cell Tq2 9).trans rfl
 have k0 := (blk_cell T22 0).trans rfl
 have z0 := blk_frozen T22 0
 have k1 := (blk_cell T22 1).trans rfl
 have z1 := blk_frozen T22 1
 have k2 := (blk_cell T22 2).trans rfl
 have z2 := blk_frozen T22 2
 have k3 := (blk_cell T22 3).trans rfl
 have z3 := blk_frozen T22 3
 have k4 := (blk_cell T22 4).trans rfl
 have z4 := blk_frozen T22 4
 have k5 := (blk_cell T22 5).trans rfl
 have z5 := blk_frozen T22 5
 have k6 := (blk_cell T22 6).trans rfl
 have z6 := blk_frozen T22 6
 have k7 := (blk_cell T22 7).trans rfl
 have z7 := blk_frozen T22 7
 have k8 := (blk_cell T22 8).trans rfl
 have z8 := blk_frozen T22 8
 have k9 := (blk_cell T22 9).trans rfl
 have z9 := blk_frozen T22 9
 go_wp2
 have b0 : (w6.setCell ⟨p2, 0, none⟩ (.int .i64 1)).heap[p2]? = some (.cells #[(.int .i64 1), (.int .i64 0), (.bool false), (.string ⟨#[]⟩), (.int .i64 0), (.int .i64 0), (.int .i64 0), (.string ⟨#[]⟩), (.int .u64 0), (.slice none 0 0)] TF (0, 0)) := blk_set T22 0 _
 have n0 := HN2.setq hpw hp0 hpp 0 (.int .i64 1)
 have v0 := Kd.V_far hV2 (p := ⟨p2, 0, none⟩) (fun k hk => hk.2.2) (.int .i64 1)
 have b1 : ((w6.setCell ⟨p2, 0, none⟩ (.int .i64 1)).setCell ⟨p2, 1, none⟩ (.int .i64 s)).heap[p2]? = some (.cells #[(.int .i64 1), (.int .i64 s), (.bool false), (.string ⟨#[]⟩), (.int .i64 0), (.int .i64 0), (.int .i64 0), (.string ⟨#[]⟩), (.int .u64 0), (.slice none 0 0)] TF (0, 0)) := blk_set b0 1 _
 have n1 := n0.setq hpw hp0 hpp 1 (.int .i64 s)
 have v1 := Kd.V_far v0 (p := ⟨p2, 1, none⟩) (fun k hk => hk.2.2) (.int .i64 s)
 have b2 : (((w6.setCell ⟨p2, 0, none⟩ (.int .i64 1)).setCell ⟨p2, 1, none⟩ (.int .i64 s)).setCell ⟨p2, 2, none⟩ (.bool x.f1)).heap[p2]? = some (.cells #[(.int .i64 1), (.int .i64 s), (.bool x.f1), (.string ⟨#[]⟩), (.int .i64 0), (.int .i64 0), (.int .i64 0), (.string ⟨#[]⟩), (.int .u64 0), (.slice none 0 0)] TF (0, 0)) := blk_set b1 2 _
 have n2 := n1.setq hpw hp0 hpp 2 (.bool x.f1)
 have v2 := Kd.V_far v1 (p := ⟨p2, 2, none⟩) (fun k hk => hk.2.2) (.bool x.f1)
 have b3 : ((((w6.setCell ⟨p2, 0, none⟩ (.int .i64 1)).setCell ⟨p2, 1, none⟩ (.int .i64 s)).setCell ⟨p2, 2, none⟩ (.bool x.f1)).setCell ⟨p2, 3, none⟩ (.string x.f0)).heap[p2]? = some (.cells #[(.int .i64 1), (.int .i64 s), (.bool x.f1), (.string x.f0), (.int .i64 0), (.int .i64 0), (.int .i64 0), (.string ⟨#[]⟩), (.int .u64 0), (.slice none 0 0)] TF (0, 0)) := blk_set b2 3 _
 have n3 := n2.setq hpw hp0 hpp 3 (.string x.f0)
 have v3 := Kd.V_far v2 (p := ⟨p2, 3, none⟩) (fun k hk => hk.2.2) (.string x.f0)
 have b4 : (((((w6.setCell ⟨p2, 0, none⟩ (.int .i64 1)).setCell ⟨p2, 1, none⟩ (.int .i64 s)).setCell ⟨p2, 2, none⟩ (.bool x.f1)).setCell ⟨p2, 3, none⟩ (.string x.f0)).setCell ⟨p2, 4, none⟩ (.int .i64 x.f2.f0)).heap[p2]? = some (.cells #[(.int .i64 1), (.int .i64 s), (.bool x.f1), (.string x.f0), (.int .i64 x.f2.f0), (.int .i64 0), (.int .i64 0), (.string ⟨#[]⟩), (.int .u64 0), (.slice none 0 0)] TF (0, 0)) := blk_set b3 4 _
 have n4 := n3.setq hpw hp0 hpp 4 (.int .i64 x.f2.f0)
 have v4 := Kd.V_far v3 (p := ⟨p2, 4, none⟩) (fun k hk => hk.2.2) (.int .i64 x.f2.f0)
 have b5 : ((((((w6.setCell ⟨p2, 0, none⟩ (.int .i64 1)).setCell ⟨p2, 1, none⟩ (.int .i64 s)).setCell ⟨p2, 2, none⟩ (.bool x.f1)).setCell ⟨p2, 3, none⟩ (.string x.f0)).setCell ⟨p2, 4, none⟩ (.int .i64 x.f2.f0)).setCell ⟨p2, 5, none⟩ (.int .i64 x.f2.f1)).heap[p2]? = some (.cells #[(.int .i64 1), (.int .i64 s), (.bool x.f1), (.string x.f0), (.int .i64 x.f2.f0), (.int .i64 x.f2.f1), (.int .i64 0), (.string ⟨#[]⟩), (.int .u64 0), (.slice none 0 0)] TF (0, 0)) := blk_set b4 5 _
 have n5 := n4.setq hpw hp0 hpp 5 (.int .i64 x.f2.f1)
 have v5 := Kd.V_far v4 (p := ⟨p2, 5, none⟩) (fun k hk => hk.2.2) (.int .i64 x.f2.f1)
 have b6 : (((((((w6.setCell ⟨p2, 0, none⟩ (.int .i64 1)).setCell ⟨p2, 1, none⟩ (.int .i64 s)).setCell ⟨p2, 2, none⟩ (.bool x.f1)).setCell ⟨p2, 3, none⟩ (.string x.f0)).setCell ⟨p2, 4, none⟩ (.int .i64 x.f2.f0)).setCell ⟨p2, 5, none⟩ (.int .i64 x.f2.f1)).setCell ⟨p2, 6, none⟩ (.int .i64 x.f2.f2)).heap[p2]? = some (.cells #[(.int .i64 1), (.int .i64 s), (.bool x.f1), (.string x.f0), (.int .i64 x.f2.f0), (.int .i64 x.f2.f1), (.int .i64 x.f2.f2), (.string ⟨#[]⟩), (.int .u64 0), (.slice none 0 0)] TF (0, 0)) := blk_set b5 6 _
 have n6 := n5.setq hpw hp0 hpp 6 (.int .i64 x.f2.f2)
 have v6 := Kd.V_far v5 (p := ⟨p2, 6, none⟩) (fun k hk => hk.2.2) (.int .i64 x.f2.f2)
 have b7 : ((((((((w6.setCell ⟨p2, 0, none⟩ (.int .i64 1)).setCell ⟨p2, 1, none⟩ (.int .i64 s)).setCell ⟨p2, 2, none⟩ (.bool x.f1)).setCell ⟨p2, 3, none⟩ (.string x.f0)).setCell ⟨p2, 4, none⟩ (.int .i64 x.f2.f0)).setCell ⟨p2, 5, none⟩ (.int .i64 x.f2.f1)).setCell ⟨p2, 6, none⟩ (.int .i64 x.f2.f2)).setCell ⟨p2, 7, none⟩ (.string x.f2.f3)).heap[p2]? = some (.cells #[(.int .i64 1), (.int .i64 s), (.bool x.f1), (.string x.f0), (.int .i64 x.f2.f0), (.int .i64 x.f2.f1), (.int .i64 x.f2.f2), (.string x.f2.f3), (.int .u64 0), (.slice none 0 0)] TF (0, 0)) := blk_set b6 7 _
 have n7 := n6.setq hpw hp0 hpp 7 (.string x.f2.f3)
 have v7 := Kd.V_far v6 (p := ⟨p2, 7, none⟩) (fun k hk => hk.2.2) (.string x.f2.f3)
 have b8 : (((((((((w6.setCell ⟨p2, 0, none⟩ (.int .i64 1)).setCell ⟨p2, 1, none⟩ (.int .i64 s)).setCell ⟨p2, 2, none⟩ (.bool x.f1)).setCell ⟨p2, 3, none⟩ (.string x.f0)).setCell ⟨p2, 4, none⟩ (.int .i64 x.f2.f0)).setCell ⟨p2, 5, none⟩ (.int .i64 x.f2.f1)).setCell ⟨p2, 6, none⟩ (.int .i64 x.f2.f2)).setCell ⟨p2, 7, none⟩ (.string x.f2.f3)).setCell ⟨p2, 8, none⟩ (.int .u64 0)).heap[p2]? = some (.cells #[(.int .i64 1), (.int .i64 s), (.bool x.f1), (.string x.f0), (.int .i64 x.f2.f0), (.int .i64 x.f2.f1), (.int .i64 x.f2.f2), (.string x.f2.f3), (.int .u64 0), (.slice none 0 0)] TF (0, 0)) := blk_set b7 8 _
 have n8 := n7.setq hpw hp0 hpp 8 (.int .u64 0)
 have v8 := Kd.V_far v7 (p := ⟨p2, 8, none⟩) (fun k hk => hk.2.2) (.int .u64 0)
 have b9 : ((((((((((w6.setCell ⟨p2, 0, none⟩ (.int .i64 1)).setCell ⟨p2, 1, none⟩ (.int .i64 s)).setCell ⟨p2, 2, none⟩ (.bool x.f1)).setCell ⟨p2, 3, none⟩ (.string x.f0)).setCell ⟨p2, 4, none⟩ (.int .i64 x.f2.f0)).setCell ⟨p2, 5, none⟩ (.int .i64 x.f2.f1)).setCell ⟨p2, 6, none⟩ (.int .i64 x.f2.f2)).setCell ⟨p2, 7, none⟩ (.string x.f2.f3)).setCell ⟨p2, 8, none⟩ (.int .u64 0)).setCell ⟨p2, 9, none⟩ (.slice none 0 0)).heap[p2]? = some (.cells #[(.int .i64 1), (.int .i64 s), (.bool x.f1), (.string x.f0), (.int .i64 x.f2.f0), (.int .i64 x.f2.f1), (.int .i64 x.f2.f2), (.string x.f2.f3), (.int .u64 0), (.slice none 0 0)] TF (0, 0)) := blk_set b8 9 _
 have n9 := n8.setq hpw hp0 hpp 9 (.slice none 0 0)
 have v9 := Kd.V_far v8 (p := ⟨p2, 9, none⟩) (fun k hk => hk.2.2) (.slice none 0 0)
 generalize hwf : ((((((((((w6.setCell ⟨p2, 0, none⟩ (.int .i64 1)).setCell ⟨p2, 1, none⟩ (.int .i64 s)).setCell ⟨p2, 2, none⟩ (.bool x.f1)).setCell ⟨p2, 3, none⟩ (.string x.f0)).setCell ⟨p2, 4, none⟩ (.int .i64 x.f2.f0)).setCell ⟨p2, 5, none⟩ (.int .i64 x.f2.f1)).setCell ⟨p2, 6, none⟩ (.int .i64 x.f2.f2)).setCell ⟨p2, 7, none⟩ (.string x.f2.f3)).setCell ⟨p2, 8, none⟩ (.int .u64 0)).setCell ⟨p2, 9, none⟩ (.slice none 0 0)) = wf at b9 n9 v9 ⊢
 clear b0 n0 b1 n1 b2 n2 b3 n3 b4 n4 b5 n5 b6 n6 b7 n7 b8 n8 v0 v1 v2 v3 v4 v5 v6 v7 v8
 refine bodyPost_ret (results_ct rfl _ _ p2 TF #[(.int .i64 1), (.int .i64 s), (.bool x.f1), (.string x.f0), (.int .i64 x.f2.f0), (.int .i64 x.f2.f1), (.int .i64 x.f2.f2), (.string x.f2.f3), (.int .u64 0), (.slice none 0 0)] (0, 0) _ rfl b9 Try.underlying60 rfl (by kernel_rfl)) rfl ?_
 exact ⟨A', c', rfl, n9, Kd.V_mono v9 (fun k hk => hk.1)⟩
set_option maxHeartbeats 8000000 in
theorem next_digest (s : Int) (A : Option Addr) (cc : Nat) (tok at_ dg c0 c1 c2 c3 : Int) (B : Option Addr) (mc : Nat) (now : Int) (p : Nat) (w0 w : World) (hB : Below w0.heap.size w0 w) (hp : w0.heap.size ≤ p) (hs0 : 0 ≤ s) (hs : s < 1099511627776) (hv : Kd.V kCh 34 w 0 (fun k => k ≠ p) (.slice A 0 cc) []) (h0 : 0 ≤ dg) (h1 : dg ≤ 1099511627776) (h2 : 0 ≤ now) (h3 : now ≤ 1099511627776) (hd : c3 ≤ now - dg) (k0 : Nat) (t : List Se) (hl : t.length ≤ 40) (hm : digest_May.f k0 t = some true) (hz : ∀ x ∈ t, x.f0.size ≤ 9223372036854775807) (hvt : Kd.V kSe 72 w 0 (fun k => k ≠ p) (.slice B t.length mc) t)
  (tp : w.heap[p]? = some (.cells (tc s (.slice A 0 cc) false tok at_ false dg c0 c1 c2 c3 (.slice B t.length mc) now) TT (0, 0))) :
  Calls Try.prog 52 #[.pointer (some ⟨p, 0, none⟩)] w fun e w' => e = .returned (.tuple #[.agg #[(.int .i64 2), (.int .i64 s), (.bool false), (.string ⟨#[]⟩), (.int .i64 0), (.int .i64 0), (.int .i64 0), (.string ⟨#[]⟩), (.int .u64 (sumB t)), (.slice none 0 0)], .bool true]) ∧ Next w0 w w' p (tc (s + 1) (.slice A 0 cc) false tok at_ false now c0 c1 c2 c3 (.slice B t.length mc) now) := by
 have r0 := (blk_cell tp 0).trans rfl
 have hpl := blk_lt tp
 go_enter Try.func52, Try.ntmps52
 go_upto_region 1 with (fail)
 generalize hg : World.alloc _ _ = w1
 have hb1 := al_below hg
 have T2 := al_new hg
 have tp1 := blk_below tp hb1
 have hB1 := below_step hB hb1
 have hwz := hB.size
 have r0' := pw_cell_below hb1 r0
 clear hg r0 hB
 obtain ⟨p2, hp2⟩ : ∃ x, x = w.heap.size := ⟨_, rfl⟩
 rw [← hp2] at T2
 rw [← hp2]
 have hlt2 := blk_lt T2
 go_upto_region 2 with (fail)
 generalize hg : World.alloc _ _ = w2
 have hb2 := al_below hg
 have T4 := al_new hg
 have tp2 := blk_below tp1 hb2
 have T2' := blk_below T2 hb2
 have hB2 := below_step hB1 hb2
 have hbw := below_step hb1 hb2
 clear hg r0' hB1 tp1 T2
 obtain ⟨q, hq⟩ : ∃ x, x = w1.heap.size := ⟨_, rfl⟩
 rw [← hq] at T4
 rw [← hq]
 have hne : p ≠ q := by omega
 have hq0 : w0.heap.size ≤ q := by omega
 have hqw : w.heap.size ≤ q := by omega
 have hpq : p2 ≠ q := by omega
 have hpp : p ≠ p2 := by omega
 have hpw : w.heap.size ≤ p2 := by omega
 have hp0 : w0.heap.size ≤ p2 := by omega
 have hqp : ∀ k, k < w.heap.size → k ≠ q ∧ k ≠ p2 := fun k hk => ⟨by omega, by omega⟩
 clear hq hp2 hlt2 hwz
 have hv2 := Kd.V_below hv hbw
 have hvt2 := Kd.V_below hvt hbw
 go_wp2
 refine wp_loop_rounds 4 ?_
 rw [rounds_succ]
 go_wp2_with fail
 refine (snapshot_no s _ false tok at_ dg c0 c1 c2 c3 _ now p q w2 tp2).mono ?_
 rintro e w3 ⟨rfl, rfl⟩
 go_wp2
 rw [rounds_succ]
 go_wp2_with fail
 refine (delta_no s A cc false tok at_ false dg c0 c1 c2 c3 _ now p q (fun k => k ≠ p) w3 tp2 hv2).mono ?_
 rintro e w4 ⟨rfl, hb⟩
 have tp4 := blk_below tp2 hb
 have T44 := blk_below T4 hb
 have T24 := blk_below T2' hb
 have hB4 := below_step hB2 hb
 have hbw4 := below_step hbw hb
 have hvt4 := Kd.V_below hvt2 hb
 clear hb tp2 T4 T2' hB2 hbw
 go_wp2
 rw [rounds_succ]
 go_wp2_with fail
 refine (digest_yes s A 0 cc false tok at_ false dg c0 c1 c2 c3 B mc now s 0 h0 h1 h2 h3 hd false ⟨#[]⟩ 0 0 0 ⟨#[]⟩ (.slice none 0 0) 0 p q w0 w4 hB4 hp hq0 hne k0 t hl hm hz tp4 T44 hvt4).mono ?_
 rintro e w5 ⟨rfl, H⟩
 have T2n := (H.keep p2 (blk_lt T24) (fun e => hpp e.symm) hpq).trans T24
 have Tq := H.tq
 have HN := Next.of H hbw4 hqw
 clear H T24 T44 hB4 hbw4
 have hw : wrap64 (s + 1) = s + 1 := by unfold wrap64; omega
 have r0 := (blk_cell HN.tp 0).trans rfl
 have z0 := blk_frozen HN.tp 0
 go_upto_region 7 with (fail)
 have HN2 := HN.setp hp 0 (.int .i64 (s + 1))
 have Tq2 := blk_far Tq (p := ⟨p, 0, none⟩) (fun e => hne e.symm) (.int .i64 (s + 1))
 have T22 := blk_far T2n (p := ⟨p, 0, none⟩) (fun e => hpp e.symm) (.int .i64 (s + 1))
 generalize w5.setCell ⟨p, 0, none⟩ (.int .i64 (s + 1)) = w6 at HN2 Tq2 T22 ⊢
 clear HN Tq T2n r0 z0
 have y0 := (blk_cell Tq2 0).trans rfl
 have y1 := (blk_cell Tq2 1).trans rfl
 have y2 := (blk_cell Tq2 2).trans rfl
 have y3 := (blk_cell Tq2 3).trans rfl
 have y4 := (blk_cell Tq2 4).trans rfl
 have y5 := (blk_cell Tq2 5).trans rfl
 have y6 := (blk_cell Tq2 6).trans rfl
 have y7 := (blk_cell Tq2 7).trans rfl
 have y8 := (blk_cell Tq2 8).trans rfl
 have y9 := (blk_cell Tq2 9).trans rfl
 have k0 := (blk_cell T22 0).trans rfl
 have z0 := blk_frozen T22 0
 have k1 := (blk_cell T22 1).trans rfl
 have z1 := blk_frozen T22 1
 have k2 := (blk_cell T22 2).trans rfl
 have z2 := blk_frozen T22 2
 have k3 := (blk_cell T22 3).trans rfl
 have z3 := blk_frozen T22 3
 have k4 := (blk_cell T22 4).trans rfl
 have z4 := blk_frozen T22 4
 have k5 := (blk_cell T22 5).trans rfl
 have z5 := blk_frozen T22 5
 have k6 := (blk_cell T22 6).trans rfl
 have z6 := blk_frozen T22 6
 have k7 := (blk_cell T22 7).trans rfl
 have z7 := blk_frozen T22 7
 have k8 := (blk_cell T22 8).trans rfl
 have z8 := blk_frozen T22 8
 have k9 := (blk_cell T22 9).trans rfl
 have z9 := blk_frozen T22 9
 go_wp2
 have b0 : (w6.setCell ⟨p2, 0, none⟩ (.int .i64 2)).heap[p2]? = some (.cells #[(.int .i64 2), (.int .i64 0), (.bool false), (.string ⟨#[]⟩), (.int .i64 0), (.int .i64 0), (.int .i64 0), (.string ⟨#[]⟩), (.int .u64 0), (.slice none 0 0)] TF (0, 0)) := blk_set T22 0 _
 have n0 := HN2.setq hpw hp0 hpp 0 (.int .i64 2)
 have b1 : ((w6.setCell ⟨p2, 0, none⟩ (.int .i64 2)).setCell ⟨p2, 1, none⟩ (.int .i64 s)).heap[p2]? = some (.cells #[(.int .i64 2), (.int .i64 s), (.bool false), (.string ⟨#[]⟩), (.int .i64 0), (.int .i64 0), (.int .i64 0), (.string ⟨#[]⟩), (.int .u64 0), (.slice none 0 0)] TF (0, 0)) := blk_set b0 1 _
 have n1 := n0.setq hpw hp0 hpp 1 (.int .i64 s)
 have b2 : (((w6.setCell ⟨p2, 0, none⟩ (.int .i64 2)).setCell ⟨p2, 1, none⟩ (.int .i64 s)).setCell ⟨p2, 2, none⟩ (.bool false)).heap[p2]? = some (.cells #[(.int .i64 2), (.int .i64 s), (.bool false), (.string ⟨#[]⟩), (.int .i64 0), (.int .i64 0), (.int .i64 0), (.string ⟨#[]⟩), (.int .u64 0), (.slice none 0 0)] TF (0, 0)) := blk_set b1 2 _
 have n2 := n1.setq hpw hp0 hpp 2 (.bool false)
 have b3 : ((((w6.setCell ⟨p2, 0, none⟩ (.int .i64 2)).setCell ⟨p2, 1, none⟩ (.int .i64 s)).setCell ⟨p2, 2, none⟩ (.bool false)).setCell ⟨p2, 3, none⟩ (.string ⟨#[]⟩)).heap[p2]? = some (.cells #[(.int .i64 2), (.int .i64 s), (.bool false), (.string ⟨#[]⟩), (.int .i64 0), (.int .i64 0), (.int .i64 0), (.string ⟨#[]⟩), (.int .u64 0), (.slice none 0 0)] TF (0, 0)) := blk_set b2 3 _
 have n3 := n2.setq hpw hp0 hpp 3 (.string ⟨#[]⟩)
 have b4 : (((((w6.setCell ⟨p2, 0, none⟩ (.int .i64 2)).setCell ⟨p2, 1, none⟩ (.int .i64 s)).setCell ⟨p2, 2, none⟩ (.bool false)).setCell ⟨p2, 3, none⟩ (.string ⟨#[]⟩)).setCell ⟨p2, 4, none⟩ (.int .i64 0)).heap[p2]? = some (.cells #[(.int .i64 2), (.int .i64 s), (.bool false), (.string ⟨#[]⟩), (.int .i64 0), (.int .i64 0), (.int .i64 0), (.string ⟨#[]⟩), (.int .u64 0), (.slice none 0 0)] TF (0, 0)) := blk_set b3 4 _
 have n4 := n3.setq hpw hp0 hpp 4 (.int .i64 0)
 have b5 : ((((((w6.setCell ⟨p2, 0, none⟩ (.int .i64 2)).setCell ⟨p2, 1, none⟩ (.int .i64 s)).setCell ⟨p2, 2, none⟩ (.bool false)).setCell ⟨p2, 3, none⟩ (.string ⟨#[]⟩)).setCell ⟨p2, 4, none⟩ (.int .i64 0)).setCell ⟨p2, 5, none⟩ (.int .i64 0)).heap[p2]? = some (.cells #[(.int .i64 2), (.int .i64 s), (.bool false), (.string ⟨#[]⟩), (.int .i64 0), (.int .i64 0), (.int .i64 0), (.string ⟨#[]⟩), (.int .u64 0), (.slice none 0 0)] TF (0, 0)) := blk_set b4 5 _
 have n5 := n4.setq hpw hp0 hpp 5 (.int .i64 0)
 have b6 : (((((((w6.setCell ⟨p2, 0, none⟩ (.int .i64 2)).setCell ⟨p2, 1, none⟩ (.int .i64 s)).setCell ⟨p2, 2, none⟩ (.bool false)).setCell ⟨p2, 3, none⟩ (.string ⟨#[]⟩)).setCell ⟨p2, 4, none⟩ (.int .i64 0)).setCell ⟨p2, 5, none⟩ (.int .i64 0)).setCell ⟨p2, 6, none⟩ (.int .i64 0)).heap[p2]? = some (.cells #[(.int .i64 2), (.int .i64 s), (.bool false), (.string ⟨#[]⟩), (.int .i64 0), (.int .i64 0), (.int .i64 0), (.string ⟨#[]⟩), (.int .u64 0), (.slice none 0 0)] TF (0, 0)) := blk_set b5 6 _
 have n6 := n5.setq hpw hp0 hpp 6 (.int .i64 0)
 have b7 : ((((((((w6.setCell ⟨p2, 0, none⟩ (.int .i64 2)).setCell ⟨p2, 1, none⟩ (.int .i64 s)).setCell ⟨p2, 2, none⟩ (.bool false)).setCell ⟨p2, 3, none⟩ (.string ⟨#[]⟩)).setCell ⟨p2, 4, none⟩ (.int .i64 0)).setCell ⟨p2, 5, none⟩ (.int .i64 0)).setCell ⟨p2, 6, none⟩ (.int .i64 0)).setCell ⟨p2, 7, none⟩ (.string ⟨#[]⟩)).heap[p2]? = some (.cells #[(.int .i64 2), (.int .i64 s), (.bool false), (.string ⟨#[]⟩), (.int .i64 0), (.int .i64 0), (.int .i64 0), (.string ⟨#[]⟩), (.int .u64 0), (.slice none 0 0)] TF (0, 0)) := blk_set b6 7 _
 have n7 := n6.setq hpw hp0 hpp 7 (.string ⟨#[]⟩)
 have b8 : (((((((((w6.setCell ⟨p2, 0, none⟩ (.int .i64 2)).setCell ⟨p2, 1, none⟩ (.int .i64 s)).setCell ⟨p2, 2, none⟩ (.bool false)).setCell ⟨p2, 3, none⟩ (.string ⟨#[]⟩)).setCell ⟨p2, 4, none⟩ (.int .i64 0)).setCell ⟨p2, 5, none⟩ (.int .i64 0)).setCell ⟨p2, 6, none⟩ (.int .i64 0)).setCell ⟨p2, 7, none⟩ (.string ⟨#[]⟩)).setCell ⟨p2, 8, none⟩ (.int .u64 (sumB t))).heap[p2]? = some (.cells #[(.int .i64 2), (.int .i64 s), (.bool false), (.string ⟨#[]⟩), (.int .i64 0), (.int .i64 0), (.int .i64 0), (.string ⟨#[]⟩), (.int .u64 (sumB t)), (.slice none 0 0)] TF (0, 0)) := blk_set b7 8 _
 have n8 := n7.setq hpw hp0 hpp 8 (.int .u64 (sumB t))
 have b9 : ((((((((((w6.setCell ⟨p2, 0, none⟩ (.int .i64 2)).setCell ⟨p2, 1, none⟩ (.int .i64 s)).setCell ⟨p2, 2, none⟩ (.bool false)).setCell ⟨p2, 3, none⟩ (.string ⟨#[]⟩)).setCell ⟨p2, 4, none⟩ (.int .i64 0)).setCell ⟨p2, 5, none⟩ (.int .i64 0)).setCell ⟨p2, 6, none⟩ (.int .i64 0)).setCell ⟨p2, 7, none⟩ (.string ⟨#[]⟩)).setCell ⟨p2, 8, none⟩ (.int .u64 (sumB t))).setCell ⟨p2, 9, none⟩ (.slice none 0 0)).heap[p2]? = some (.cells #[(.int .i64 2), (.int .i64 s), (.bool false), (.string ⟨#[]⟩), (.int .i64 0), (.int .i64 0), (.int .i64 0), (.string ⟨#[]⟩), (.int .u64 (sumB t)), (.slice none 0 0)] TF (0, 0)) := blk_set b8 9 _
 have n9 := n8.setq hpw hp0 hpp 9 (.slice none 0 0)
 generalize hwf : ((((((((((w6.setCell ⟨p2, 0, none⟩ (.int .i64 2)).setCell ⟨p2, 1, none⟩ (.int .i64 s)).setCell ⟨p2, 2, none⟩ (.bool false)).setCell ⟨p2, 3, none⟩ (.string ⟨#[]⟩)).setCell ⟨p2, 4, none⟩ (.int .i64 0)).setCell ⟨p2, 5, none⟩ (.int .i64 0)).setCell ⟨p2, 6, none⟩ (.int .i64 0)).setCell ⟨p2, 7, none⟩ (.string ⟨#[]⟩)).setCell ⟨p2, 8, none⟩ (.int .u64 (sumB t))).setCell ⟨p2, 9, none⟩ (.slice none 0 0)) = wf at b9 n9 ⊢
 clear b0 n0 b1 n1 b2 n2 b3 n3 b4 n4 b5 n5 b6 n6 b7 n7 b8 n8
 refine bodyPost_ret (results_ct rfl _ _ p2 TF #[(.int .i64 2), (.int .i64 s), (.bool false), (.string ⟨#[]⟩), (.int .i64 0), (.int .i64 0), (.int .i64 0), (.string ⟨#[]⟩), (.int .u64 (sumB t)), (.slice none 0 0)] (0, 0) _ rfl b9 Try.underlying60 rfl (by kernel_rfl)) rfl ?_
 exact ⟨rfl, n9⟩
set_option maxHeartbeats 8000000 in
theorem next_none (s : Int) (A : Option Addr) (cc : Nat) (tok at_ dg c0 c1 c2 c3 : Int) (B : Option Addr) (m mc : Nat) (now : Int) (p : Nat) (w0 w : World) (hB : Below w0.heap.size w0 w) (hp : w0.heap.size ≤ p) (hs0 : 0 ≤ s) (hs : s < 1099511627776) (hv : Kd.V kCh 34 w 0 (fun k => k ≠ p) (.slice A 0 cc) []) (h0 : 0 ≤ dg) (h1 : dg ≤ 1099511627776) (h2 : 0 ≤ now) (h3 : now ≤ 1099511627776) (hd : now - dg < c3)
  (tp : w.heap[p]? = some (.cells (tc s (.slice A 0 cc) false tok at_ false dg c0 c1 c2 c3 (.slice B m mc) now) TT (0, 0))) :
  Calls Try.prog 52 #[.pointer (some ⟨p, 0, none⟩)] w fun e w' => e = .returned (.tuple #[.agg #[(.int .i64 0), (.int .i64 0), (.bool false), (.string ⟨#[]⟩), (.int .i64 0), (.int .i64 0), (.int .i64 0), (.string ⟨#[]⟩), (.int .u64 0), (.slice none 0 0)], .bool false]) ∧ Next w0 w w' p (tc s (.slice A 0 cc) false tok at_ false dg c0 c1 c2 c3 (.slice B m mc) now) := by
 have r0 := (blk_cell tp 0).trans rfl
 have hpl := blk_lt tp
 go_enter Try.func52, Try.ntmps52
 go_upto_region 1 with (fail)
 generalize hg : World.alloc _ _ = w1
 have hb1 := al_below hg
 have T2 := al_new hg
 have tp1 := blk_below tp hb1
 have hB1 := below_step hB hb1
 have hwz := hB.size
 have r0' := pw_cell_below hb1 r0
 clear hg r0 hB
 obtain ⟨p2, hp2⟩ : ∃ x, x = w.heap.size := ⟨_, rfl⟩
 rw [← hp2] at T2
 rw [← hp2]
 have hlt2 := blk_lt T2
 go_upto_region 2 with (fail)
 generalize hg : World.alloc _ _ = w2
 have hb2 := al_below hg
 have T4 := al_new hg
 have tp2 := blk_below tp1 hb2
 have T2' := blk_below T2 hb2
 have hB2 := below_step hB1 hb2
 have hbw := below_step hb1 hb2
 clear hg r0' hB1 tp1 T2
 obtain ⟨q, hq⟩ : ∃ x, x = w1.heap.size := ⟨_, rfl⟩
 rw [← hq] at T4
 rw [← hq]
 have hne : p ≠ q := by omega
 have hq0 : w0.heap.size ≤ q := by omega
 have hqw : w.heap.size ≤ q := by omega
 have hpq : p2 ≠ q := by omega
 have hpp : p ≠ p2 := by omega
 have hpw : w.heap.size ≤ p2 := by omega
 have hp0 : w0.heap.size ≤ p2 := by omega
 have hqp : ∀ k, k < w.heap.size → k ≠ q ∧ k ≠ p2 := fun k hk => ⟨by omega, by omega⟩
 clear hq hp2 hlt2 hwz
 have hv2 := Kd.V_below hv hbw
 go_wp2
 refine wp_loop_rounds 4 ?_
 rw [rounds_succ]
 go_wp2_with fail
 refine (snapshot_no s _ false tok at_ dg c0 c1 c2 c3 _ now p q w2 tp2).mono ?_
 rintro e w3 ⟨rfl, rfl⟩
 go_wp2
 rw [rounds_succ]
 go_wp2_with fail
 refine (delta_no s A cc false tok at_ false dg c0 c1 c2 c3 _ now p q (fun k => k ≠ p) w3 tp2 hv2).mono ?_
 rintro e w4 ⟨rfl, hb⟩
 have tp4 := blk_below tp2 hb
 have T44 := blk_below T4 hb
 have T24 := blk_below T2' hb
 have hB4 := below_step hB2 hb
 have hbw4 := below_step hbw hb
 clear hb tp2 T4 T2' hB2 hbw
 go_wp2
 rw [rounds_succ]
 go_wp2_with fail
 refine (digest_no s _ false tok at_ false dg c0 c1 c2 c3 _ now h0 h1 h2 h3 hd p q w4 tp4).mono ?_
 rintro e w5 ⟨rfl, hb⟩
 have tp5 := blk_below tp4 hb
 have T25 := blk_below T24 hb
 have HN : Next w0 w w5 p _ := ⟨below_step hB4 hb, tp5, Nat.le_trans hbw4.size hb.size, fun k h1 h2 => (hb.block k (Nat.lt_of_lt_of_le h1 hbw4.size)).trans (hbw4.block k h1)⟩
 clear hb tp4 T44 T24 hB4 hbw4 hv2 hv h0 h1 h2 h3 hd
 go_wp2
 rw [rounds_succ]
 have k0 := (blk_cell T25 0).trans rfl
 have z0 := blk_frozen T25 0
 have k1 := (blk_cell T25 1).trans rfl
 have z1 := blk_frozen T25 1
 have k2 := (blk_cell T25 2).trans rfl
 have z2 := blk_frozen T25 2
 have k3 := (blk_cell T25 3).trans rfl
 have z3 := blk_frozen T25 3
 have k4 := (blk_cell T25 4).trans rfl
 have z4 := blk_frozen T25 4
 have k5 := (blk_cell T25 5).trans rfl
 have z5 := blk_frozen T25 5
 have k6 := (blk_cell T25 6).trans rfl
 have z6 := blk_frozen T25 6
 have k7 := (blk_cell T25 7).trans rfl
 have z7 := blk_frozen T25 7
 have k8 := (blk_cell T25 8).trans rfl
 have z8 := blk_frozen T25 8
 have k9 := (blk_cell T25 9).trans rfl
 have z9 := blk_frozen T25 9
 go_wp2
 have b0 : (w5.setCell ⟨p2, 0, none⟩ (.int .i64 0)).heap[p2]? = some (.cells #[(.int .i64 0), (.int .i64 0), (.bool false), (.string ⟨#[]⟩), (.int .i64 0), (.int .i64 0), (.int .i64 0), (.string ⟨#[]⟩), (.int .u64 0), (.slice none 0 0)] TF (0, 0)) := blk_set T25 0 _
 have n0 := HN.setq hpw hp0 hpp 0 (.int .i64 0)
 have b1 : ((w5.setCell ⟨p2, 0, none⟩ (.int .i64 0)).setCell ⟨p2, 1, none⟩ (.int .i64 0)).heap[p2]? = some (.cells #[(.int .i64 0), (.int .i64 0), (.bool false), (.string ⟨#[]⟩), (.int .i64 0), (.int .i64 0), (.int .i64 0), (.string ⟨#[]⟩), (.int .u64 0), (.slice none 0 0)] TF (0, 0)) := blk_set b0 1 _
 have n1 := n0.setq hpw hp0 hpp 1 (.int .i64 0)
 have b2 : (((w5.setCell ⟨p2, 0, none⟩ (.int .i64 0)).setCell ⟨p2, 1, none⟩ (.int .i64 0)).setCell ⟨p2, 2, none⟩ (.bool false)).heap[p2]? = some (.cells #[(.int .i64 0), (.int .i64 0), (.bool false), (.string ⟨#[]⟩), (.int .i64 0), (.int .i64 0), (.int .i64 0), (.string ⟨#[]⟩), (.int .u64 0), (.slice none 0 0)] TF (0, 0)) := blk_set b1 2 _
 have n2 := n1.setq hpw hp0 hpp 2 (.bool false)
 have b3 : ((((w5.setCell ⟨p2, 0, none⟩ (.int .i64 0)).setCell ⟨p2, 1, none⟩ (.int .i64 0)).setCell ⟨p2, 2, none⟩ (.bool false)).setCell ⟨p2, 3, none⟩ (.string ⟨#[]⟩)).heap[p2]? = some (.cells #[(.int .i64 0), (.int .i64 0), (.bool false), (.string ⟨#[]⟩), (.int .i64 0), (.int .i64 0), (.int .i64 0), (.string ⟨#[]⟩), (.int .u64 0), (.slice none 0 0)] TF (0, 0)) := blk_set b2 3 _
 have n3 := n2.setq hpw hp0 hpp 3 (.string ⟨#[]⟩)
 have b4 : (((((w5.setCell ⟨p2, 0, none⟩ (.int .i64 0)).setCell ⟨p2, 1, none⟩ (.int .i64 0)).setCell ⟨p2, 2, none⟩ (.bool false)).setCell ⟨p2, 3, none⟩ (.string ⟨#[]⟩)).setCell ⟨p2, 4, none⟩ (.int .i64 0)).heap[p2]? = some (.cells #[(.int .i64 0), (.int .i64 0), (.bool false), (.string ⟨#[]⟩), (.int .i64 0), (.int .i64 0), (.int .i64 0), (.string ⟨#[]⟩), (.int .u64 0), (.slice none 0 0)] TF (0, 0)) := blk_set b3 4 _
 have n4 := n3.setq hpw hp0 hpp 4 (.int .i64 0)
 have b5 : ((((((w5.setCell ⟨p2, 0, none⟩ (.int .i64 0)).setCell ⟨p2, 1, none⟩ (.int .i64 0)).setCell ⟨p2, 2, none⟩ (.bool false)).setCell ⟨p2, 3, none⟩ (.string ⟨#[]⟩)).setCell ⟨p2, 4, none⟩ (.int .i64 0)).setCell ⟨p2, 5, none⟩ (.int .i64 0)).heap[p2]? = some (.cells #[(.int .i64 0), (.int .i64 0), (.bool false), (.string ⟨#[]⟩), (.int .i64 0), (.int .i64 0), (.int .i64 0), (.string ⟨#[]⟩), (.int .u64 0), (.slice none 0 0)] TF (0, 0)) := blk_set b4 5 _
 have n5 := n4.setq hpw hp0 hpp 5 (.int .i64 0)
 have b6 : (((((((w5.setCell ⟨p2, 0, none⟩ (.int .i64 0)).setCell ⟨p2, 1, none⟩ (.int .i64 0)).setCell ⟨p2, 2, none⟩ (.bool false)).setCell ⟨p2, 3, none⟩ (.string ⟨#[]⟩)).setCell ⟨p2, 4, none⟩ (.int .i64 0)).setCell ⟨p2, 5, none⟩ (.int .i64 0)).setCell ⟨p2, 6, none⟩ (.int .i64 0)).heap[p2]? = some (.cells #[(.int .i64 0), (.int .i64 0), (.bool false), (.string ⟨#[]⟩), (.int .i64 0), (.int .i64 0), (.int .i64 0), (.string ⟨#[]⟩), (.int .u64 0), (.slice none 0 0)] TF (0, 0)) := blk_set b5 6 _
 have n6 := n5.setq hpw hp0 hpp 6 (.int .i64 0)
 have b7 : ((((((((w5.setCell ⟨p2, 0, none⟩ (.int .i64 0)).setCell ⟨p2, 1, none⟩ (.int .i64 0)).setCell ⟨p2, 2, none⟩ (.bool false)).setCell ⟨p2, 3, none⟩ (.string ⟨#[]⟩)).setCell ⟨p2, 4, none⟩ (.int .i64 0)).setCell ⟨p2, 5, none⟩ (.int .i64 0)).setCell ⟨p2, 6, none⟩ (.int .i64 0)).setCell ⟨p2, 7, none⟩ (.string ⟨#[]⟩)).heap[p2]? = some (.cells #[(.int .i64 0), (.int .i64 0), (.bool false), (.string ⟨#[]⟩), (.int .i64 0), (.int .i64 0), (.int .i64 0), (.string ⟨#[]⟩), (.int .u64 0), (.slice none 0 0)] TF (0, 0)) := blk_set b6 7 _
 have n7 := n6.setq hpw hp0 hpp 7 (.string ⟨#[]⟩)
 have b8 : (((((((((w5.setCell ⟨p2, 0, none⟩ (.int .i64 0)).setCell ⟨p2, 1, none⟩ (.int .i64 0)).setCell ⟨p2, 2, none⟩ (.bool false)).setCell ⟨p2, 3, none⟩ (.string ⟨#[]⟩)).setCell ⟨p2, 4, none⟩ (.int .i64 0)).setCell ⟨p2, 5, none⟩ (.int .i64 0)).setCell ⟨p2, 6, none⟩ (.int .i64 0)).setCell ⟨p2, 7, none⟩ (.string ⟨#[]⟩)).setCell ⟨p2, 8, none⟩ (.int .u64 0)).heap[p2]? = some (.cells #[(.int .i64 0), (.int .i64 0), (.bool false), (.string ⟨#[]⟩), (.int .i64 0), (.int .i64 0), (.int .i64 0), (.string ⟨#[]⟩), (.int .u64 0), (.slice none 0 0)] TF (0, 0)) := blk_set b7 8 _
 have n8 := n7.setq hpw hp0 hpp 8 (.int .u64 0)
 have b9 : ((((((((((w5.setCell ⟨p2, 0, none⟩ (.int .i64 0)).setCell ⟨p2, 1, none⟩ (.int .i64 0)).setCell ⟨p2, 2, none⟩ (.bool false)).setCell ⟨p2, 3, none⟩ (.string ⟨#[]⟩)).setCell ⟨p2, 4, none⟩ (.int .i64 0)).setCell ⟨p2, 5, none⟩ (.int .i64 0)).setCell ⟨p2, 6, none⟩ (.int .i64 0)).setCell ⟨p2, 7, none⟩ (.string ⟨#[]⟩)).setCell ⟨p2, 8, none⟩ (.int .u64 0)).setCell ⟨p2, 9, none⟩ (.slice none 0 0)).heap[p2]? = some (.cells #[(.int .i64 0), (.int .i64 0), (.bool false), (.string ⟨#[]⟩), (.int .i64 0), (.int .i64 0), (.int .i64 0), (.string ⟨#[]⟩), (.int .u64 0), (.slice none 0 0)] TF (0, 0)) := blk_set b8 9 _
 have n9 := n8.setq hpw hp0 hpp 9 (.slice none 0 0)
 generalize hwf : ((((((((((w5.setCell ⟨p2, 0, none⟩ (.int .i64 0)).setCell ⟨p2, 1, none⟩ (.int .i64 0)).setCell ⟨p2, 2, none⟩ (.bool false)).setCell ⟨p2, 3, none⟩ (.string ⟨#[]⟩)).setCell ⟨p2, 4, none⟩ (.int .i64 0)).setCell ⟨p2, 5, none⟩ (.int .i64 0)).setCell ⟨p2, 6, none⟩ (.int .i64 0)).setCell ⟨p2, 7, none⟩ (.string ⟨#[]⟩)).setCell ⟨p2, 8, none⟩ (.int .u64 0)).setCell ⟨p2, 9, none⟩ (.slice none 0 0)) = wf at b9 n9 ⊢
 clear b0 n0 b1 n1 b2 n2 b3 n3 b4 n4 b5 n5 b6 n6 b7 n7 b8 n8
 refine bodyPost_ret (results_ct rfl _ _ p2 TF #[(.int .i64 0), (.int .i64 0), (.bool false), (.string ⟨#[]⟩), (.int .i64 0), (.int .i64 0), (.int .i64 0), (.string ⟨#[]⟩), (.int .u64 0), (.slice none 0 0)] (0, 0) _ rfl b9 Try.underlying60 rfl (by kernel_rfl)) rfl ?_
 exact ⟨rfl, n9⟩
end Go.Proofs.Ytmigglldahkngaa.XTell
end

section
/- Whole numbers below 2^53 as floats: sums, differences, products and the way back are exact. No program is in sight. -/
namespace Go.Proofs.Ytmigglldahkngaa.XFloat
open Go Ieee
/-- A whole number's float. -/
def fl (n : Nat) : Nat := floatOfInt .f64 (n : Int)
theorem fl_def (n : Nat) : fl n = Ieee.double.nearest false n 0 := by
 show FloatKind.nearest .f64 (n : Int) = _
 unfold FloatKind.nearest FloatKind.encode FloatKind.format
 have h : decide ((n : Int) < 0) = false := decide_eq_false (by omega)
 rw [h]
 rfl
theorem cut_even (neg : Bool) (m d : Nat) (hd : d ≤ (m <<< d).log2 + 2) : Toward.even.cut neg (m <<< d) d = m := by
 unfold Toward.cut
 rw [Nat.min_eq_left hd]
 have hp : 0 < 2 ^ d := Nat.two_pow_pos d
 have e1 : (1 : Nat) <<< d = 2 ^ d := by rw [Nat.shiftLeft_eq, Nat.one_mul]
 rw [e1, Nat.shiftLeft_eq]
 dsimp only
 rw [Nat.mul_div_cancel _ hp, Nat.mul_mod_left]
 have e2 : (2 ^ d == 2 * 0) = false := by simp
 simp only [Nat.mul_zero, Nat.not_lt_zero, decide_false, Bool.false_or]
 have e3 : (2 ^ d == 0) = false := by simp
 rw [e3]
 rfl
theorem cut_zero (neg : Bool) (m d : Nat) (hd : m = 0 ∨ d ≤ (m <<< d).log2 + 2) : Toward.zero.cut neg (m <<< d) d = m := by
 unfold Toward.cut
 rcases hd with h | h
 ·subst h
  simp
 ·rw [Nat.min_eq_left h]
  have hp : 0 < 2 ^ d := Nat.two_pow_pos d
  have e1 : (1 : Nat) <<< d = 2 ^ d := by rw [Nat.shiftLeft_eq, Nat.one_mul]
  rw [e1, Nat.shiftLeft_eq]
  dsimp only
  rw [Nat.mul_div_cancel _ hp]
  rfl
theorem log2_shift (n k : Nat) (hn : n ≠ 0) : (n <<< k).log2 = n.log2 + k := by
 have h := Nat.log2_self_le hn
 have h2 := Nat.lt_log2_self (n := n)
 have hne : n <<< k ≠ 0 := by rw [Nat.shiftLeft_eq]; exact Nat.mul_ne_zero hn (Nat.ne_of_gt (Nat.two_pow_pos k))
 have hp : 0 < 2 ^ k := Nat.two_pow_pos k
 refine Nat.le_antisymm ?_ ?_
 ·refine Nat.le_of_lt_succ ((Nat.log2_lt hne).2 ?_)
  rw [Nat.shiftLeft_eq, show (n.log2 + k).succ = (n.log2 + 1) + k by omega, Nat.pow_add]
  exact Nat.mul_lt_mul_of_pos_right h2 hp
 ·refine (Nat.le_log2 hne).2 ?_
  rw [Nat.shiftLeft_eq, Nat.pow_add]
  exact Nat.mul_le_mul_right _ h
theorem log2_lt53 {n : Nat} (hn : n ≠ 0) (h : n < 2 ^ 53) : n.log2 ≤ 52 := Nat.le_of_lt_succ ((Nat.log2_lt hn).2 h)
/-- The rung of a whole number. -/
def rung (n : Nat) : Nat := if n = 0 then 0 else (n.log2 + 1022) * 2 ^ 52 + n <<< (52 - n.log2)
theorem kept_lt {n : Nat} (hn : n ≠ 0) (h : n < 2 ^ 53) : 2 ^ 52 ≤ n <<< (52 - n.log2) ∧ n <<< (52 - n.log2) < 2 ^ 53 := by
 have hl := log2_lt53 hn h
 have h1 := Nat.log2_self_le hn
 have h2 := Nat.lt_log2_self (n := n)
 rw [Nat.shiftLeft_eq]
 have hp : 0 < 2 ^ (52 - n.log2) := Nat.two_pow_pos _
 constructor
 ·calc 2 ^ 52 = 2 ^ n.log2 * 2 ^ (52 - n.log2) := by rw [← Nat.pow_add]; congr 1; omega
   _ ≤ _ := Nat.mul_le_mul_right _ h1
 ·calc _ < 2 ^ (n.log2 + 1) * 2 ^ (52 - n.log2) := Nat.mul_lt_mul_of_pos_right h2 hp
   _ = 2 ^ 53 := by rw [← Nat.pow_add]; congr 1; omega
theorem min_rung (L m : Nat) (hL : L ≤ 52) (hm : m < 2 ^ 53) : min ((L + 1022) * 2 ^ 52 + m) (2047 * 2 ^ 52) = (L + 1022) * 2 ^ 52 + m := by
 rw [show (2 : Nat) ^ 53 = 2 ^ 52 * 2 by rw [← Nat.pow_succ]] at hm
 generalize (2 : Nat) ^ 52 = B at hm ⊢
 refine Nat.min_eq_left ?_
 have : (L + 1022) * B ≤ 1074 * B := Nat.mul_le_mul_right _ (by omega)
 omega
theorem nearest_at (n k : Nat) (h : n < 2 ^ 53) : Ieee.double.nearest false (n <<< k) (-(k : Int)) = rung n := by
 unfold Format.nearest rung
 by_cases hn : n = 0
 ·subst hn
  simp [Format.word]
 ·have hne : n <<< k ≠ 0 := by rw [Nat.shiftLeft_eq]; exact Nat.mul_ne_zero hn (Nat.ne_of_gt (Nat.two_pow_pos k))
  have hl := log2_lt53 hn h
  have hk := kept_lt hn h
  rw [if_neg hne, if_neg hn]
  have e0 : Ieee.double.leastPlace = -1074 := by decide
  have e1 : (Ieee.double.fractionBits : Int) = 52 := rfl
  have e2 : Ieee.double.binade = 2 ^ 52 := rfl
  have e3 : Ieee.double.infRung = 2047 * 2 ^ 52 := by decide
  have e4 : max (-(k : Int) + ((n <<< k).log2 : Int) - (Ieee.double.fractionBits : Int)) Ieee.double.leastPlace = (n.log2 : Int) - 52 := by
   rw [log2_shift n k hn, e0, e1]; omega
  simp only [e4]
  rw [e0, e2, e3]
  have e5 : ((n.log2 : Int) - 52 - -1074).toNat = n.log2 + 1022 := by omega
  have e6 : Toward.even.cut false ((n <<< k) <<< (-(k : Int) - ((n.log2 : Int) - 52)).toNat) ((n.log2 : Int) - 52 - -(k : Int)).toNat = n <<< (52 - n.log2) := by
   by_cases c : k + n.log2 ≤ 52
   ·rw [show (-(k : Int) - ((n.log2 : Int) - 52)).toNat = 52 - n.log2 - k by omega, show ((n.log2 : Int) - 52 - -(k : Int)).toNat = 0 by omega, ← Nat.shiftLeft_add, show k + (52 - n.log2 - k) = 52 - n.log2 by omega]
    exact cut_even false (n <<< (52 - n.log2)) 0 (Nat.zero_le _)
   ·rw [show (-(k : Int) - ((n.log2 : Int) - 52)).toNat = 0 by omega, show ((n.log2 : Int) - 52 - -(k : Int)).toNat = n.log2 + k - 52 by omega, Nat.shiftLeft_zero]
    have e7 : n <<< k = (n <<< (52 - n.log2)) <<< (n.log2 + k - 52) := by rw [← Nat.shiftLeft_add]; congr 1; omega
    rw [e7]
    refine cut_even false _ _ ?_
    rw [← e7, log2_shift n k hn]
    omega
  rw [e5, e6]
  unfold Format.word
  rw [if_neg (by simp)]
  exact min_rung _ _ hl hk.2
theorem fl_rung (n : Nat) (h : n < 2 ^ 53) : fl n = rung n := by
 rw [fl_def]
 have := nearest_at n 0 h
 rw [Nat.shiftLeft_zero] at this
 exact this
theorem write_at (n k : Nat) (h : n < 2 ^ 53) : Ieee.double.write (.number false (n <<< k) (-(k : Int))) = fl n := by
 rw [fl_rung n h]
 exact nearest_at n k h
theorem read_fl (n : Nat) (h : n < 2 ^ 53) : ∃ k : Nat, Ieee.double.read (fl n) = .number false (n <<< k) (-(k : Int)) ∧ (n ≠ 0 → k ≤ 52) := by
 rw [fl_rung n h]
 unfold rung
 by_cases hn : n = 0
 ·subst hn
  refine ⟨1074, ?_, fun e => absurd rfl e⟩
  rw [if_pos rfl, Nat.zero_shiftLeft]
  decide
 ·rw [if_neg hn]
  have hl := log2_lt53 hn h
  have hk := kept_lt hn h
  refine ⟨52 - n.log2, ?_, fun _ => by omega⟩
  generalize hm : n <<< (52 - n.log2) = m at hk ⊢
  have e0 : Ieee.double.leastPlace = -1074 := by decide
  have e2 : Ieee.double.binade = 2 ^ 52 := rfl
  have e3 : Ieee.double.infRung = 2047 * 2 ^ 52 := by decide
  have e4 : Ieee.double.signWeight = 2 ^ 63 := rfl
  have hb : (n.log2 + 1022) * 2 ^ 52 ≤ 1074 * 2 ^ 52 := Nat.mul_le_mul_right _ (by omega)
  have hx : (n.log2 + 1022) * 2 ^ 52 + m < 2 ^ 63 := by omega
  unfold Format.read
  rw [e4, e2, e3, e0]
  simp only
  rw [Nat.div_eq_of_lt hx, Nat.mod_eq_of_lt hx, if_neg (by omega), if_pos (by omega)]
  have e5 : ((n.log2 + 1022) * 2 ^ 52 + m) % 2 ^ 52 = m - 2 ^ 52 := by omega
  have e6 : ((n.log2 + 1022) * 2 ^ 52 + m) / 2 ^ 52 = n.log2 + 1023 := by omega
  rw [e5, e6]
  have e7 : 2 ^ 52 + (m - 2 ^ 52) = m := by omega
  rw [e7]
  have e8 : (-1074 : Int) + ((n.log2 + 1023 - 1 : Nat) : Int) = -((52 - n.log2 : Nat) : Int) := by omega
  rw [e8]
  rfl
theorem sh_le (n k K : Nat) (h : k ≤ K) : (n <<< k) <<< (K - k) = n <<< K := by rw [← Nat.shiftLeft_add]; congr 1; omega
theorem base_min (i j : Nat) : min (-(i : Int)) (-(j : Int)) = -((max i j : Nat) : Int) := by omega
theorem fl_add (n m : Nat) (h : n + m < 2 ^ 53) : floatBits .add .f64 (fl n) (fl m) = some (fl (n + m)) := by
 obtain ⟨i, hi, _⟩ := read_fl n (by omega)
 obtain ⟨j, hj, _⟩ := read_fl m (by omega)
 show Ieee.double.add (fl n) (fl m) = _
 unfold Format.add
 rw [hi, hj]
 simp only [Datum.sum, base_min, signed, Bool.false_eq_true, if_false, Option.map_some, Bool.and_self]
 rw [show (-(i : Int) - -((max i j : Nat) : Int)).toNat = max i j - i by omega, show (-(j : Int) - -((max i j : Nat) : Int)).toNat = max i j - j by omega, sh_le n i _ (Nat.le_max_left ..), sh_le m j _ (Nat.le_max_right ..)]
 have e : n <<< max i j + m <<< max i j = (n + m) <<< max i j := by rw [Nat.shiftLeft_eq, Nat.shiftLeft_eq, Nat.shiftLeft_eq, Nat.add_mul]
 have e2 : ((n <<< max i j : Nat) : Int) + ((m <<< max i j : Nat) : Int) = (((n + m) <<< max i j : Nat) : Int) := by rw [← e]; omega
 rw [e2]
 have e3 : (if (((n + m) <<< max i j : Nat) : Int) = 0 then false else decide ((((n + m) <<< max i j : Nat) : Int) < 0)) = false := by
  split
  ·rfl
  ·exact decide_eq_false (Int.not_lt.2 (Int.natCast_nonneg _))
 rw [e3, Int.natAbs_natCast, write_at _ _ h]
theorem fl_sub (n m : Nat) (hn : n < 2 ^ 53) (h : m ≤ n) : floatBits .sub .f64 (fl n) (fl m) = some (fl (n - m)) := by
 obtain ⟨i, hi, _⟩ := read_fl n (by omega)
 obtain ⟨j, hj, _⟩ := read_fl m (by omega)
 show Ieee.double.sub (fl n) (fl m) = _
 unfold Format.sub
 rw [hi, hj]
 simp only [Datum.opposite, Datum.sum, base_min, signed, Bool.false_eq_true, if_false, Option.map_some, Bool.not_false, if_true, Bool.false_and]
 rw [show (-(i : Int) - -((max i j : Nat) : Int)).toNat = max i j - i by omega, show (-(j : Int) - -((max i j : Nat) : Int)).toNat = max i j - j by omega, sh_le n i _ (Nat.le_max_left ..), sh_le m j _ (Nat.le_max_right ..)]
 have e : n <<< max i j = (n - m) <<< max i j + m <<< max i j := by rw [Nat.shiftLeft_eq, Nat.shiftLeft_eq, Nat.shiftLeft_eq, ← Nat.add_mul, Nat.sub_add_cancel h]
 have e2 : ((n <<< max i j : Nat) : Int) + -((m <<< max i j : Nat) : Int) = (((n - m) <<< max i j : Nat) : Int) := by omega
 rw [e2]
 have e3 : (if (((n - m) <<< max i j : Nat) : Int) = 0 then false else decide ((((n - m) <<< max i j : Nat) : Int) < 0)) = false := by
  split
  ·rfl
  ·exact decide_eq_false (Int.not_lt.2 (Int.natCast_nonneg _))
 rw [e3, Int.natAbs_natCast, write_at _ _ (by omega)]
theorem fl_mul (n m : Nat) (hn : n < 2 ^ 53) (hm : m < 2 ^ 53) (h : n * m < 2 ^ 53) : floatBits .mul .f64 (fl n) (fl m) = some (fl (n * m)) := by
 obtain ⟨i, hi, _⟩ := read_fl n hn
 obtain ⟨j, hj, _⟩ := read_fl m hm
 show Ieee.double.mul (fl n) (fl m) = _
 unfold Format.mul
 rw [hi, hj]
 simp only [Datum.product, Bool.xor_self, Option.map_some]
 have e : n <<< i * m <<< j = (n * m) <<< (i + j) := by rw [Nat.shiftLeft_eq, Nat.shiftLeft_eq, Nat.shiftLeft_eq, Nat.pow_add, Nat.mul_mul_mul_comm]
 have e2 : -(i : Int) + -(j : Int) = -((i + j : Nat) : Int) := by omega
 rw [e, e2, write_at _ _ h]
theorem fl_int (n : Nat) (h : n < 2 ^ 53) : floatToIntVal .f64 (fl n) .i64 = some (n : Int) := by
 obtain ⟨i, hi, h2⟩ := read_fl n h
 unfold floatToIntVal
 have e : (FloatKind.decode .f64 (fl n)).toInt .zero = some (n : Int) := by
  show (Ieee.double.read (fl n)).toInt .zero = _
  rw [hi]
  unfold Datum.toInt Datum.integral
  simp only
  rw [show (-(i : Int)).toNat = 0 by omega, show (- -(i : Int)).toNat = i by omega, Nat.shiftLeft_zero]
  rw [cut_zero false n i (by
   by_cases hn : n = 0
   ·exact Or.inl hn
   ·right; rw [log2_shift n i hn]; omega)]
  simp [signed]
 rw [e]
 simp only
 rw [if_pos]
 constructor
 ·show (IntKind.i64.min : Int) ≤ n
  have : IntKind.i64.min = -9223372036854775808 := by decide
  omega
 ·have : IntKind.i64.max = 9223372036854775807 := by decide
  omega
theorem fl_wf (n : Nat) : (Lit.float .f64 (fl n)).wf = true := floatOfInt_wf .f64 n
theorem fl_one : (4607182418800017408 : Nat) = fl 1 := by decide
theorem fl_zero : (0 : Nat) = fl 0 := by decide
end Go.Proofs.Ytmigglldahkngaa.XFloat
end

section
/- pace's numbers on the complex plane, walked: a bucket's point, a point's bucket, a bucket as it is later, a token taken. -/
namespace Go.Proofs.Ytmigglldahkngaa.XPace
open Go.RowKit Go.Proofs.YtmigglldahkngaaW.PrintWords Go.Proofs.YtmigglldahkngaaW.PrintLast Go.Proofs.YtmigglldahkngaaW.PrintMore Go.Proofs.Ytmigglldahkngaa.PA Go.Proofs.Ytmigglldahkngaa.XMem Go.Proofs.Ytmigglldahkngaa.XFloat
set_option linter.unusedVariables false
set_option linter.unusedSimpArgs false
set_option maxRecDepth 100000
theorem point_calls (t a : Int) (x y : Nat) (hx : floatOfInt .f64 t = x) (hy : floatOfInt .f64 a = y) (w : World) :
  Calls Try.prog 74 #[.agg #[.int .i64 t, .int .i64 a]] w fun e w' => e = .returned (.complex .f64 x y) ∧ Below w.heap.size w w' := by
 subst hx
 subst hy
 go_enter Try.func74, Try.ntmps74
 have HB : Below w.heap.size w w := Below.refl _ _
 have hM : Mem w [] := Mem.nil w
 go_upto_region 1 with (fail)
 generalize hg : World.alloc _ _ = w1
 obtain ⟨hB', hM', hb⟩ := Mem.new hg HB hM
 clear HB hM hg hb
 generalize w.heap.size = p at hM' ⊢
 have q0 := hM'.cell 0 0 rfl rfl
 have q1 := hM'.cell 0 1 rfl rfl
 go_wp2
 go_ret
 exact ⟨rfl, hB'⟩
theorem someU121 : (Try.prog.underlying 121).isSome = true := by rw [Try.underlying121]; rfl
theorem bucket_calls (t a : Nat) (ht : t < 2 ^ 53) (ha : a < 2 ^ 53) (w : World) :
  Calls Try.prog 73 #[.complex .f64 (fl t) (fl a)] w fun e w' => e = .returned (.agg #[.int .i64 t, .int .i64 a]) ∧ Below w.heap.size w w' := by
 have h1 := Aside0.mk (fl_int t ht)
 have h2 := Aside0.mk (fl_int a ha)
 generalize fl t = x at h1 ⊢
 generalize fl a = y at h2 ⊢
 clear ht ha
 generalize (t : Int) = t at h1 ⊢
 generalize (a : Int) = a at h2 ⊢
 go_enter Try.func73, Try.ntmps73
 have HB : Below w.heap.size w w := Below.refl _ _
 have hM : Mem w [] := Mem.nil w
 go_upto_region 1 with (fail)
 generalize hg : World.alloc _ _ = w1
 obtain ⟨hB', hM', hb⟩ := Mem.new hg HB hM
 have T := al_new hg
 have hz : w.heap.size ≤ w.heap.size := Nat.le_refl _
 clear HB hM hg hb hM'
 generalize hp : w.heap.size = p at T ⊢
 have k0 := (blk_cell T 0).trans rfl
 have k1 := (blk_cell T 1).trans rfl
 have z0 := blk_frozen T 0
 have z1 := blk_frozen T 1
 go_wp2_with (first | (rw [run_convert_float_int _ 121 3 .f64 .i64 x t someU121 Try.underlying3 h1.out]; go_simp) | (rw [run_convert_float_int _ 121 3 .f64 .i64 y a someU121 Try.underlying3 h2.out]; go_simp))
 refine bodyPost_ret (results_cell_row rfl _ _ p 28 #[.int .i64 t, .int .i64 a] (0, 0) _ rfl (blk_set (blk_set T 0 _) 1 _) Try.underlying28 rfl (by kernel_rfl)) rfl ?_
 refine ⟨rfl, ?_⟩
 exact below_set (below_set hB' (Nat.le_of_eq hp)) (Nat.le_of_eq hp)
theorem Mem.new3 {w0 w w1 : World} {L : List (Nat × Obj)} {o o' o'' : Obj} (h : ((w.alloc o).alloc o').alloc o'' = w1) (hB : Below w0.heap.size w0 w) (hM : Mem w L) : Below w0.heap.size w0 w1 ∧ Mem w1 ((w.heap.size + 2, o'') :: (w.heap.size + 1, o') :: (w.heap.size, o) :: L) ∧ Below w.heap.size w w1 := by
 obtain ⟨h1, h2, h3⟩ := Mem.new2 (rfl : (w.alloc o).alloc o' = _) hB hM
 obtain ⟨k1, k2, k3⟩ := Mem.new h h1 h2
 rw [show ((w.alloc o).alloc o').heap.size = w.heap.size + 2 by simp] at k2
 exact ⟨k1, k2, below_step h3 k3⟩
theorem mul_pl (k r : Nat) (hk : k < 2 ^ 53) (hr : r < 2 ^ 53) (h : k * r < 2 ^ 53) : cMulBits (fl k) 0 (fl r) 4607182418800017408 = some (fl (k * r), fl k) := by
 rw [fl_zero, fl_one]
 unfold cMulBits
 rw [fl_mul k r hk hr h, fl_mul 0 1 (by omega) (by omega) (by omega), Option.bind_some, Option.bind_some, show 0 * 1 = 0 from rfl, fl_sub (k * r) 0 h (by omega), Option.bind_some, fl_mul k 1 hk (by omega) (by omega), Option.bind_some, fl_mul 0 r (by omega) hr (by omega), Option.bind_some, Nat.zero_mul, Nat.mul_one, fl_add k 0 (by omega)]
 rfl
theorem add_pl (a b c d : Nat) (h1 : a + c < 2 ^ 53) (h2 : b + d < 2 ^ 53) : cSumBits .add .f64 (fl a) (fl b) (fl c) (fl d) = some (fl (a + c), fl (b + d)) := by
 unfold cSumBits
 rw [fl_add a c h1, fl_add b d h2]
 rfl
theorem sub_pl (a b : Nat) (h1 : a < 2 ^ 53) (h2 : b < 2 ^ 53) (h3 : 1 ≤ a) : cSumBits .sub .f64 (fl a) (fl b) 4607182418800017408 0 = some (fl (a - 1), fl b) := by
 rw [fl_zero, fl_one]
 unfold cSumBits
 rw [fl_sub a 1 h1 h3, fl_sub b 0 h2 (by omega)]
 rfl
attribute [local go_sem] max2_int min2_int max_two min_two
set_option maxHeartbeats 4000000 in
theorem later_late (c0 c1 c3 : Int) (r t a now k : Nat) (hr : r ≤ 16) (ht : t ≤ 64) (ha : a ≤ 1099511627776) (hn : now ≤ 1099511627776) (h0 : a < now) (hk : k = now - a) (m : Int) (hm : m = mn ((t + k * r : Nat) : Int) c1) (w : World) :
  Calls Try.prog 72 #[.agg #[.int .i64 c0, .int .i64 c1, .int .i64 r, .int .i64 c3], .agg #[.int .i64 t, .int .i64 a], .int .i64 now] w fun e w' => e = .returned (.agg #[.int .i64 m, .int .i64 (a + k : Nat)]) ∧ Below w.heap.size w w' := by
 have hkr : k * r ≤ 1099511627776 * 16 := Nat.mul_le_mul (by omega) hr
 have HM := Aside0.mk (mul_pl k r (by omega) (by omega) (by omega))
 have HA := Aside0.mk (add_pl t a (k * r) k (by omega) (by omega))
 have HP := Aside0.mk (fun w => point_calls (t : Int) (a : Int) (fl t) (fl a) rfl rfl w)
 have HB := Aside0.mk (fun w => bucket_calls (t + k * r) (a + k) (by omega) (by omega) w)
 have hs : wrap64 ((now : Int) - (a : Int)) = (k : Int) := by unfold wrap64; omega
 have h0' : (0 : Int) < (k : Int) := by omega
 have hf : floatOfInt .f64 (k : Int) = fl k := rfl
 have hf2 : floatOfInt .f64 (r : Int) = fl r := rfl
 generalize fl k = fk at HM HA hf
 generalize fl r = fr at HM hf2
 generalize fl t = ft at HA HP
 generalize fl a = fa at HA HP
 generalize fl (k * r) = fkr at HM HA
 generalize fl (t + k * r) = fz at HA HB
 generalize fl (a + k) = fy at HA HB
 generalize ((t + k * r : Nat) : Int) = z at HB hm ⊢
 generalize ((a + k : Nat) : Int) = y at HB ⊢
 generalize (k : Int) = ki at hs h0' hf
 clear hr ht ha hn hk hkr h0
 go_enter Try.func72, Try.ntmps72
 have hB : Below w.heap.size w w := Below.refl _ _
 have hM : Mem w [] := Mem.nil w
 go_upto_region 1 with (fail)
 generalize hg : World.alloc _ _ = w1
 obtain ⟨hB1, hM1, hb⟩ := Mem.new3 hg hB hM
 clear hB hM hg hb
 generalize h3 : w.heap.size = p3 at hM1 ⊢
 have q1 := hM1.cell 2 1 rfl rfl
 have q2 := hM1.cell 2 2 rfl rfl
 have u0 := hM1.cell 1 0 rfl rfl
 have u1 := hM1.cell 1 1 rfl rfl
 go_wp2_with fail
 refine (HP.out w1).mono ?_
 rintro e w2 ⟨rfl, hb⟩
 replace hB1 := below_step hB1 hb
 replace hM1 := hM1.below hb
 clear hb u0 u1 q1 q2 HP
 go_wp2_with (first | (rw [run_complex_mul _ 104 _ _ _ _ _ _ HM.out]; go_simp) | (rw [run_complex_sum _ .add (.inl rfl) 104 .f64 _ _ _ _ _ _ HA.out]; go_simp) | fail)
 refine (HB.out w2).mono ?_
 rintro e w3 ⟨rfl, hb⟩
 replace hB1 := below_step hB1 hb
 replace hM1 := hM1.below hb
 clear hb HB HM HA
 have T3 := hM1.get 2 rfl
 have T4 := hM1.get 1 rfl
 have T6 := hM1.get 0 rfl
 have q1 := hM1.cell 2 1 rfl rfl
 have u0 := (blk_cell T4 0).trans rfl
 have u1 := (blk_cell T4 1).trans rfl
 have z0 := blk_frozen T4 0
 have z1 := blk_frozen T4 1
 clear hM1
 go_upto_region 4 with (fail)
 have T4' := blk_set (blk_set T4 0 (.int .i64 z)) 1 (.int .i64 y)
 have T3' := blk_far (blk_far T3 (p := ⟨p3 + 1, 0, none⟩) (by show p3 ≠ p3 + 1; omega) (.int .i64 z)) (p := ⟨p3 + 1, 1, none⟩) (by show p3 ≠ p3 + 1; omega) (.int .i64 y)
 have T6' := blk_far (blk_far T6 (p := ⟨p3 + 1, 0, none⟩) (by show p3 + 2 ≠ p3 + 1; omega) (.int .i64 z)) (p := ⟨p3 + 1, 1, none⟩) (by show p3 + 2 ≠ p3 + 1; omega) (.int .i64 y)
 replace hB1 := below_set (j := 1) (v := .int .i64 y) (below_set (j := 0) (v := .int .i64 z) hB1 (g := p3 + 1) (by omega)) (g := p3 + 1) (by omega)
 generalize (w3.setCell ⟨p3 + 1, 0, none⟩ (.int .i64 z)).setCell ⟨p3 + 1, 1, none⟩ (.int .i64 y) = w4 at T4' T3' T6' hB1 ⊢
 clear T3 T4 T6 q1 u0 u1 z0 z1
 have q1 := (blk_cell T3' 1).trans rfl
 have u0 := (blk_cell T4' 0).trans rfl
 have z0 := blk_frozen T4' 0
 by_cases hzc : c1 < z
 ·have hmz : m = c1 := by rw [hm]; unfold mn; rw [if_pos hzc]
  subst hmz
  clear hm
  go_upto_region 5 with (fail)
  have T4 := blk_set T4' 0 (.int .i64 m)
  have T6 := blk_far T6' (p := ⟨p3 + 1, 0, none⟩) (by show p3 + 2 ≠ p3 + 1; omega) (.int .i64 m)
  replace hB1 := below_set (j := 0) (v := .int .i64 m) hB1 (g := p3 + 1) (by omega)
  generalize w4.setCell ⟨p3 + 1, 0, none⟩ (.int .i64 m) = w5 at T4 T6 hB1 ⊢
  clear T3' T4' T6' q1 u0 z0
  have u0 := (blk_cell T4 0).trans rfl
  have u1 := (blk_cell T4 1).trans rfl
  have k0 := (blk_cell T6 0).trans rfl
  have k1 := (blk_cell T6 1).trans rfl
  have z0 := blk_frozen T6 0
  have z1 := blk_frozen T6 1
  go_wp2
  refine bodyPost_ret (results_cell_row rfl _ _ (p3 + 2) 28 #[.int .i64 m, .int .i64 y] (0, 0) _ rfl (blk_set (blk_set T6 0 _) 1 _) Try.underlying28 rfl (by kernel_rfl)) rfl ?_
  exact ⟨rfl, below_set (below_set hB1 (by omega)) (by omega)⟩
 ·have hmz : m = z := by rw [hm]; unfold mn; rw [if_neg hzc]
  subst hmz
  clear hm
  have hzc' : m ≤ c1 := by omega
  clear hzc
  go_upto_region 5 with (fail)
  have T4 := blk_set T4' 0 (.int .i64 m)
  have T6 := blk_far T6' (p := ⟨p3 + 1, 0, none⟩) (by show p3 + 2 ≠ p3 + 1; omega) (.int .i64 m)
  replace hB1 := below_set (j := 0) (v := .int .i64 m) hB1 (g := p3 + 1) (by omega)
  generalize w4.setCell ⟨p3 + 1, 0, none⟩ (.int .i64 m) = w5 at T4 T6 hB1 ⊢
  clear T3' T4' T6' q1 u0 z0
  have u0 := (blk_cell T4 0).trans rfl
  have u1 := (blk_cell T4 1).trans rfl
  have k0 := (blk_cell T6 0).trans rfl
  have k1 := (blk_cell T6 1).trans rfl
  have z0 := blk_frozen T6 0
  have z1 := blk_frozen T6 1
  go_wp2
  refine bodyPost_ret (results_cell_row rfl _ _ (p3 + 2) 28 #[.int .i64 m, .int .i64 y] (0, 0) _ rfl (blk_set (blk_set T6 0 _) 1 _) Try.underlying28 rfl (by kernel_rfl)) rfl ?_
  exact ⟨rfl, below_set (below_set hB1 (by omega)) (by omega)⟩
set_option maxHeartbeats 4000000 in
theorem later_early (c0 c1 c3 : Int) (r t a now k : Nat) (hr : r ≤ 16) (ht : t ≤ 64) (ha : a ≤ 1099511627776) (hn : now ≤ 1099511627776) (h0 : now ≤ a) (hk : k = 0) (m : Int) (hm : m = mn ((t + k * r : Nat) : Int) c1) (w : World) :
  Calls Try.prog 72 #[.agg #[.int .i64 c0, .int .i64 c1, .int .i64 r, .int .i64 c3], .agg #[.int .i64 t, .int .i64 a], .int .i64 now] w fun e w' => e = .returned (.agg #[.int .i64 m, .int .i64 (a + k : Nat)]) ∧ Below w.heap.size w w' := by
 have hkr : k * r ≤ 1099511627776 * 16 := Nat.mul_le_mul (by omega) hr
 have HM := Aside0.mk (mul_pl k r (by omega) (by omega) (by omega))
 have HA := Aside0.mk (add_pl t a (k * r) k (by omega) (by omega))
 have HP := Aside0.mk (fun w => point_calls (t : Int) (a : Int) (fl t) (fl a) rfl rfl w)
 have HB := Aside0.mk (fun w => bucket_calls (t + k * r) (a + k) (by omega) (by omega) w)
 have hs : wrap64 ((now : Int) - (a : Int)) = (now : Int) - (a : Int) := by unfold wrap64; omega
 have h0' : (now : Int) - (a : Int) ≤ 0 := by omega
 have hf : floatOfInt .f64 0 = fl k := by rw [hk]; rfl
 have hf2 : floatOfInt .f64 (r : Int) = fl r := rfl
 generalize fl k = fk at HM HA hf
 generalize fl r = fr at HM hf2
 generalize fl t = ft at HA HP
 generalize fl a = fa at HA HP
 generalize fl (k * r) = fkr at HM HA
 generalize fl (t + k * r) = fz at HA HB
 generalize fl (a + k) = fy at HA HB
 generalize ((t + k * r : Nat) : Int) = z at HB hm ⊢
 generalize ((a + k : Nat) : Int) = y at HB ⊢
 clear hr ht ha hn hk hkr h0
 go_enter Try.func72, Try.ntmps72
 have hB : Below w.heap.size w w := Below.refl _ _
 have hM : Mem w [] := Mem.nil w
 go_upto_region 1 with (fail)
 generalize hg : World.alloc _ _ = w1
 obtain ⟨hB1, hM1, hb⟩ := Mem.new3 hg hB hM
 clear hB hM hg hb
 generalize h3 : w.heap.size = p3 at hM1 ⊢
 have q1 := hM1.cell 2 1 rfl rfl
 have q2 := hM1.cell 2 2 rfl rfl
 have u0 := hM1.cell 1 0 rfl rfl
 have u1 := hM1.cell 1 1 rfl rfl
 go_wp2_with fail
 refine (HP.out w1).mono ?_
 rintro e w2 ⟨rfl, hb⟩
 replace hB1 := below_step hB1 hb
 replace hM1 := hM1.below hb
 clear hb u0 u1 q1 q2 HP
 go_wp2_with (first | (rw [run_complex_mul _ 104 _ _ _ _ _ _ HM.out]; go_simp) | (rw [run_complex_sum _ .add (.inl rfl) 104 .f64 _ _ _ _ _ _ HA.out]; go_simp) | fail)
 refine (HB.out w2).mono ?_
 rintro e w3 ⟨rfl, hb⟩
 replace hB1 := below_step hB1 hb
 replace hM1 := hM1.below hb
 clear hb HB HM HA
 have T3 := hM1.get 2 rfl
 have T4 := hM1.get 1 rfl
 have T6 := hM1.get 0 rfl
 have q1 := hM1.cell 2 1 rfl rfl
 have u0 := (blk_cell T4 0).trans rfl
 have u1 := (blk_cell T4 1).trans rfl
 have z0 := blk_frozen T4 0
 have z1 := blk_frozen T4 1
 clear hM1
 go_upto_region 4 with (fail)
 have T4' := blk_set (blk_set T4 0 (.int .i64 z)) 1 (.int .i64 y)
 have T3' := blk_far (blk_far T3 (p := ⟨p3 + 1, 0, none⟩) (by show p3 ≠ p3 + 1; omega) (.int .i64 z)) (p := ⟨p3 + 1, 1, none⟩) (by show p3 ≠ p3 + 1; omega) (.int .i64 y)
 have T6' := blk_far (blk_far T6 (p := ⟨p3 + 1, 0, none⟩) (by show p3 + 2 ≠ p3 + 1; omega) (.int .i64 z)) (p := ⟨p3 + 1, 1, none⟩) (by show p3 + 2 ≠ p3 + 1; omega) (.int .i64 y)
 replace hB1 := below_set (j := 1) (v := .int .i64 y) (below_set (j := 0) (v := .int .i64 z) hB1 (g := p3 + 1) (by omega)) (g := p3 + 1) (by omega)
 generalize (w3.setCell ⟨p3 + 1, 0, none⟩ (.int .i64 z)).setCell ⟨p3 + 1, 1, none⟩ (.int .i64 y) = w4 at T4' T3' T6' hB1 ⊢
 clear T3 T4 T6 q1 u0 u1 z0 z1
 have q1 := (blk_cell T3' 1).trans rfl
 have u0 := (blk_cell T4' 0).trans rfl
 have z0 := blk_frozen T4' 0
 by_cases hzc : c1 < z
 ·have hmz : m = c1 := by rw [hm]; unfold mn; rw [if_pos hzc]
  subst hmz
  clear hm
  go_upto_region 5 with (fail)
  have T4 := blk_set T4' 0 (.int .i64 m)
  have T6 := blk_far T6' (p := ⟨p3 + 1, 0, none⟩) (by show p3 + 2 ≠ p3 + 1; omega) (.int .i64 m)
  replace hB1 := below_set (j := 0) (v := .int .i64 m) hB1 (g := p3 + 1) (by omega)
  generalize w4.setCell ⟨p3 + 1, 0, none⟩ (.int .i64 m) = w5 at T4 T6 hB1 ⊢
  clear T3' T4' T6' q1 u0 z0
  have u0 := (blk_cell T4 0).trans rfl
  have u1 := (blk_cell T4 1).trans rfl
  have k0 := (blk_cell T6 0).trans rfl
  have k1 := (blk_cell T6 1).trans rfl
  have z0 := blk_frozen T6 0
  have z1 := blk_frozen T6 1
  go_wp2
  refine bodyPost_ret (results_cell_row rfl _ _ (p3 + 2) 28 #[.int .i64 m, .int .i64 y] (0, 0) _ rfl (blk_set (blk_set T6 0 _) 1 _) Try.underlying28 rfl (by kernel_rfl)) rfl ?_
  exact ⟨rfl, below_set (below_set hB1 (by omega)) (by omega)⟩
 ·have hmz : m = z := by rw [hm]; unfold mn; rw [if_neg hzc]
  subst hmz
  clear hm
  have hzc' : m ≤ c1 := by omega
  clear hzc
  go_upto_region 5 with (fail)
  have T4 := blk_set T4' 0 (.int .i64 m)
  have T6 := blk_far T6' (p := ⟨p3 + 1, 0, none⟩) (by show p3 + 2 ≠ p3 + 1; omega) (.int .i64 m)
  replace hB1 := below_set (j := 0) (v := .int .i64 m) hB1 (g := p3 + 1) (by omega)
  generalize w4.setCell ⟨p3 + 1, 0, none⟩ (.int .i64 m) = w5 at T4 T6 hB1 ⊢
  clear T3' T4' T6' q1 u0 z0
  have u0 := (blk_cell T4 0).trans rfl
  have u1 := (blk_cell T4 1).trans rfl
  have k0 := (blk_cell T6 0).trans rfl
  have k1 := (blk_cell T6 1).trans rfl
  have z0 := blk_frozen T6 0
  have z1 := blk_frozen T6 1
  go_wp2
  refine bodyPost_ret (results_cell_row rfl _ _ (p3 + 2) 28 #[.int .i64 m, .int .i64 y] (0, 0) _ rfl (blk_set (blk_set T6 0 _) 1 _) Try.underlying28 rfl (by kernel_rfl)) rfl ?_
  exact ⟨rfl, below_set (below_set hB1 (by omega)) (by omega)⟩
/-- Whether a bucket may be one of a config, and a tick may be. -/
def Fits (c0 c1 c2 c3 t a now : Int) : Prop := 1 ≤ c0 ∧ c0 ≤ 16 ∧ 1 ≤ c1 ∧ c1 ≤ 64 ∧ 1 ≤ c2 ∧ c2 ≤ 16 ∧ 1 ≤ c3 ∧ c3 ≤ 1000 ∧ 0 ≤ t ∧ t ≤ c1 ∧ 0 ≤ a ∧ a ≤ 1099511627776 ∧ 0 ≤ now ∧ now ≤ 1099511627776
instance (c0 c1 c2 c3 t a now : Int) : Decidable (Fits c0 c1 c2 c3 t a now) := by unfold Fits; infer_instance
theorem within_f (n l h : Int) : pace_within.f n l h = some (decide (l ≤ n ∧ n ≤ h)) := by
 unfold pace_within.f
 by_cases c : n ≥ l
 ·rw [if_pos c]
  congr 1
  by_cases d : n ≤ h
  ·rw [decide_eq_true d, decide_eq_true ⟨c, d⟩]
  ·rw [decide_eq_false d, decide_eq_false (fun q => d q.2)]
 ·rw [if_neg c, decide_eq_false (fun q => c q.1)]
theorem fits_f (c0 c1 c2 c3 t a now : Int) : pace_fits.f c0 c1 c2 c3 t a now = some (decide (Fits c0 c1 c2 c3 t a now)) := by
 unfold pace_fits.f pace_May.f
 simp only [within_f, Option.bind_some]
 by_cases h : Fits c0 c1 c2 c3 t a now
 ·rw [decide_eq_true h]
  unfold Fits at h
  obtain ⟨h1, h2, h3, h4, h5, h6, h7, h8, h9, h10, h11, h12, h13, h14⟩ := h
  simp only [h1, h2, h3, h4, h5, h6, h7, h8, h9, h10, h11, h12, h13, h14, and_self, decide_true, if_true, Option.bind_some]
 ·rw [decide_eq_false h]
  unfold Fits at h
  by_cases k1 : 1 ≤ c0 ∧ c0 ≤ 16
  rotate_left
  ·simp [k1]
  by_cases k2 : 1 ≤ c1 ∧ c1 ≤ 64
  rotate_left
  ·simp [k1, k2]
  by_cases k3 : 1 ≤ c2 ∧ c2 ≤ 16
  rotate_left
  ·simp [k1, k2, k3]
  by_cases k4 : 1 ≤ c3 ∧ c3 ≤ 1000
  rotate_left
  ·simp [k1, k2, k3, k4]
  by_cases k5 : 0 ≤ t ∧ t ≤ c1
  rotate_left
  ·simp [k1, k2, k3, k4, k5]
  by_cases k6 : 0 ≤ a ∧ a ≤ 1099511627776
  rotate_left
  ·simp [k1, k2, k3, k4, k5, k6]
  have k7 : ¬ (0 ≤ now ∧ now ≤ 1099511627776) := by omega
  simp [k1, k2, k3, k4, k5, k6, k7]
/-- The ticks that a bucket is behind. -/
def tk (a now : Int) : Int := if a < now then now - a else 0
/-- A bucket's tokens at a tick. -/
def lvl (c1 c2 t a now : Int) : Int := mn (t + tk a now * c2) c1
/-- What is taken. -/
def TK (c0 c1 c2 c3 t a now : Int) : Int × Int × Bool :=
 if Fits c0 c1 c2 c3 t a now then if lvl c1 c2 t a now = 0 then (0, a + tk a now, false) else (lvl c1 c2 t a now - 1, a + tk a now, true) else (t, a, false)
theorem later_any (c0 c1 c2 c3 t a now : Int) (h : Fits c0 c1 c2 c3 t a now) (w : World) :
  Calls Try.prog 72 #[.agg #[.int .i64 c0, .int .i64 c1, .int .i64 c2, .int .i64 c3], .agg #[.int .i64 t, .int .i64 a], .int .i64 now] w fun e w' => e = .returned (.agg #[.int .i64 (lvl c1 c2 t a now), .int .i64 (a + tk a now)]) ∧ Below w.heap.size w w' := by
 unfold Fits at h
 obtain ⟨c, rfl⟩ : ∃ n : Nat, c2 = n := ⟨c2.toNat, by omega⟩
 obtain ⟨t, rfl⟩ : ∃ n : Nat, t = n := ⟨t.toNat, by omega⟩
 obtain ⟨a, rfl⟩ : ∃ n : Nat, a = n := ⟨a.toNat, by omega⟩
 obtain ⟨n, rfl⟩ : ∃ m : Nat, now = m := ⟨now.toNat, by omega⟩
 unfold lvl tk
 by_cases q : a < n
 ·rw [if_pos (by omega)]
  have e1 : ((n : Int) - (a : Int)) = ((n - a : Nat) : Int) := by omega
  have e2 : ((t : Int) + ((n : Int) - (a : Int)) * (c : Int)) = ((t + (n - a) * c : Nat) : Int) := by rw [e1]; simp
  have e3 : ((a : Int) + ((n : Int) - (a : Int))) = ((a + (n - a) : Nat) : Int) := by omega
  rw [e2, e3]
  exact later_late c0 c1 c3 c t a n (n - a) (by omega) (by omega) (by omega) (by omega) q rfl _ rfl w
 ·rw [if_neg (by omega)]
  have e2 : ((t : Int) + 0 * (c : Int)) = ((t + 0 * c : Nat) : Int) := by simp
  have e3 : ((a : Int) + 0) = ((a + 0 : Nat) : Int) := by omega
  rw [e2, e3]
  exact later_early c0 c1 c3 c t a n 0 (by omega) (by omega) (by omega) (by omega) (by omega) rfl _ rfl w
theorem lvl_le {c0 c1 c2 c3 t a now : Int} (h : Fits c0 c1 c2 c3 t a now) : 0 ≤ lvl c1 c2 t a now ∧ lvl c1 c2 t a now ≤ c1 ∧ 0 ≤ a + tk a now ∧ a + tk a now ≤ 1099511627776 := by
 unfold Fits at h
 have ht : 0 ≤ tk a now := by unfold tk; split <;> omega
 have hm : 0 ≤ tk a now * c2 := Int.mul_nonneg ht (by omega)
 refine ⟨?_, ?_, by omega, by unfold tk; split <;> omega⟩
 ·unfold lvl mn
  split <;> omega
 ·unfold lvl mn
  split <;> omega
set_option maxHeartbeats 4000000 in
theorem take_calls (c0 c1 c2 c3 t a now : Int) (w : World) :
  Calls Try.prog 51 #[.agg #[.int .i64 c0, .int .i64 c1, .int .i64 c2, .int .i64 c3], .agg #[.int .i64 t, .int .i64 a], .int .i64 now] w fun e w' => e = .returned (.tuple #[.agg #[.int .i64 (TK c0 c1 c2 c3 t a now).1, .int .i64 (TK c0 c1 c2 c3 t a now).2.1], .bool (TK c0 c1 c2 c3 t a now).2.2]) ∧ Below w.heap.size w w' := by
 have HF := Aside0.mk (fun w => pace_fits.calls c0 c1 c2 c3 t a now _ w (fits_f c0 c1 c2 c3 t a now))
 obtain ⟨K, hK⟩ : ∃ K, K = TK c0 c1 c2 c3 t a now := ⟨_, rfl⟩
 rw [← hK]
 have HK := Aside0.mk hK
 clear hK
 obtain ⟨K1, K2, K3⟩ := K
 dsimp only at ⊢
 go_enter Try.func51, Try.ntmps51
 have hB : Below w.heap.size w w := Below.refl _ _
 have hM : Mem w [] := Mem.nil w
 go_upto_region 1 with (fail)
 generalize hg : World.alloc _ _ = w1
 obtain ⟨hB1, hM1, hb⟩ := Mem.new3 hg hB hM
 clear hB hM hg hb
 generalize h3 : w.heap.size = p3 at hM1 ⊢
 have q0 := hM1.cell 2 0 rfl rfl
 have q1 := hM1.cell 2 1 rfl rfl
 have q2 := hM1.cell 2 2 rfl rfl
 have q3 := hM1.cell 2 3 rfl rfl
 have u0 := hM1.cell 1 0 rfl rfl
 have u1 := hM1.cell 1 1 rfl rfl
 go_wp2_with fail
 refine (HF.out w1).mono ?_
 rintro e w2 ⟨rfl, hb⟩
 replace hB1 := below_step hB1 hb
 replace hM1 := hM1.below hb
 clear hb HF q0 q1 q2 q3 u0 u1
 have T3 := hM1.get 2 rfl
 have T4 := hM1.get 1 rfl
 have T6 := hM1.get 0 rfl
 clear hM1
 by_cases hf : Fits c0 c1 c2 c3 t a now
 ·rw [decide_eq_true hf]
  have HL := Aside0.mk (fun w => later_any c0 c1 c2 c3 t a now hf w)
  obtain ⟨l0, l1, l2, l3⟩ := lvl_le hf
  have hk := HK.out
  unfold TK at hk
  rw [if_pos hf] at hk
  have l5 : lvl c1 c2 t a now ≤ 64 := by unfold Fits at hf; omega
  generalize lvl c1 c2 t a now = z at HL l0 l1 hk l5
  generalize a + tk a now = y at HL l2 l3 hk
  have q0 := (blk_cell T3 0).trans rfl
  have q1 := (blk_cell T3 1).trans rfl
  have q2 := (blk_cell T3 2).trans rfl
  have q3 := (blk_cell T3 3).trans rfl
  have u0 := (blk_cell T4 0).trans rfl
  have u1 := (blk_cell T4 1).trans rfl
  have HK2 := Aside0.mk hk
  clear hk HK l1 hf
  go_wp2_with fail
  refine (HL.out w2).mono ?_
  rintro e w3 ⟨rfl, hb⟩
  replace hB1 := below_step hB1 hb
  replace T4 := blk_below T4 hb
  replace T6 := blk_below T6 hb
  clear hb HL q0 q1 q2 q3 u0 u1 T3
  have u0 := (blk_cell T4 0).trans rfl
  have u1 := (blk_cell T4 1).trans rfl
  have z0 := blk_frozen T4 0
  have z1 := blk_frozen T4 1
  go_upto_region 4 with (fail)
  have T4' := blk_set (blk_set T4 0 (.int .i64 z)) 1 (.int .i64 y)
  have T6' := blk_far (blk_far T6 (p := ⟨p3 + 1, 0, none⟩) (by show p3 + 2 ≠ p3 + 1; omega) (.int .i64 z)) (p := ⟨p3 + 1, 1, none⟩) (by show p3 + 2 ≠ p3 + 1; omega) (.int .i64 y)
  replace hB1 := below_set (j := 1) (v := .int .i64 y) (below_set (j := 0) (v := .int .i64 z) hB1 (g := p3 + 1) (by omega)) (g := p3 + 1) (by omega)
  generalize (w3.setCell ⟨p3 + 1, 0, none⟩ (.int .i64 z)).setCell ⟨p3 + 1, 1, none⟩ (.int .i64 y) = w4 at T4' T6' hB1 ⊢
  clear T4 T6 u0 u1 z0 z1
  have u0 := (blk_cell T4' 0).trans rfl
  have u1 := (blk_cell T4' 1).trans rfl
  by_cases hz : z = 0
  ·have hk := HK2.out
   rw [if_pos hz] at hk
   obtain ⟨rfl, rfl, rfl⟩ : K1 = 0 ∧ K2 = y ∧ K3 = false := by injection hk with h1 h2; injection h2 with h2 h3; exact ⟨h1, h2, h3⟩
   subst hz
   have k0 := (blk_cell T6' 0).trans rfl
   have k1 := (blk_cell T6' 1).trans rfl
   have z0 := blk_frozen T6' 0
   have z1 := blk_frozen T6' 1
   go_wp2
   refine bodyPost_ret (results_ct rfl _ _ (p3 + 1 + 1) 28 #[.int .i64 0, .int .i64 K2] (0, 0) _ rfl (blk_set (blk_set T6' 0 _) 1 _) Try.underlying28 rfl (by kernel_rfl)) rfl ?_
   subst h3
   exact ⟨rfl, below_set (below_set hB1 (by omega)) (by omega)⟩
  ·have hk := HK2.out
   rw [if_neg hz] at hk
   obtain ⟨rfl, rfl, rfl⟩ : K1 = z - 1 ∧ K2 = y ∧ K3 = true := by injection hk with h1 h2; injection h2 with h2 h3; exact ⟨h1, h2, h3⟩
   obtain ⟨zn, rfl⟩ : ∃ n : Nat, z = n := ⟨z.toNat, by omega⟩
   obtain ⟨yn, rfl⟩ : ∃ n : Nat, K2 = n := ⟨K2.toNat, by omega⟩
   have HP := Aside0.mk (fun w => point_calls (zn : Int) (yn : Int) (fl zn) (fl yn) rfl rfl w)
   have HS := Aside0.mk (sub_pl zn yn (by omega) (by omega) (by omega))
   have HBu := Aside0.mk (fun w => bucket_calls (zn - 1) yn (by omega) (by omega) w)
   rw [show ((zn - 1 : Nat) : Int) = (zn : Int) - 1 by omega] at HBu
   generalize fl zn = f1 at HP HS
   generalize fl (zn - 1) = f3 at HBu HS
   generalize fl yn = f2 at HP HS HBu
   clear HK2 hk l0 l2 l3 l5
   generalize hzi : (zn : Int) - 1 = zi at HBu ⊢
   have hz' : ¬ (zn : Int) = 0 := hz
   go_wp2_with fail
   refine (HP.out w4).mono ?_
   rintro e w5 ⟨rfl, hb⟩
   replace hB1 := below_step hB1 hb
   replace T6' := blk_below T6' hb
   clear hb HP u0 u1 T4'
   go_wp2_with (first | (rw [run_complex_sum _ .sub (.inr rfl) 104 .f64 _ _ _ _ _ _ HS.out]; go_simp) | fail)
   refine (HBu.out w5).mono ?_
   rintro e w6 ⟨rfl, hb⟩
   replace hB1 := below_step hB1 hb
   replace T6' := blk_below T6' hb
   clear hb HBu HS
   have k0 := (blk_cell T6' 0).trans rfl
   have k1 := (blk_cell T6' 1).trans rfl
   have z0 := blk_frozen T6' 0
   have z1 := blk_frozen T6' 1
   go_wp2
   refine bodyPost_ret (results_ct rfl _ _ (p3 + 1 + 1) 28 #[.int .i64 zi, .int .i64 yn] (0, 0) _ rfl (blk_set (blk_set T6' 0 _) 1 _) Try.underlying28 rfl (by kernel_rfl)) rfl ?_
   subst hzi
   subst h3
   exact ⟨rfl, below_set (below_set hB1 (by omega)) (by omega)⟩
 ·rw [decide_eq_false hf]
  have hk := HK.out
  unfold TK at hk
  rw [if_neg hf] at hk
  obtain ⟨rfl, rfl, rfl⟩ : K1 = t ∧ K2 = a ∧ K3 = false := by injection hk with h1 h2; injection h2 with h2 h3; exact ⟨h1, h2, h3⟩
  clear hk HK hf
  have u0 := (blk_cell T4 0).trans rfl
  have u1 := (blk_cell T4 1).trans rfl
  have k0 := (blk_cell T6 0).trans rfl
  have k1 := (blk_cell T6 1).trans rfl
  have z0 := blk_frozen T6 0
  have z1 := blk_frozen T6 1
  go_wp2
  refine bodyPost_ret (results_ct rfl _ _ (p3 + 1 + 1) 28 #[.int .i64 K1, .int .i64 K2] (0, 0) _ rfl (blk_set (blk_set T6 0 _) 1 _) Try.underlying28 rfl (by kernel_rfl)) rfl ?_
  subst h3
  exact ⟨rfl, below_set (below_set hB1 (by omega)) (by omega)⟩
end Go.Proofs.Ytmigglldahkngaa.XPace
end
