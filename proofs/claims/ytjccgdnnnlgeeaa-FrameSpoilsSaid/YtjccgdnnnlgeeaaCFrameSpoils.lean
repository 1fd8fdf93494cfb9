/- law of FrameSpoils: the row, by its walk. -/
import Derived.Test.YtjccgdnnnlgeeaaBBackoils3
section
/- law06's FrameSpoils, walked: what is spoilt is not decoded. -/
namespace Go.Proofs.Ytjccgdnnnlgeeaa.XHand
open Go.RowKit Go.Proofs.YtjccgdnnnlgeeaaW.PrintWords Go.Proofs.YtjccgdnnnlgeeaaW.PrintLast Go.Proofs.YtjccgdnnnlgeeaaW.PrintMore Go.Proofs.Ytjccgdnnnlgeeaa.PA Go.Proofs.Ytjccgdnnnlgeeaa.XMem Go.Proofs.Ytjccgdnnnlgeeaa.XSt Go.Proofs.Ytjccgdnnnlgeeaa.XKn Go.Proofs.Ytjccgdnnnlgeeaa.XQuiet Go.Proofs.Ytjccgdnnnlgeeaa.XFr
open Go.Proofs.Ytjccgdnnnlgeeaa.XSum (Se kSe)
open Go.Proofs.Ytjccgdnnnlgeeaa.XV17 (mayT mayT_iff)
open Go.Proofs.Ytjccgdnnnlgeeaa.XV01 (P)
open Go.Proofs.Ytjccgdnnnlgeeaa.XCrc (sealB openB)
set_option linter.unusedVariables false
set_option linter.unusedSimpArgs false
set_option maxRecDepth 100000
theorem few06 (k : Nat) (f : Fr) (hk : 60 ≤ k) : ∃ b, rollcallref06_Few.f k f.f0 f.f1 f.f2 f.f3 f.f4.f0 f.f4.f1 f.f4.f2 f.f4.f3 f.f5 f.f6 = some b ∧ (b = true → f.f6.length ≤ 40) := by
 unfold rollcallref06_Few.f
 obtain ⟨q, hq, hl⟩ := XV17.fewS_f k f.f6 hk
 rw [hq]
 simp only [Option.bind_some]
 cases q with
 | false => exact ⟨false, rfl, fun h => by cases h⟩
 | true =>
  rw [if_pos rfl]
  split
  ·exact ⟨_, rfl, fun _ => hl rfl⟩
  ·exact ⟨_, rfl, fun _ => hl rfl⟩
/-- What is known of a frame that comes in. -/
def OkF (f : Fr) : Prop := (0 ≤ f.f5 ∧ f.f5 < 18446744073709551616) ∧ f.f3.size ≤ 9223372036854775807 ∧ ∀ x ∈ f.f6, x.f0.size ≤ 9223372036854775807
theorem plain_size {f : Fr} (h : mayF f = true) : (plainF f).size ≤ 1864 := by
 obtain ⟨_, _, _, h0, h1⟩ := may_body h
 exact plain_le h0 h1
theorem dec_e : decF ⟨#[]⟩ = (zF, 2) := by kernel_rfl
theorem samezz : sameArgs frame_Same.f 10 zF zF = some true := by kernel_rfl
theorem Szz (w : World) {A : Option Addr} {c : Nat} (g : (V kSe (.slice A 0 c) []).P w (fun _ => True)) : Calls Try.prog 15 #[.agg #[.int .i64 0, .int .i64 0, .bool false, .string ⟨#[]⟩, .int .i64 0, .int .i64 0, .int .i64 0, .string ⟨#[]⟩, .int .u64 0, .slice A 0 c], .agg #[.int .i64 0, .int .i64 0, .bool false, .string ⟨#[]⟩, .int .i64 0, .int .i64 0, .int .i64 0, .string ⟨#[]⟩, .int .u64 0, .slice none 0 0]] w fun e w' => e = .returned (.bool true) ∧ Below w.heap.size w w' := by
 have h := frame_Same.kn (l0_9 := []) (l1_9 := []) 10 samezz g (nilV w)
 exact h
theorem Ds (u : ByteArray) (e : decF u = (zF, 4)) (hu : u.size ≤ 100000) (w : World) : Calls Try.prog 17 #[.string u] w fun e w' => ∃ A c, e = .returned (.tuple #[.agg #[.int .i64 0, .int .i64 0, .bool false, .string ⟨#[]⟩, .int .i64 0, .int .i64 0, .int .i64 0, .string ⟨#[]⟩, .int .u64 0, .slice A 0 c], .int .i64 4]) ∧ (V kSe (.slice A 0 c) []).P w' (fun k => w.heap.size ≤ k) ∧ Below w.heap.size w w' := by
 have h := dec_calls u hu w
 rw [e] at h
 exact h
set_option maxHeartbeats 32000000 in
theorem frameSpoils_go (ok : Nat → Prop) (f : Fr) (A : Option Addr) (c : Nat) (a : Int) (m0 m1 m2 m3 : Nat) (hf : OkF f) (hm : ∀ b ∈ [m0, m1, m2, m3], b < 256) (w0 w : World) (S : Kn ok w0 [] nil tt [V kSe (.slice A f.f6.length c) f.f6] w) :
  Calls Try.prog 6 #[.agg #[.int .i64 f.f0, .int .i64 f.f1, .bool f.f2, .string f.f3, .int .i64 f.f4.f0, .int .i64 f.f4.f1, .int .i64 f.f4.f2, .string f.f4.f3, .int .u64 f.f5, .slice A f.f6.length c], .int .i64 a, .agg #[.int .u8 (m0 : Int), .int .u8 (m1 : Int), .int .u8 (m2 : Int), .int .u8 (m3 : Int)]] w fun e w' => e = .returned (.bool true) ∧ Below w0.heap.size w0 w' := by
 have HF := Aside0.mk hf
 have HM := Aside0.mk hm
 clear hf hm
 obtain ⟨b0, hb0, hl0⟩ := few06 100 f (by omega)
 have F0 := Aside0.mk hb0
 have H0 := Aside0.mk hl0
 clear hb0 hl0
 go_enter Try.func6, Try.ntmps6
 go_upto_region 1 with (fail)
 generalize hg : World.alloc _ _ = w1
 replace S := S.new2 hg
 clear hg
 generalize w.heap.size + 1 = p5 at S ⊢
 generalize w.heap.size = p3 at S ⊢
 replace S : Kn ok w0 [(p5, .cells #[.int .u8 (m0 : Int), .int .u8 (m1 : Int), .int .u8 (m2 : Int), .int .u8 (m3 : Int)] 39 (0, 0)), (p3, .cells #[.int .i64 f.f0, .int .i64 f.f1, .bool f.f2, .string f.f3, .int .i64 f.f4.f0, .int .i64 f.f4.f1, .int .i64 f.f4.f2, .string f.f4.f3, .int .u64 f.f5, .slice A f.f6.length c] TFr (0, 0))] nil tt [V kSe (.slice A f.f6.length c) f.f6] w1 := S
 have f_0 : w1.cell? ⟨p3, 0, none⟩ = some (.int .i64 f.f0) := S.cell 1 0 rfl rfl
 have f_1 : w1.cell? ⟨p3, 1, none⟩ = some (.int .i64 f.f1) := S.cell 1 1 rfl rfl
 have f_2 : w1.cell? ⟨p3, 2, none⟩ = some (.bool f.f2) := S.cell 1 2 rfl rfl
 have f_3 : w1.cell? ⟨p3, 3, none⟩ = some (.string f.f3) := S.cell 1 3 rfl rfl
 have f_4 : w1.cell? ⟨p3, 4, none⟩ = some (.int .i64 f.f4.f0) := S.cell 1 4 rfl rfl
 have f_5 : w1.cell? ⟨p3, 5, none⟩ = some (.int .i64 f.f4.f1) := S.cell 1 5 rfl rfl
 have f_6 : w1.cell? ⟨p3, 6, none⟩ = some (.int .i64 f.f4.f2) := S.cell 1 6 rfl rfl
 have f_7 : w1.cell? ⟨p3, 7, none⟩ = some (.string f.f4.f3) := S.cell 1 7 rfl rfl
 have f_8 : w1.cell? ⟨p3, 8, none⟩ = some (.int .u64 f.f5) := S.cell 1 8 rfl rfl
 have f_9 : w1.cell? ⟨p3, 9, none⟩ = some (.slice A f.f6.length c) := S.cell 1 9 rfl rfl
 go_wp2_with fail
 refine (rollcallref06_Few.kn 100 F0.out (S.ft 0 rfl)).mono ?_
 rintro e w2 ⟨rfl, hb⟩
 replace S := S.below hb
 clear f_0 f_1 f_2 f_3 f_4 f_5 f_6 f_7 f_8 f_9 hb
 cases b0 with
 | false =>
  go_wp2_with fail
  refine (live_walk w2).mono ?_
  rintro e wl ⟨rfl, bl⟩
  go_wp2
  go_ret
  exact ⟨rfl, below_step S.bel bl⟩
 | true =>
  have LF := Aside0.mk (H0.out rfl)
  clear F0 H0
  have ht0 : ((⟨#[]⟩ : ByteArray).toList == (⟨#[]⟩ : ByteArray).toList) = true := by simp
  have HPE := Aside0.mk (fun (z : World) (v : (V kSe (.slice A f.f6.length c) f.f6).P z (fun _ => True)) => enc_kn (by have := LF.out; omega) HF.out.2.2 HF.out.2.1 HF.out.1 v)
  by_cases hm : mayF f = true
  rotate_left
  ·have e1 : encF f = (⟨#[]⟩, 1) := by unfold encF; rw [if_neg hm]
   rw [e1] at HPE
   clear e1 hm
   have f_0 : w2.cell? ⟨p3, 0, none⟩ = some (.int .i64 f.f0) := S.cell 1 0 rfl rfl
   have f_1 : w2.cell? ⟨p3, 1, none⟩ = some (.int .i64 f.f1) := S.cell 1 1 rfl rfl
   have f_2 : w2.cell? ⟨p3, 2, none⟩ = some (.bool f.f2) := S.cell 1 2 rfl rfl
   have f_3 : w2.cell? ⟨p3, 3, none⟩ = some (.string f.f3) := S.cell 1 3 rfl rfl
   have f_4 : w2.cell? ⟨p3, 4, none⟩ = some (.int .i64 f.f4.f0) := S.cell 1 4 rfl rfl
   have f_5 : w2.cell? ⟨p3, 5, none⟩ = some (.int .i64 f.f4.f1) := S.cell 1 5 rfl rfl
   have f_6 : w2.cell? ⟨p3, 6, none⟩ = some (.int .i64 f.f4.f2) := S.cell 1 6 rfl rfl
   have f_7 : w2.cell? ⟨p3, 7, none⟩ = some (.string f.f4.f3) := S.cell 1 7 rfl rfl
   have f_8 : w2.cell? ⟨p3, 8, none⟩ = some (.int .u64 f.f5) := S.cell 1 8 rfl rfl
   have f_9 : w2.cell? ⟨p3, 9, none⟩ = some (.slice A f.f6.length c) := S.cell 1 9 rfl rfl
   go_wp2_with fail
   refine (HPE.out _ (Ft.all (S.ft 0 rfl))).mono ?_
   rintro e w3 ⟨rfl, hb⟩
   replace S := S.below hb
   clear f_0 f_1 f_2 f_3 f_4 f_5 f_6 f_7 f_8 f_9 hb HPE
   go_wp2_with fail
   refine (live_walk w3).mono ?_
   rintro e wl ⟨rfl, bl⟩
   go_wp2
   go_ret
   exact ⟨rfl, below_step S.bel bl⟩
  have e1 : encF f = (sealB (plainF f), 0) := by unfold encF; rw [if_pos hm]
  rw [e1] at HPE
  clear e1
  have hqz : (sealB (plainF f)).size ≤ 2000 := by rw [sealB_size]; have := plain_size hm; omega
  have HDF := Aside0.mk (fun z => by have h := dec_calls (sealB (plainF f)) (by omega) z; rw [dec_enc hm HF.out.1] at h; exact h)
  have HSP := Aside0.mk (fun n k hnk h4 hc => XCrc.spoilt_dec (plainF f) n k [m0, m1, m2, m3] HM.out hnk h4 hc)
  generalize sealB (plainF f) = q at HPE HDF HSP hqz
  clear hm
  have f_0 : w2.cell? ⟨p3, 0, none⟩ = some (.int .i64 f.f0) := S.cell 1 0 rfl rfl
  have f_1 : w2.cell? ⟨p3, 1, none⟩ = some (.int .i64 f.f1) := S.cell 1 1 rfl rfl
  have f_2 : w2.cell? ⟨p3, 2, none⟩ = some (.bool f.f2) := S.cell 1 2 rfl rfl
  have f_3 : w2.cell? ⟨p3, 3, none⟩ = some (.string f.f3) := S.cell 1 3 rfl rfl
  have f_4 : w2.cell? ⟨p3, 4, none⟩ = some (.int .i64 f.f4.f0) := S.cell 1 4 rfl rfl
  have f_5 : w2.cell? ⟨p3, 5, none⟩ = some (.int .i64 f.f4.f1) := S.cell 1 5 rfl rfl
  have f_6 : w2.cell? ⟨p3, 6, none⟩ = some (.int .i64 f.f4.f2) := S.cell 1 6 rfl rfl
  have f_7 : w2.cell? ⟨p3, 7, none⟩ = some (.string f.f4.f3) := S.cell 1 7 rfl rfl
  have f_8 : w2.cell? ⟨p3, 8, none⟩ = some (.int .u64 f.f5) := S.cell 1 8 rfl rfl
  have f_9 : w2.cell? ⟨p3, 9, none⟩ = some (.slice A f.f6.length c) := S.cell 1 9 rfl rfl
  go_wp2_with fail
  refine (HPE.out _ (Ft.all (S.ft 0 rfl))).mono ?_
  rintro e w3 ⟨rfl, hb⟩
  replace S := S.below hb
  clear f_0 f_1 f_2 f_3 f_4 f_5 f_6 f_7 f_8 f_9 hb HPE
  by_cases hn0 : a < 0
  ·have hd : decide (a < 0) = true := decide_eq_true hn0
   go_wp2_with fail
   refine (live_walk w3).mono ?_
   rintro e wl ⟨rfl, bl⟩
   go_wp2
   go_ret
   exact ⟨rfl, below_step S.bel bl⟩
  by_cases hn1 : (q.size : Int) ≤ a
  ·have hd : decide ((q.size : Int) ≤ a) = true := decide_eq_true hn1
   have hd2 : decide (a ≥ (q.size : Int)) = true := decide_eq_true hn1
   have ha1 : ¬ a < 0 := hn0
   have ha2 : decide (a < 0) = false := decide_eq_false ha1
   go_wp2_with fail
   refine (live_walk w3).mono ?_
   rintro e wl ⟨rfl, bl⟩
   go_wp2
   go_ret
   exact ⟨rfl, below_step S.bel bl⟩
  obtain ⟨n, rfl⟩ : ∃ n : Nat, a = (n : Int) := ⟨a.toNat, by omega⟩
  have hn2 : ¬ (n : Int) < 0 := hn0
  have hnd : decide ((n : Int) < 0) = false := decide_eq_false hn2
  have hn3 : ¬ (q.size : Int) ≤ (n : Int) := hn1
  have hne : decide ((q.size : Int) ≤ (n : Int)) = false := decide_eq_false hn3
  have hnf : decide ((n : Int) ≥ (q.size : Int)) = false := decide_eq_false hn3
  have hng : decide (q.size ≤ n) = false := decide_eq_false (by omega)
  have hnq : n < q.size := by omega
  clear hn0 hn1
  have kb := print_bytes (P := Try.prog) 9 40 5 Try.underlying9 Try.underlying40 Try.underlying5 q w3
  have SB := XCrc.Buf.start w3 q
  rw [XCrc.bytes_nats] at SB
  have HB9 := bytes_below (Below.refl _ w3) (Nat.le_refl _) 5 q
  generalize Lib.bytesWorld w3 5 q = W at kb SB HB9
  generalize grownCap w3 q.size 0 5 = cp at kb SB
  generalize hg : w3.heap.size = g at kb SB HB9 ⊢
  have HG := Aside0.mk hg
  have SB' := Aside0.mk SB
  have HB' := Aside0.mk HB9
  clear hg SB HB9
  go_wp2
  go_loopw [10, 11] (fun h x wr => ∃ k : Nat, x = .int .i64 k ∧ k ≤ 4 ∧ n + k ≤ q.size ∧ h = .bool (XCrc.chg [m0, m1, m2, m3] k) ∧ Aside0 (XCrc.Buf g wr (.slice (some ⟨g, 0, none⟩) q.size cp) ((XCrc.spo (XCrc.nats q) n [m0, m1, m2, m3] k).map (fun n : Nat => (n : Int)))) ∧ Aside0 (Below g w3 wr)) (fun _ x _ => 4 - (intOf x).toNat)
  case atStart => exact ⟨0, rfl, by omega, by omega, rfl, SB', HB'⟩
  case round =>
   clear SB' HB' kb
   obtain ⟨k, rfl, hk4, hnk, rfl, hS, hB⟩ := hrel
   by_cases c1 : k < 4 ∧ n + k < q.size
   ·obtain ⟨c1, c2⟩ := c1
    have k1 : (k : Int) < 4 := by omega
    have k2 : (n : Int) + (k : Int) < (q.size : Int) := by omega
    have k3 : (0 : Int) ≤ (n : Int) + (k : Int) := by omega
    have k4 : (n : Int) + (k : Int) ≤ 1000000 := by omega
    have k5 : (0 : Int) ≤ (k : Int) := by omega
    have k6 : ((n : Int) + (k : Int)).toNat = n + k := by omega
    have HBW : Below wr.heap.size wr wr.drew := below_drew1 (Below.refl _ _)
    have hBuf1 := hS.out
    have hBuf2 := hS.out.below HBW
    have hBel := below_step (HG.out ▸ hB.out : Below w3.heap.size w3 wr) HBW
    have hxl : n + k < ((XCrc.spo (XCrc.nats q) n [m0, m1, m2, m3] k).map (fun n : Nat => (n : Int))).length := by rw [List.length_map, XCrc.spo_len, XCrc.nats_len]; exact c2
    have hlen := (show (XCrc.spo (XCrc.nats q) n [m0, m1, m2, m3] k).length = q.size by rw [XCrc.spo_len, XCrc.nats_len])
    obtain ⟨hc0, hz0⟩ := hBuf1.get (n + k) hxl
    obtain ⟨hc1, hz1⟩ := hBuf2.get (n + k) hxl
    have SM := S.below (HG.out ▸ hB.out : Below w3.heap.size w3 wr)
    have SM2 := S.below hBel
    have SMm : wr.cell? ⟨p5, k, none⟩ = some (.int .u8 (([m0, m1, m2, m3].getD k 0 : Nat) : Int)) := by
     have q0 := SM.cell 0 0 rfl rfl
     have q1 := SM.cell 0 1 rfl rfl
     have q2 := SM.cell 0 2 rfl rfl
     have q3 := SM.cell 0 3 rfl rfl
     rcases (show k = 0 ∨ k = 1 ∨ k = 2 ∨ k = 3 by omega) with rfl | rfl | rfl | rfl
     ·exact q0
     ·exact q1
     ·exact q2
     ·exact q3
    have SM2m : wr.drew.cell? ⟨p5, k, none⟩ = some (.int .u8 (([m0, m1, m2, m3].getD k 0 : Nat) : Int)) := by
     have q0 := SM2.cell 0 0 rfl rfl
     have q1 := SM2.cell 0 1 rfl rfl
     have q2 := SM2.cell 0 2 rfl rfl
     have q3 := SM2.cell 0 3 rfl rfl
     rcases (show k = 0 ∨ k = 1 ∨ k = 2 ∨ k = 3 by omega) with rfl | rfl | rfl | rfl
     ·exact q0
     ·exact q1
     ·exact q2
     ·exact q3
    have hset := hBuf2.set (n + k) hxl
    have hsp : ((XCrc.spo (XCrc.nats q) n [m0, m1, m2, m3] k).map (fun n : Nat => (n : Int))).getD (n + k) 0 = (((XCrc.spo (XCrc.nats q) n [m0, m1, m2, m3] k).getD (n + k) 0 : Nat) : Int) := by rw [XCrc.getD_lt _ _ _ hxl, XCrc.getD_lt _ _ _ (by rw [List.length_map] at hxl; exact hxl), List.getElem_map]
    rw [hsp] at hc0 hc1
    have hsx := fun x : Nat => (List.map_set (f := (fun n : Nat => (n : Int))) (l := XCrc.spo (XCrc.nats q) n [m0, m1, m2, m3] k) (i := n + k) (a := x))
    have hblt : (XCrc.spo (XCrc.nats q) n [m0, m1, m2, m3] k).getD (n + k) 0 < 256 := by rw [XCrc.getD_lt _ _ _ (by omega)]; exact XCrc.spo_lt _ _ _ _ (XCrc.nats_lt q) HM.out _ (List.getElem_mem _)
    have hmlt : [m0, m1, m2, m3].getD k 0 < 256 := by rw [XCrc.getD_lt _ _ _ (show k < [m0, m1, m2, m3].length from c1)]; exact HM.out _ (List.getElem_mem _)
    have hxor := XCrc.u8_xor _ _ hblt hmlt
    have HNX : Aside0 (XCrc.spo (XCrc.nats q) n [m0, m1, m2, m3] (k + 1) = (XCrc.spo (XCrc.nats q) n [m0, m1, m2, m3] k).set (n + k) ((XCrc.spo (XCrc.nats q) n [m0, m1, m2, m3] k).getD (n + k) 0 ^^^ [m0, m1, m2, m3].getD k 0)) := ⟨rfl⟩
    have HCX : Aside0 (XCrc.chg [m0, m1, m2, m3] (k + 1) = (XCrc.chg [m0, m1, m2, m3] k || [m0, m1, m2, m3].getD k 0 != 0)) := ⟨rfl⟩
    generalize hl1 : XCrc.spo (XCrc.nats q) n [m0, m1, m2, m3] (k + 1) = l1 at HNX
    have HL1 := Aside0.mk hl1
    clear hl1
    generalize hc1 : XCrc.chg [m0, m1, m2, m3] (k + 1) = ch1 at HCX
    have HC1 := Aside0.mk hc1
    clear hc1
    generalize (XCrc.spo (XCrc.nats q) n [m0, m1, m2, m3] k).getD (n + k) 0 = xb at hc0 hc1 hxor HNX hblt
    generalize XCrc.chg [m0, m1, m2, m3] k = ch at HCX ⊢
    generalize hxm : [m0, m1, m2, m3].getD k 0 = xm at SMm SM2m hxor HNX HCX hmlt
    have HXM := Aside0.mk hxm
    clear hxm
    have HSET := Aside0.mk (hset ((xb ^^^ xm : Nat) : Int))
    rw [← hsx, ← HNX.out] at HSET
    have HBL := Aside0.mk hBel
    clear hset hsx hsp hBuf1 hBuf2 HNX hlen hxl SM SM2 hS hBel HBW hblt hmlt HSP
    go_wp2_with fail
    clear hc0 hz0 SMm
    refine wp_region_still_tail 15 (by kernel_rfl) (by kernel_rfl) ?_
    simp only [List.take_succ_cons, List.take_zero, List.drop_succ_cons, List.drop_zero]
    generalize hdr : ({ heap := wr.heap, tape := wr.tape, drawn := wr.drawn + 1, os := wr.os, output := wr.output } : World) = w20
    replace hdr : wr.drew = w20 := hdr
    rw [hdr] at hc1 hz1 SM2m HSET HBL
    clear hdr
    have hwr : IntKind.i64.wrap ((n : Int) + (k : Int)) = (n : Int) + (k : Int) := by rw [IntKind.wrap_i64]; omega
    repeat still_step
    refine wpStill_nil ?_
    go_upto_region 14 with (fail)
    generalize hg : World.setCell w20 _ _ = w21
    have HB3 : Below w3.heap.size w3 w21 := by rw [← hg]; exact below_set HBL.out (by rw [HG.out]; exact Nat.le_refl _)
    have HS3 : Aside0 (XCrc.Buf g w21 (.slice (some ⟨g, 0, none⟩) q.size cp) (l1.map (fun n : Nat => (n : Int)))) := ⟨by rw [← hg]; exact HSET.out⟩
    clear hg HSET HBL hc1 hz1 SM2m hwr hxor
    have SM3 := S.below HB3
    have HB3' : Aside0 (Below g w3 w21) := ⟨HG.out ▸ HB3⟩
    clear HB3
    have SM3m : w21.cell? ⟨p5, k, none⟩ = some (.int .u8 (xm : Int)) := by
     have q0 := SM3.cell 0 0 rfl rfl
     have q1 := SM3.cell 0 1 rfl rfl
     have q2 := SM3.cell 0 2 rfl rfl
     have q3 := SM3.cell 0 3 rfl rfl
     rw [← HXM.out]
     rcases (show k = 0 ∨ k = 1 ∨ k = 2 ∨ k = 3 by omega) with rfl | rfl | rfl | rfl
     ·exact q0
     ·exact q1
     ·exact q2
     ·exact q3
    clear SM3
    cases ch with
    | true =>
     go_wp2
     go_roundw
     case rel => exact ⟨k + 1, by go_num, by omega, by omega, by rw [HC1.out, HCX.out]; rfl, by rw [HL1.out]; exact HS3, HB3'⟩
     case measure => simp [intOf]; omega
    | false =>
     have hxb : ((xm : Int) != 0) = (xm != 0) := by rw [Bool.eq_iff_iff, bne_iff_ne, bne_iff_ne]; omega
     go_wp2
     go_roundw
     case rel => exact ⟨k + 1, by go_num, by omega, by omega, by rw [HC1.out, HCX.out]; simp [hxb], by rw [HL1.out]; exact HS3, HB3'⟩
     case measure => simp [intOf]; omega
   ·have c3 : k = 4 ∨ (k < 4 ∧ n + k = q.size) := by omega
    clear c1
    replace S := S.below (HG.out ▸ hB.out : Below w3.heap.size w3 wr)
    have hcs := Kd.C_string (P := Try.prog) Try.underlying40 Try.underlying5 Try.underlying9 (c := cp) (hS.out.C (n := q.size) (by rw [List.length_map, XCrc.spo_len, XCrc.nats_len]) (by rw [List.length_map, XCrc.spo_len, XCrc.nats_len]; omega))
    have hzu : (strOfNums ((XCrc.spo (XCrc.nats q) n [m0, m1, m2, m3] k).map (fun n : Nat => (n : Int)))).size ≤ 2000 := by rw [strOfNums_size, List.length_map, XCrc.spo_len, XCrc.nats_len]; omega
    generalize hu : strOfNums ((XCrc.spo (XCrc.nats q) n [m0, m1, m2, m3] k).map (fun n : Nat => (n : Int))) = u at hcs hzu
    cases hch : XCrc.chg [m0, m1, m2, m3] k with
    | true =>
     have e := HSP.out n k hnk hk4 hch
     rw [hu] at e
     have HDS := Aside0.mk (fun z => Ds u e (by omega) z)
     clear e hu hch hzu hS hB HSP HDF
     rcases c3 with rfl | ⟨c4, c5⟩
     ·skip
      go_wp2_with fail
      refine (HDS.out _).mono ?_
      rintro e w4 ⟨A9, c9, rfl, hV, hb⟩
      replace S := S.call (f := (V kSe (.slice A9 0 c9) [])) hb (Ft.mono _ hV (fun k hk => Or.inr hk))
      clear hb hV HDS hcs
      go_upto_region 16 with (fail)
      generalize hg : World.alloc _ _ = w5
      replace S := S.new hg
      clear hg
      generalize w4.heap.size = p12 at S ⊢
      replace S : Kn ok w0 [(p12, .cells #[.int .i64 0, .int .i64 0, .bool false, .string ⟨#[]⟩, .int .i64 0, .int .i64 0, .int .i64 0, .string ⟨#[]⟩, .int .u64 0, .slice A9 0 c9] TFr (0, 0)), (p5, .cells #[.int .u8 (m0 : Int), .int .u8 (m1 : Int), .int .u8 (m2 : Int), .int .u8 (m3 : Int)] 39 (0, 0)), (p3, .cells #[.int .i64 f.f0, .int .i64 f.f1, .bool f.f2, .string f.f3, .int .i64 f.f4.f0, .int .i64 f.f4.f1, .int .i64 f.f4.f2, .string f.f4.f3, .int .u64 f.f5, .slice A f.f6.length c] TFr (0, 0))] nil tt [V kSe (.slice A9 0 c9) [], V kSe (.slice A f.f6.length c) f.f6] w5 := S
      have o_0 : w5.cell? ⟨p12, 0, none⟩ = some (.int .i64 0) := S.cell 0 0 rfl rfl
      have o_1 : w5.cell? ⟨p12, 1, none⟩ = some (.int .i64 0) := S.cell 0 1 rfl rfl
      have o_2 : w5.cell? ⟨p12, 2, none⟩ = some (.bool false) := S.cell 0 2 rfl rfl
      have o_3 : w5.cell? ⟨p12, 3, none⟩ = some (.string ⟨#[]⟩) := S.cell 0 3 rfl rfl
      have o_4 : w5.cell? ⟨p12, 4, none⟩ = some (.int .i64 0) := S.cell 0 4 rfl rfl
      have o_5 : w5.cell? ⟨p12, 5, none⟩ = some (.int .i64 0) := S.cell 0 5 rfl rfl
      have o_6 : w5.cell? ⟨p12, 6, none⟩ = some (.int .i64 0) := S.cell 0 6 rfl rfl
      have o_7 : w5.cell? ⟨p12, 7, none⟩ = some (.string ⟨#[]⟩) := S.cell 0 7 rfl rfl
      have o_8 : w5.cell? ⟨p12, 8, none⟩ = some (.int .u64 0) := S.cell 0 8 rfl rfl
      have o_9 : w5.cell? ⟨p12, 9, none⟩ = some (.slice A9 0 c9) := S.cell 0 9 rfl rfl
      go_wp2_with fail
      refine (Szz _ (Ft.all (S.ft 0 rfl))).mono ?_
      rintro e w6 ⟨rfl, hb⟩
      replace S := S.below hb
      clear o_0 o_1 o_2 o_3 o_4 o_5 o_6 o_7 o_8 o_9 hb
      go_wp2_with fail
      refine (live_walk w6).mono ?_
      rintro e wl ⟨rfl, bl⟩
      go_wp2
      go_ret
      exact ⟨rfl, below_step S.bel bl⟩
     ·have k1 : (k : Int) < 4 := by omega
      have k2 : (q.size : Int) ≤ (n : Int) + (k : Int) := by omega
      have k3 : (0 : Int) ≤ (n : Int) + (k : Int) := by omega
      have k4 : (n : Int) + (k : Int) ≤ 1000000 := by omega
      have hwr : IntKind.i64.wrap ((n : Int) + (k : Int)) = (n : Int) + (k : Int) := by rw [IntKind.wrap_i64]; omega
      go_wp2_with fail
      refine (HDS.out _).mono ?_
      rintro e w4 ⟨A9, c9, rfl, hV, hb⟩
      replace S := S.call (f := (V kSe (.slice A9 0 c9) [])) hb (Ft.mono _ hV (fun k hk => Or.inr hk))
      clear hb hV HDS hcs
      go_upto_region 16 with (fail)
      generalize hg : World.alloc _ _ = w5
      replace S := S.new hg
      clear hg
      generalize w4.heap.size = p12 at S ⊢
      replace S : Kn ok w0 [(p12, .cells #[.int .i64 0, .int .i64 0, .bool false, .string ⟨#[]⟩, .int .i64 0, .int .i64 0, .int .i64 0, .string ⟨#[]⟩, .int .u64 0, .slice A9 0 c9] TFr (0, 0)), (p5, .cells #[.int .u8 (m0 : Int), .int .u8 (m1 : Int), .int .u8 (m2 : Int), .int .u8 (m3 : Int)] 39 (0, 0)), (p3, .cells #[.int .i64 f.f0, .int .i64 f.f1, .bool f.f2, .string f.f3, .int .i64 f.f4.f0, .int .i64 f.f4.f1, .int .i64 f.f4.f2, .string f.f4.f3, .int .u64 f.f5, .slice A f.f6.length c] TFr (0, 0))] nil tt [V kSe (.slice A9 0 c9) [], V kSe (.slice A f.f6.length c) f.f6] w5 := S
      have o_0 : w5.cell? ⟨p12, 0, none⟩ = some (.int .i64 0) := S.cell 0 0 rfl rfl
      have o_1 : w5.cell? ⟨p12, 1, none⟩ = some (.int .i64 0) := S.cell 0 1 rfl rfl
      have o_2 : w5.cell? ⟨p12, 2, none⟩ = some (.bool false) := S.cell 0 2 rfl rfl
      have o_3 : w5.cell? ⟨p12, 3, none⟩ = some (.string ⟨#[]⟩) := S.cell 0 3 rfl rfl
      have o_4 : w5.cell? ⟨p12, 4, none⟩ = some (.int .i64 0) := S.cell 0 4 rfl rfl
      have o_5 : w5.cell? ⟨p12, 5, none⟩ = some (.int .i64 0) := S.cell 0 5 rfl rfl
      have o_6 : w5.cell? ⟨p12, 6, none⟩ = some (.int .i64 0) := S.cell 0 6 rfl rfl
      have o_7 : w5.cell? ⟨p12, 7, none⟩ = some (.string ⟨#[]⟩) := S.cell 0 7 rfl rfl
      have o_8 : w5.cell? ⟨p12, 8, none⟩ = some (.int .u64 0) := S.cell 0 8 rfl rfl
      have o_9 : w5.cell? ⟨p12, 9, none⟩ = some (.slice A9 0 c9) := S.cell 0 9 rfl rfl
      go_wp2_with fail
      refine (Szz _ (Ft.all (S.ft 0 rfl))).mono ?_
      rintro e w6 ⟨rfl, hb⟩
      replace S := S.below hb
      clear o_0 o_1 o_2 o_3 o_4 o_5 o_6 o_7 o_8 o_9 hb
      go_wp2_with fail
      refine (live_walk w6).mono ?_
      rintro e wl ⟨rfl, bl⟩
      go_wp2
      go_ret
      exact ⟨rfl, below_step S.bel bl⟩
    | false =>
     obtain rfl : q = u := by rw [← hu]; exact (XCrc.kept_str q n k _ hnk hch).symm
     clear hu hch hzu hS hB HSP
     rcases c3 with rfl | ⟨c4, c5⟩
     ·skip
      go_wp2_with fail
      refine (HDF.out _).mono ?_
      rintro e w4 ⟨A9, c9, rfl, hV, hb⟩
      replace S := S.call (f := (V kSe (.slice A9 f.f6.length c9) f.f6)) hb (Ft.mono _ hV (fun k hk => Or.inr hk))
      clear hb hV HDF hcs
      go_upto_region 16 with (fail)
      generalize hg : World.alloc _ _ = w5
      replace S := S.new hg
      clear hg
      generalize w4.heap.size = p12 at S ⊢
      replace S : Kn ok w0 [(p12, .cells #[.int .i64 f.f0, .int .i64 f.f1, .bool f.f2, .string f.f3, .int .i64 f.f4.f0, .int .i64 f.f4.f1, .int .i64 f.f4.f2, .string f.f4.f3, .int .u64 f.f5, .slice A9 f.f6.length c9] TFr (0, 0)), (p5, .cells #[.int .u8 (m0 : Int), .int .u8 (m1 : Int), .int .u8 (m2 : Int), .int .u8 (m3 : Int)] 39 (0, 0)), (p3, .cells #[.int .i64 f.f0, .int .i64 f.f1, .bool f.f2, .string f.f3, .int .i64 f.f4.f0, .int .i64 f.f4.f1, .int .i64 f.f4.f2, .string f.f4.f3, .int .u64 f.f5, .slice A f.f6.length c] TFr (0, 0))] nil tt [V kSe (.slice A9 f.f6.length c9) f.f6, V kSe (.slice A f.f6.length c) f.f6] w5 := S
      go_wp2_with fail
      refine (live_walk w5).mono ?_
      rintro e wl ⟨rfl, bl⟩
      go_wp2
      go_ret
      exact ⟨rfl, below_step S.bel bl⟩
     ·have k1 : (k : Int) < 4 := by omega
      have k2 : (q.size : Int) ≤ (n : Int) + (k : Int) := by omega
      have k3 : (0 : Int) ≤ (n : Int) + (k : Int) := by omega
      have k4 : (n : Int) + (k : Int) ≤ 1000000 := by omega
      have hwr : IntKind.i64.wrap ((n : Int) + (k : Int)) = (n : Int) + (k : Int) := by rw [IntKind.wrap_i64]; omega
      go_wp2_with fail
      refine (HDF.out _).mono ?_
      rintro e w4 ⟨A9, c9, rfl, hV, hb⟩
      replace S := S.call (f := (V kSe (.slice A9 f.f6.length c9) f.f6)) hb (Ft.mono _ hV (fun k hk => Or.inr hk))
      clear hb hV HDF hcs
      go_upto_region 16 with (fail)
      generalize hg : World.alloc _ _ = w5
      replace S := S.new hg
      clear hg
      generalize w4.heap.size = p12 at S ⊢
      replace S : Kn ok w0 [(p12, .cells #[.int .i64 f.f0, .int .i64 f.f1, .bool f.f2, .string f.f3, .int .i64 f.f4.f0, .int .i64 f.f4.f1, .int .i64 f.f4.f2, .string f.f4.f3, .int .u64 f.f5, .slice A9 f.f6.length c9] TFr (0, 0)), (p5, .cells #[.int .u8 (m0 : Int), .int .u8 (m1 : Int), .int .u8 (m2 : Int), .int .u8 (m3 : Int)] 39 (0, 0)), (p3, .cells #[.int .i64 f.f0, .int .i64 f.f1, .bool f.f2, .string f.f3, .int .i64 f.f4.f0, .int .i64 f.f4.f1, .int .i64 f.f4.f2, .string f.f4.f3, .int .u64 f.f5, .slice A f.f6.length c] TFr (0, 0))] nil tt [V kSe (.slice A9 f.f6.length c9) f.f6, V kSe (.slice A f.f6.length c) f.f6] w5 := S
      go_wp2_with fail
      refine (live_walk w5).mono ?_
      rintro e wl ⟨rfl, bl⟩
      go_wp2
      go_ret
      exact ⟨rfl, below_step S.bel bl⟩
theorem frameSpoils_walk (a0 a1 : Int) (a2 : Bool) (a3 : ByteArray) (a4 a5 a6 : Int) (a7 : ByteArray) (a8 : Int) (aA : Option Addr) (ac : Nat) (al : List Se) (b : Int) (m0 m1 m2 m3 : Int) (w : World) (har : Kd.C kSe w aA al.length al) (hac : al.length ≤ ac) (_a0 : (Lit.int .i64 a0).wf = true) (_a1 : (Lit.int .i64 a1).wf = true) (wa3 : a3.size ≤ maxLen) (_a4 : (Lit.int .i64 a4).wf = true) (_a5 : (Lit.int .i64 a5).wf = true) (_a6 : (Lit.int .i64 a6).wf = true) (_a7 : a7.size ≤ maxLen) (wa8 : (Lit.int .u64 a8).wf = true) (_al : al.length ≤ maxLen) (wal : ∀ y ∈ al, Ok52 y) (_wb : (Lit.int .i64 b).wf = true) (wm0 : (Lit.int .u8 m0).wf = true) (wm1 : (Lit.int .u8 m1).wf = true) (wm2 : (Lit.int .u8 m2).wf = true) (wm3 : (Lit.int .u8 m3).wf = true) :
  Calls Try.prog 6 #[.agg #[.int .i64 a0, .int .i64 a1, .bool a2, .string a3, .int .i64 a4, .int .i64 a5, .int .i64 a6, .string a7, .int .u64 a8, .slice aA al.length ac], .int .i64 b, .agg #[.int .u8 m0, .int .u8 m1, .int .u8 m2, .int .u8 m3]] w fun e w' => e = .returned (.bool true) ∧ Below w.heap.size w w' := by
 obtain ⟨n0, rfl, h0⟩ := XCrc.wf_u8n wm0
 obtain ⟨n1, rfl, h1⟩ := XCrc.wf_u8n wm1
 obtain ⟨n2, rfl, h2⟩ := XCrc.wf_u8n wm2
 obtain ⟨n3, rfl, h3⟩ := XCrc.wf_u8n wm3
 exact frameSpoils_go (fun _ => True) ⟨a0, a1, a2, a3, ⟨a4, a5, a6, a7⟩, a8, al⟩ aA ac b n0 n1 n2 n3 (by refine ⟨XBytes.wf_u64 wa8, ?_, fun x hx => ?_⟩; (show a3.size ≤ _; unfold maxLen at wa3; omega); (have := (wal x hx).1; unfold maxLen at this; omega)) (by simp only [List.mem_cons, List.not_mem_nil, or_false]; rintro b (rfl | rfl | rfl | rfl) <;> assumption) w w (Kn.enter _ w (by simp only [List.mem_cons, List.not_mem_nil, or_false]; rintro q rfl; exact Im.of_C kSe_heap har hac))
end Go.Proofs.Ytjccgdnnnlgeeaa.XHand
end
section
-- Written by a program of this session (wip/tools/xprint.py), which drives the kit's print.
namespace Go.Proofs.Ytjccgdnnnlgeeaa.frameSpoils
open Go.ChangeShapes Go.WideShapes Go.ChangeAt Go.RowKit Go.Proofs.YtjccgdnnnlgeeaaW.PrintWords Go.Proofs.YtjccgdnnnlgeeaaW.PrintLast Go.Proofs.YtjccgdnnnlgeeaaW.PrintMore Go.Proofs.Ytjccgdnnnlgeeaa.XOpen Go.Proofs.Ytjccgdnnnlgeeaa.PA
open Go.ChangeMaps (open_string shut_string)
set_option linter.unusedVariables false
set_option linter.unusedSimpArgs false
theorem own : ownKnob Try.prog.godebug = none := by kernel_rfl
theorem laidOut : laidOutB Try.prog = true := by kernel_rfl
theorem opens23 : Opens Try.prog 23 k23 Ok23 := Opens.iso (Opens.struct [3, 3, 3, 9] [1, 1, 1, 1] Try.underlying23 (by kernel_rfl) (by kernel_rfl) (by kernel_rfl) (by kernel_rfl) (OpensL.cons (Opens.int Try.underlying3) (OpensL.cons (Opens.int Try.underlying3) (OpensL.cons (Opens.int Try.underlying3) (OpensL.one (Opens.string Try.underlying9)))))) (fun x : S23 => (x.f0, x.f1, x.f2, x.f3)) (fun a => (⟨a.1, a.2.1, a.2.2.1, a.2.2.2⟩ : S23)) (fun _ => rfl)
theorem opens52 : Opens Try.prog 52 k52 Ok52 := Opens.iso (Opens.struct [9, 23] [1, 4] Try.underlying52 (by kernel_rfl) (by kernel_rfl) (by kernel_rfl) (by kernel_rfl) (OpensL.cons (Opens.string Try.underlying9) (OpensL.one opens23))) (fun x : S52 => (x.f0, x.f1)) (fun a => (⟨a.1, a.2⟩ : S52)) (fun _ => rfl)
theorem opens27 : Opens Try.prog 27 k27 Ok27 := Opens.iso (Opens.struct [3, 3, 4, 9, 23, 24, 25] [1, 1, 1, 1, 4, 1, 1] Try.underlying27 (by kernel_rfl) (by kernel_rfl) (by kernel_rfl) (by kernel_rfl) (OpensL.cons (Opens.int Try.underlying3) (OpensL.cons (Opens.int Try.underlying3) (OpensL.cons (Opens.bool Try.underlying4) (OpensL.cons (Opens.string Try.underlying9) (OpensL.cons opens23 (OpensL.cons (Opens.int Try.underlying24) (OpensL.one (Opens.slice Try.underlying25 (by kernel_rfl) z52 opens52))))))))) (fun x : S27 => (x.f0, x.f1, x.f2, x.f3, x.f4, x.f5, x.f6)) (fun a => (⟨a.1, a.2.1, a.2.2.1, a.2.2.2.1, a.2.2.2.2.1, a.2.2.2.2.2.1, a.2.2.2.2.2.2⟩ : S27)) (fun _ => rfl)
theorem opens39 : Opens Try.prog 39 k39 Ok39 := Opens.iso (Opens.array 1 Try.underlying39 (by kernel_rfl) (by kernel_rfl) (OpensL.cons (Opens.int Try.underlying5) (OpensL.cons (Opens.int Try.underlying5) (OpensL.cons (Opens.int Try.underlying5) (OpensL.one (Opens.int Try.underlying5)))))) (fun x : S39 => (x.f0, x.f1, x.f2, x.f3)) (fun a => (⟨a.1, a.2.1, a.2.2.1, a.2.2.2⟩ : S39)) (fun _ => rfl)
set_option maxRecDepth 100000 in
theorem lifted (os : Os) (started : os.Started) (H : Type) (enc : TypeId × Value → H) :
  ReturnsInHanded {} Try.checked os 6 .any (Rows.frameSpoilsSpec.pre6 enc Try.prog Try.f6 Rows.frameSpoilsRow.domain false) (Rows.frameSpoilsSpec.post enc Try.prog Try.f6 false true false false) := by
 refine returnsInHanded_of_change_sized (C := Try.checked) own started (by kernel_rfl) Try.func6
  (ChangeSpec.witness6 (enc := enc) (C := Try.checked) false ⟨#[], #[.agg #[.int .i64 0, .int .i64 0, .bool false, .string ByteArray.empty, .int .i64 0, .int .i64 0, .int .i64 0, .string ByteArray.empty, .int .u64 0, .slice none 0 0], .int .i64 0, .agg #[.int .u8 0, .int .u8 0, .int .u8 0, .int .u8 0]], []⟩ 8 (by kernel_rfl) (by kernel_rfl) (by kernel_rfl) (by kernel_rfl)) ?_
 intro W base args ds gs before hval0 hW hcnd hsz0 _
 have hsz : (DataW.weightsEach Try.prog (Try.f6.params.toList ++ Rows.frameSpoilsSpec.plain.varTypes Try.prog) (ds ++ gs)).all (· ≤ reachBytes) = true := hsz0
 have hval : ∀ (j : Nat) t v, Try.f6.params[j]? = some t → args[j]? = some v → Value.okWide Try.prog W .any base t v := hval0
 have hW' := hW
 obtain ⟨p, q, hA0, hV, rfl, hfz, hnd⟩ := hW
 have hA : DataW.TrodAll enc Try.prog W 0 (fun _ => true) true Try.f6.params.toList args.toList ds p := hA0
 rw [Try.params6] at hA hval hsz
 obtain ⟨v0, vs0, d0, ds0, p0, q0, hargs, rfl, rfl, h0, r0⟩ := trodAll_cons hA
 obtain ⟨v1, vs1, d1, ds1, p1, q1, rfl, rfl, rfl, h1, r1⟩ := trodAll_cons r0
 obtain ⟨v2, vs2, d2, ds2, p2, q2, rfl, rfl, rfl, h2, r2⟩ := trodAll_cons r1
 obtain ⟨rfl, rfl, rfl⟩ := trodAll_nil r2
 obtain rfl : args = #[v0, v1, v2] := by cases args; simp_all
 obtain ⟨rfl, rfl⟩ := trodVars_none hV
 have k0 := h0
 have lt0 : ∀ x ∈ p0, x.block < W.heap.size := by obtain ⟨m, hm⟩ := k0; exact DataW.trod_lt m _ _ _ hm
 obtain ⟨cs0, rfl, hs0⟩ := okWide_struct Try.underlying27 (hval 0 27 v0 rfl rfl)
 obtain ⟨x0, g0, o0⟩ : ∃ x, k27.K W x cs0.toList ∧ Ok27 x := by
  obtain ⟨fuel, hf⟩ := h0
  exact opens27 enc W 0 _ true fuel _ _ hf
 obtain ⟨A0_9, c0_9, e0, hc0_9, hr0_9⟩ := k27_open g0
 obtain rfl : cs0 = #[.int .i64 x0.f0, .int .i64 x0.f1, .bool x0.f2, .string x0.f3, .int .i64 x0.f4.f0, .int .i64 x0.f4.f1, .int .i64 x0.f4.f2, .string x0.f4.f3, .int .u64 x0.f5, .slice A0_9 (x0.f6).length c0_9] := Array.toList_inj.1 e0
 obtain ⟨a1, rfl, rfl, rfl, w1⟩ := open_int Try.underlying3 (hval 1 3 v1 rfl rfl) h1
 have k2 := h2
 have lt2 : ∀ x ∈ p2, x.block < W.heap.size := by obtain ⟨m, hm⟩ := k2; exact DataW.trod_lt m _ _ _ hm
 obtain ⟨cs2, rfl, hs2⟩ := okWide_agg Try.underlying39 (hval 2 39 v2 rfl rfl)
 obtain ⟨x2, g2, o2⟩ : ∃ x, k39.K W x cs2.toList ∧ Ok39 x := by
  obtain ⟨fuel, hf⟩ := h2
  exact opens39 enc W 0 _ true fuel _ _ hf
 obtain e2 := k39_open g2
 obtain rfl : cs2 = #[.int .u8 x2.f0, .int .u8 x2.f1, .int .u8 x2.f2, .int .u8 x2.f3] := Array.toList_inj.1 e2
 clear hA0 hval0 hsz0 hsz
 refine (Go.Proofs.Ytjccgdnnnlgeeaa.XHand.frameSpoils_walk (x0.f0) (x0.f1) (x0.f2) (x0.f3) (x0.f4.f0) (x0.f4.f1) (x0.f4.f2) (x0.f4.f3) (x0.f5) _ _ (x0.f6) a1 (x2.f0) (x2.f1) (x2.f2) (x2.f3) W hr0_9 hc0_9 o0.1 o0.2.1 o0.2.2.2.1 o0.2.2.2.2.1.1 o0.2.2.2.2.1.2.1 o0.2.2.2.2.1.2.2.1 o0.2.2.2.2.1.2.2.2 o0.2.2.2.2.2.1 o0.2.2.2.2.2.2.1 o0.2.2.2.2.2.2.2 w1 o2.1 o2.2.1 o2.2.2.1 o2.2.2.2).mono fun e W' ⟨he, bel⟩ => ?_
 subst he
 exact ⟨_, rfl, _, _, _, [], _, [], hW', trodAll_mk1 (shut_bool Try.underlying4 _), (trodAll_cons_mk (Below.trod laidOut (by kernel_rfl) (of_decide_eq_true (by kernel_rfl)) k0 bel lt0) (trodAll_cons_mk (shut_int Try.underlying3 w1) (trodAll_cons_mk (Below.trod laidOut (by kernel_rfl) (of_decide_eq_true (by kernel_rfl)) k2 bel lt2) trodAll_mk0))), rfl, bel.frame _, fun h => by cases h⟩
theorem over : Rows.frameSpoilsRow.holds Try.pinned (OpenSpec.ofChange Rows.frameSpoilsSpec) :=
 OpenClaim.holds_of_wide 6 Try.f6 rfl rfl rfl rfl rfl rfl rfl ⟨rfl, rfl, rfl, rfl, rfl⟩ rfl rfl rfl rfl rfl (by kernel_rfl) Try.func6 (by kernel_rfl)
  (of_decide_eq_true (by kernel_rfl)) (by unfold Func.isWrapper; first | (rw [if_pos (by decide +kernel)]; kernel_rfl) | (rw [if_neg (by decide +kernel)]; exact ⟨rfl, rfl⟩))
  (fun os started H enc _ => lifted os started H enc)
theorem proved : Rows.FrameSpoilsSaid := over
#print axioms proved
end Go.Proofs.Ytjccgdnnnlgeeaa.frameSpoils
namespace Go.Proofs.Ytjccgdnnnlgeeaa
/-- The row, under a short name, for the claim. -/
theorem frameSpoils_holds : Rows.FrameSpoilsSaid := frameSpoils.proved
end Go.Proofs.Ytjccgdnnnlgeeaa
end
