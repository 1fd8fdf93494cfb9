-- Several texts in one, without what the law does not use (wip/tools/bundle.py).
import Derived.Test.YtjccgdnnnlgeeaaBBackoils2

section
/- frame's write of all kinds, May, Encode and Decode, walked. -/
namespace Go.Proofs.Ytjccgdnnnlgeeaa.XFr
open Go.RowKit Go.Proofs.YtjccgdnnnlgeeaaW.PrintWords Go.Proofs.YtjccgdnnnlgeeaaW.PrintLast Go.Proofs.YtjccgdnnnlgeeaaW.PrintMore Go.Proofs.Ytjccgdnnnlgeeaa.PA Go.Proofs.Ytjccgdnnnlgeeaa.XMem Go.Proofs.Ytjccgdnnnlgeeaa.XSt Go.Proofs.Ytjccgdnnnlgeeaa.XQuiet Go.Proofs.Ytjccgdnnnlgeeaa.XKn
open Go.Proofs.Ytjccgdnnnlgeeaa.XSum (Se kSe)
open Go.Proofs.Ytjccgdnnnlgeeaa.XCrc (sealB openB)
set_option linter.unusedVariables false
set_option linter.unusedSimpArgs false
set_option maxRecDepth 100000

set_option maxHeartbeats 8000000 in
theorem write_go (ok : Nat → Prop) (f : Fr) (A : Option Addr) (c : Nat) (w0 w : World) (S : Kn ok w0 [] nil tt [V kSe (.slice A f.f6.length c) f.f6] w) (hl : f.f6.length ≤ 40) (hz : ∀ x ∈ f.f6, x.f0.size ≤ 9223372036854775807) (hn : f.f3.size ≤ 9223372036854775807) (h5 : 0 ≤ f.f5 ∧ f.f5 < 18446744073709551616) :
  Calls Try.prog 24 #[.agg #[.int .i64 f.f0, .int .i64 f.f1, .bool f.f2, .string f.f3, .int .i64 f.f4.f0, .int .i64 f.f4.f1, .int .i64 f.f4.f2, .string f.f4.f3, .int .u64 f.f5, .slice A f.f6.length c]] w fun e w' => ∃ t, e = .returned (.tuple #[.string t, .bool (mayF f)]) ∧ (mayF f = true → t = plainF f) ∧ Below w0.heap.size w0 w' := by
 by_cases hr : 1 ≤ f.f0 ∧ f.f0 ≤ 4 ∧ 0 ≤ f.f1 ∧ f.f1 ≤ 1099511627776
 ·have hk : f.f0 = 1 ∨ f.f0 = 2 ∨ f.f0 = 3 ∨ f.f0 = 4 := by omega
  rcases hk with h7 | h7 | h7 | h7
  ·have h := write_k1 ok f A c w0 w S h7 hl hz hn hr.2.2.1 hr.2.2.2 h5
   rw [← h7] at h
   exact h
  ·have h := write_k2 ok f A c w0 w S h7 hl hz hn hr.2.2.1 hr.2.2.2 h5
   rw [← h7] at h
   exact h
  ·have h := write_k3 ok f A c w0 w S h7 hl hz hn hr.2.2.1 hr.2.2.2 h5
   rw [← h7] at h
   exact h
  ·have h := write_k4 ok f A c w0 w S h7 hl hz hn hr.2.2.1 hr.2.2.2 h5
   rw [← h7] at h
   exact h
 have hm : mayF f = false := by cases h : mayF f with | false => rfl | true => exact absurd (may_body h).2 hr
 clear hl hz hn h5
 by_cases c1 : f.f0 < 1
 ·have c1b : decide (f.f0 < 1) = true := decide_eq_true c1
  clear hr c1
  go_enter Try.func24, Try.ntmps24
  go_upto_region 1 with (fail)
  generalize hg : World.alloc _ _ = w1
  replace S := S.new hg
  clear hg
  generalize w.heap.size = p1 at S ⊢
  replace S : Kn ok w0 [(p1, .cells #[.int .i64 f.f0, .int .i64 f.f1, .bool f.f2, .string f.f3, .int .i64 f.f4.f0, .int .i64 f.f4.f1, .int .i64 f.f4.f2, .string f.f4.f3, .int .u64 f.f5, .slice A f.f6.length c] TFr (0, 0))] nil tt [V kSe (.slice A f.f6.length c) f.f6] w1 := S
  have f_0 : w1.cell? ⟨p1, 0, none⟩ = some (.int .i64 f.f0) := S.cell 0 0 rfl rfl
  have f_1 : w1.cell? ⟨p1, 1, none⟩ = some (.int .i64 f.f1) := S.cell 0 1 rfl rfl
  go_wp2
  go_ret2
  refine ⟨⟨#[]⟩, ?_, ?_, S.bel⟩
  ·(rw [hm]; try rfl)
  ·intro h; rw [hm] at h; cases h
 have c1b : decide (f.f0 < 1) = false := decide_eq_false c1
 by_cases c2 : f.f0 > 4
 ·have c2b : decide (f.f0 > 4) = true := decide_eq_true c2
  have c2d : decide (4 < f.f0) = true := decide_eq_true c2
  clear hr c1 c2
  go_enter Try.func24, Try.ntmps24
  go_upto_region 1 with (fail)
  generalize hg : World.alloc _ _ = w1
  replace S := S.new hg
  clear hg
  generalize w.heap.size = p1 at S ⊢
  replace S : Kn ok w0 [(p1, .cells #[.int .i64 f.f0, .int .i64 f.f1, .bool f.f2, .string f.f3, .int .i64 f.f4.f0, .int .i64 f.f4.f1, .int .i64 f.f4.f2, .string f.f4.f3, .int .u64 f.f5, .slice A f.f6.length c] TFr (0, 0))] nil tt [V kSe (.slice A f.f6.length c) f.f6] w1 := S
  have f_0 : w1.cell? ⟨p1, 0, none⟩ = some (.int .i64 f.f0) := S.cell 0 0 rfl rfl
  have f_1 : w1.cell? ⟨p1, 1, none⟩ = some (.int .i64 f.f1) := S.cell 0 1 rfl rfl
  go_wp2
  go_ret2
  refine ⟨⟨#[]⟩, ?_, ?_, S.bel⟩
  ·(rw [hm]; try rfl)
  ·intro h; rw [hm] at h; cases h
 have c2b : decide (f.f0 > 4) = false := decide_eq_false c2
 have c2d : decide (4 < f.f0) = false := decide_eq_false c2
 by_cases c3 : f.f1 < 0
 ·have c3b : decide (f.f1 < 0) = true := decide_eq_true c3
  clear hr c1 c2 c3
  go_enter Try.func24, Try.ntmps24
  go_upto_region 1 with (fail)
  generalize hg : World.alloc _ _ = w1
  replace S := S.new hg
  clear hg
  generalize w.heap.size = p1 at S ⊢
  replace S : Kn ok w0 [(p1, .cells #[.int .i64 f.f0, .int .i64 f.f1, .bool f.f2, .string f.f3, .int .i64 f.f4.f0, .int .i64 f.f4.f1, .int .i64 f.f4.f2, .string f.f4.f3, .int .u64 f.f5, .slice A f.f6.length c] TFr (0, 0))] nil tt [V kSe (.slice A f.f6.length c) f.f6] w1 := S
  have f_0 : w1.cell? ⟨p1, 0, none⟩ = some (.int .i64 f.f0) := S.cell 0 0 rfl rfl
  have f_1 : w1.cell? ⟨p1, 1, none⟩ = some (.int .i64 f.f1) := S.cell 0 1 rfl rfl
  go_wp2
  go_ret2
  refine ⟨⟨#[]⟩, ?_, ?_, S.bel⟩
  ·(rw [hm]; try rfl)
  ·intro h; rw [hm] at h; cases h
 have c3b : decide (f.f1 < 0) = false := decide_eq_false c3
 have c4 : f.f1 > 1099511627776 := by omega
 have c4b : decide (f.f1 > 1099511627776) = true := decide_eq_true c4
 have c4d : decide (1099511627776 < f.f1) = true := decide_eq_true c4
 clear hr c1 c2 c3 c4
 go_enter Try.func24, Try.ntmps24
 go_upto_region 1 with (fail)
 generalize hg : World.alloc _ _ = w1
 replace S := S.new hg
 clear hg
 generalize w.heap.size = p1 at S ⊢
 replace S : Kn ok w0 [(p1, .cells #[.int .i64 f.f0, .int .i64 f.f1, .bool f.f2, .string f.f3, .int .i64 f.f4.f0, .int .i64 f.f4.f1, .int .i64 f.f4.f2, .string f.f4.f3, .int .u64 f.f5, .slice A f.f6.length c] TFr (0, 0))] nil tt [V kSe (.slice A f.f6.length c) f.f6] w1 := S
 have f_0 : w1.cell? ⟨p1, 0, none⟩ = some (.int .i64 f.f0) := S.cell 0 0 rfl rfl
 have f_1 : w1.cell? ⟨p1, 1, none⟩ = some (.int .i64 f.f1) := S.cell 0 1 rfl rfl
 go_wp2
 go_ret2
 refine ⟨⟨#[]⟩, ?_, ?_, S.bel⟩
 ·(rw [hm]; try rfl)
 ·intro h; rw [hm] at h; cases h
set_option maxHeartbeats 4000000 in
theorem may_go (ok : Nat → Prop) (f : Fr) (A : Option Addr) (c : Nat) (w0 w : World) (S : Kn ok w0 [] nil tt [V kSe (.slice A f.f6.length c) f.f6] w) (hl : f.f6.length ≤ 40) (hz : ∀ x ∈ f.f6, x.f0.size ≤ 9223372036854775807) (hn : f.f3.size ≤ 9223372036854775807) (h5 : 0 ≤ f.f5 ∧ f.f5 < 18446744073709551616) :
  Calls Try.prog 13 #[.agg #[.int .i64 f.f0, .int .i64 f.f1, .bool f.f2, .string f.f3, .int .i64 f.f4.f0, .int .i64 f.f4.f1, .int .i64 f.f4.f2, .string f.f4.f3, .int .u64 f.f5, .slice A f.f6.length c]] w fun e w' => e = .returned (.bool (mayF f)) ∧ Below w0.heap.size w0 w' := by
 have HW := Aside0.mk (fun (z : World) (g : (V kSe (.slice A f.f6.length c) f.f6).P z (fun _ => True)) => write_go (fun _ => True) f A c z z (Kn.enter _ z (fun q hq => by simp only [List.mem_singleton] at hq; subst hq; exact g)) hl hz hn h5)
 generalize mayF f = m at HW ⊢
 clear hl hz hn h5
 go_enter Try.func13, Try.ntmps13
 go_upto_region 1 with (fail)
 generalize hg : World.alloc _ _ = w1
 replace S := S.new hg
 clear hg
 generalize w.heap.size = p1 at S ⊢
 replace S : Kn ok w0 [(p1, .cells #[.int .i64 f.f0, .int .i64 f.f1, .bool f.f2, .string f.f3, .int .i64 f.f4.f0, .int .i64 f.f4.f1, .int .i64 f.f4.f2, .string f.f4.f3, .int .u64 f.f5, .slice A f.f6.length c] TFr (0, 0))] nil tt [V kSe (.slice A f.f6.length c) f.f6] w1 := S
 have f_0 : w1.cell? ⟨p1, 0, none⟩ = some (.int .i64 f.f0) := S.cell 0 0 rfl rfl
 have f_1 : w1.cell? ⟨p1, 1, none⟩ = some (.int .i64 f.f1) := S.cell 0 1 rfl rfl
 have f_2 : w1.cell? ⟨p1, 2, none⟩ = some (.bool f.f2) := S.cell 0 2 rfl rfl
 have f_3 : w1.cell? ⟨p1, 3, none⟩ = some (.string f.f3) := S.cell 0 3 rfl rfl
 have f_4 : w1.cell? ⟨p1, 4, none⟩ = some (.int .i64 f.f4.f0) := S.cell 0 4 rfl rfl
 have f_5 : w1.cell? ⟨p1, 5, none⟩ = some (.int .i64 f.f4.f1) := S.cell 0 5 rfl rfl
 have f_6 : w1.cell? ⟨p1, 6, none⟩ = some (.int .i64 f.f4.f2) := S.cell 0 6 rfl rfl
 have f_7 : w1.cell? ⟨p1, 7, none⟩ = some (.string f.f4.f3) := S.cell 0 7 rfl rfl
 have f_8 : w1.cell? ⟨p1, 8, none⟩ = some (.int .u64 f.f5) := S.cell 0 8 rfl rfl
 have f_9 : w1.cell? ⟨p1, 9, none⟩ = some (.slice A f.f6.length c) := S.cell 0 9 rfl rfl
 go_wp2_with fail
 refine (HW.out _ (Ft.all (S.ft 0 rfl))).mono ?_
 rintro e w2 ⟨t, rfl, _, hb⟩
 replace S := S.below hb
 clear f_0 f_1 f_2 f_3 f_4 f_5 f_6 f_7 f_8 f_9 hb HW
 go_wp2
 go_ret
 exact ⟨rfl, S.bel⟩
theorem may_kn {ok : Nat → Prop} {f : Fr} {A : Option Addr} {c : Nat} {w : World} (hl : f.f6.length ≤ 40) (hz : ∀ x ∈ f.f6, x.f0.size ≤ 9223372036854775807) (hn : f.f3.size ≤ 9223372036854775807) (h5 : 0 ≤ f.f5 ∧ f.f5 < 18446744073709551616) (g : (V kSe (.slice A f.f6.length c) f.f6).P w ok) :
  Calls Try.prog 13 #[.agg #[.int .i64 f.f0, .int .i64 f.f1, .bool f.f2, .string f.f3, .int .i64 f.f4.f0, .int .i64 f.f4.f1, .int .i64 f.f4.f2, .string f.f4.f3, .int .u64 f.f5, .slice A f.f6.length c]] w fun e w' => e = .returned (.bool (mayF f)) ∧ Below w.heap.size w w' :=
 may_go ok f A c w w (Kn.enter _ w (fun q hq => by simp only [List.mem_singleton] at hq; subst hq; exact g)) hl hz hn h5
set_option maxHeartbeats 4000000 in
theorem enc_go (ok : Nat → Prop) (f : Fr) (A : Option Addr) (c : Nat) (w0 w : World) (S : Kn ok w0 [] nil tt [V kSe (.slice A f.f6.length c) f.f6] w) (hl : f.f6.length ≤ 40) (hz : ∀ x ∈ f.f6, x.f0.size ≤ 9223372036854775807) (hn : f.f3.size ≤ 9223372036854775807) (h5 : 0 ≤ f.f5 ∧ f.f5 < 18446744073709551616) :
  Calls Try.prog 11 #[.agg #[.int .i64 f.f0, .int .i64 f.f1, .bool f.f2, .string f.f3, .int .i64 f.f4.f0, .int .i64 f.f4.f1, .int .i64 f.f4.f2, .string f.f4.f3, .int .u64 f.f5, .slice A f.f6.length c]] w fun e w' => e = .returned (.tuple #[.string (encF f).1, .int .i64 (encF f).2]) ∧ Below w0.heap.size w0 w' := by
 have HW := Aside0.mk (fun (z : World) (g : (V kSe (.slice A f.f6.length c) f.f6).P z (fun _ => True)) => write_go (fun _ => True) f A c z z (Kn.enter _ z (fun q hq => by simp only [List.mem_singleton] at hq; subst hq; exact g)) hl hz hn h5)
 have HSL := Aside0.mk (fun (h : mayF f = true) (z : World) => XCrc.seal_calls (plainF f) (by have := (may_body h).2; have := plain_le this.2.2.1 this.2.2.2; omega) z)
 unfold encF
 by_cases hm : mayF f = true
 ·simp only [if_pos hm]
  have HM := Aside0.mk hm
  rw [hm] at HW
  clear hm hl hz hn h5
  go_enter Try.func11, Try.ntmps11
  go_upto_region 1 with (fail)
  generalize hg : World.alloc _ _ = w1
  replace S := S.new hg
  clear hg
  generalize w.heap.size = p1 at S ⊢
  replace S : Kn ok w0 [(p1, .cells #[.int .i64 f.f0, .int .i64 f.f1, .bool f.f2, .string f.f3, .int .i64 f.f4.f0, .int .i64 f.f4.f1, .int .i64 f.f4.f2, .string f.f4.f3, .int .u64 f.f5, .slice A f.f6.length c] TFr (0, 0))] nil tt [V kSe (.slice A f.f6.length c) f.f6] w1 := S
  have f_0 : w1.cell? ⟨p1, 0, none⟩ = some (.int .i64 f.f0) := S.cell 0 0 rfl rfl
  have f_1 : w1.cell? ⟨p1, 1, none⟩ = some (.int .i64 f.f1) := S.cell 0 1 rfl rfl
  have f_2 : w1.cell? ⟨p1, 2, none⟩ = some (.bool f.f2) := S.cell 0 2 rfl rfl
  have f_3 : w1.cell? ⟨p1, 3, none⟩ = some (.string f.f3) := S.cell 0 3 rfl rfl
  have f_4 : w1.cell? ⟨p1, 4, none⟩ = some (.int .i64 f.f4.f0) := S.cell 0 4 rfl rfl
  have f_5 : w1.cell? ⟨p1, 5, none⟩ = some (.int .i64 f.f4.f1) := S.cell 0 5 rfl rfl
  have f_6 : w1.cell? ⟨p1, 6, none⟩ = some (.int .i64 f.f4.f2) := S.cell 0 6 rfl rfl
  have f_7 : w1.cell? ⟨p1, 7, none⟩ = some (.string f.f4.f3) := S.cell 0 7 rfl rfl
  have f_8 : w1.cell? ⟨p1, 8, none⟩ = some (.int .u64 f.f5) := S.cell 0 8 rfl rfl
  have f_9 : w1.cell? ⟨p1, 9, none⟩ = some (.slice A f.f6.length c) := S.cell 0 9 rfl rfl
  go_wp2_with fail
  refine (HW.out _ (Ft.all (S.ft 0 rfl))).mono ?_
  rintro e w2 ⟨t, rfl, ht, hb⟩
  replace S := S.below hb
  clear f_0 f_1 f_2 f_3 f_4 f_5 f_6 f_7 f_8 f_9 hb HW
  have ht2 := ht (by first | rfl | trivial)
  subst ht2
  clear ht
  go_wp2_with fail
  refine (HSL.out HM.out _).mono ?_
  rintro e w3 ⟨rfl, hb⟩
  replace S := S.below hb
  clear hb HSL HM
  go_wp2
  go_ret2
  exact ⟨by first | rfl | trivial, S.bel⟩
 simp only [if_neg hm]
 rw [Bool.eq_false_iff.mpr hm] at HW
 clear HSL hm hl hz hn h5
 go_enter Try.func11, Try.ntmps11
 go_upto_region 1 with (fail)
 generalize hg : World.alloc _ _ = w1
 replace S := S.new hg
 clear hg
 generalize w.heap.size = p1 at S ⊢
 replace S : Kn ok w0 [(p1, .cells #[.int .i64 f.f0, .int .i64 f.f1, .bool f.f2, .string f.f3, .int .i64 f.f4.f0, .int .i64 f.f4.f1, .int .i64 f.f4.f2, .string f.f4.f3, .int .u64 f.f5, .slice A f.f6.length c] TFr (0, 0))] nil tt [V kSe (.slice A f.f6.length c) f.f6] w1 := S
 have f_0 : w1.cell? ⟨p1, 0, none⟩ = some (.int .i64 f.f0) := S.cell 0 0 rfl rfl
 have f_1 : w1.cell? ⟨p1, 1, none⟩ = some (.int .i64 f.f1) := S.cell 0 1 rfl rfl
 have f_2 : w1.cell? ⟨p1, 2, none⟩ = some (.bool f.f2) := S.cell 0 2 rfl rfl
 have f_3 : w1.cell? ⟨p1, 3, none⟩ = some (.string f.f3) := S.cell 0 3 rfl rfl
 have f_4 : w1.cell? ⟨p1, 4, none⟩ = some (.int .i64 f.f4.f0) := S.cell 0 4 rfl rfl
 have f_5 : w1.cell? ⟨p1, 5, none⟩ = some (.int .i64 f.f4.f1) := S.cell 0 5 rfl rfl
 have f_6 : w1.cell? ⟨p1, 6, none⟩ = some (.int .i64 f.f4.f2) := S.cell 0 6 rfl rfl
 have f_7 : w1.cell? ⟨p1, 7, none⟩ = some (.string f.f4.f3) := S.cell 0 7 rfl rfl
 have f_8 : w1.cell? ⟨p1, 8, none⟩ = some (.int .u64 f.f5) := S.cell 0 8 rfl rfl
 have f_9 : w1.cell? ⟨p1, 9, none⟩ = some (.slice A f.f6.length c) := S.cell 0 9 rfl rfl
 go_wp2_with fail
 refine (HW.out _ (Ft.all (S.ft 0 rfl))).mono ?_
 rintro e w2 ⟨t, rfl, _, hb⟩
 replace S := S.below hb
 clear f_0 f_1 f_2 f_3 f_4 f_5 f_6 f_7 f_8 f_9 hb HW
 go_wp2
 go_ret2
 exact ⟨by first | rfl | trivial, S.bel⟩
theorem enc_kn {ok : Nat → Prop} {f : Fr} {A : Option Addr} {c : Nat} {w : World} (hl : f.f6.length ≤ 40) (hz : ∀ x ∈ f.f6, x.f0.size ≤ 9223372036854775807) (hn : f.f3.size ≤ 9223372036854775807) (h5 : 0 ≤ f.f5 ∧ f.f5 < 18446744073709551616) (g : (V kSe (.slice A f.f6.length c) f.f6).P w ok) :
  Calls Try.prog 11 #[.agg #[.int .i64 f.f0, .int .i64 f.f1, .bool f.f2, .string f.f3, .int .i64 f.f4.f0, .int .i64 f.f4.f1, .int .i64 f.f4.f2, .string f.f4.f3, .int .u64 f.f5, .slice A f.f6.length c]] w fun e w' => e = .returned (.tuple #[.string (encF f).1, .int .i64 (encF f).2]) ∧ Below w.heap.size w w' :=
 enc_go ok f A c w w (Kn.enter _ w (fun q hq => by simp only [List.mem_singleton] at hq; subst hq; exact g)) hl hz hn h5
set_option maxHeartbeats 8000000 in
theorem dec_go (ok : Nat → Prop) (s : ByteArray) (hs : s.size ≤ 100000) (w0 w : World) (S : Kn ok w0 [] nil tt [] w) :
  Calls Try.prog 17 #[.string s] w fun e w' => ∃ A c, e = .returned (.tuple #[.agg (cF (decF s).1 (.slice A (decF s).1.f6.length c)), .int .i64 (decF s).2]) ∧ (V kSe (.slice A (decF s).1.f6.length c) (decF s).1.f6).P w' (fun k => ok k ∨ w0.heap.size ≤ k) ∧ Below w0.heap.size w0 w' := by
 have HO := Aside0.mk (fun z => XCrc.open_calls s hs z)
 have hos := open_size s
 unfold decF
 rcases ho : openB s with ⟨t, e0⟩
 rw [ho] at HO hos
 dsimp only at HO hos ⊢
 have HR := Aside0.mk (fun z => read_calls t (by omega) z)
 clear ho hos hs
 by_cases c0 : e0 = 0
 rotate_left
 ·have c0b : (e0 != 0) = true := bne_iff_ne.mpr c0
  simp only [if_neg c0]
  clear HR c0
  go_enter Try.func17, Try.ntmps17
  go_upto_region 1 with (fail)
  generalize hg : World.alloc _ _ = w1
  replace S := S.new hg
  clear hg
  generalize w.heap.size = p2 at S ⊢
  replace S : Kn ok w0 [(p2, .cells #[.int .i64 0, .int .i64 0, .bool false, .string ⟨#[]⟩, .int .i64 0, .int .i64 0, .int .i64 0, .string ⟨#[]⟩, .int .u64 0, .slice none 0 0] TFr (0, 0))] nil tt [] w1 := S
  go_wp2_with fail
  refine (HO.out _).mono ?_
  rintro e w2 ⟨rfl, hb⟩
  replace S := S.below hb
  clear hb HO
  have r_0 : w2.cell? ⟨p2, 0, none⟩ = some (.int .i64 0) := S.cell 0 0 rfl rfl
  have zr_0 : w2.frozen? ⟨p2, 0, none⟩ = false := S.frozen 0 0 rfl
  have r_1 : w2.cell? ⟨p2, 1, none⟩ = some (.int .i64 0) := S.cell 0 1 rfl rfl
  have zr_1 : w2.frozen? ⟨p2, 1, none⟩ = false := S.frozen 0 1 rfl
  have r_2 : w2.cell? ⟨p2, 2, none⟩ = some (.bool false) := S.cell 0 2 rfl rfl
  have zr_2 : w2.frozen? ⟨p2, 2, none⟩ = false := S.frozen 0 2 rfl
  have r_3 : w2.cell? ⟨p2, 3, none⟩ = some (.string ⟨#[]⟩) := S.cell 0 3 rfl rfl
  have zr_3 : w2.frozen? ⟨p2, 3, none⟩ = false := S.frozen 0 3 rfl
  have r_4 : w2.cell? ⟨p2, 4, none⟩ = some (.int .i64 0) := S.cell 0 4 rfl rfl
  have zr_4 : w2.frozen? ⟨p2, 4, none⟩ = false := S.frozen 0 4 rfl
  have r_5 : w2.cell? ⟨p2, 5, none⟩ = some (.int .i64 0) := S.cell 0 5 rfl rfl
  have zr_5 : w2.frozen? ⟨p2, 5, none⟩ = false := S.frozen 0 5 rfl
  have r_6 : w2.cell? ⟨p2, 6, none⟩ = some (.int .i64 0) := S.cell 0 6 rfl rfl
  have zr_6 : w2.frozen? ⟨p2, 6, none⟩ = false := S.frozen 0 6 rfl
  have r_7 : w2.cell? ⟨p2, 7, none⟩ = some (.string ⟨#[]⟩) := S.cell 0 7 rfl rfl
  have zr_7 : w2.frozen? ⟨p2, 7, none⟩ = false := S.frozen 0 7 rfl
  have r_8 : w2.cell? ⟨p2, 8, none⟩ = some (.int .u64 0) := S.cell 0 8 rfl rfl
  have zr_8 : w2.frozen? ⟨p2, 8, none⟩ = false := S.frozen 0 8 rfl
  have r_9 : w2.cell? ⟨p2, 9, none⟩ = some (.slice none 0 0) := S.cell 0 9 rfl rfl
  have zr_9 : w2.frozen? ⟨p2, 9, none⟩ = false := S.frozen 0 9 rfl
  go_wp2
  clear r_0 zr_0 r_1 zr_1 r_2 zr_2 r_3 zr_3 r_4 zr_4 r_5 zr_5 r_6 zr_6 r_7 zr_7 r_8 zr_8 r_9 zr_9
  generalize hg : World.setCell w2 ⟨p2, 0, none⟩ _ = w3
  replace S := S.set 0 hg rfl
  clear hg
  generalize hg : World.setCell w3 ⟨p2, 1, none⟩ _ = w4
  replace S := S.set 0 hg rfl
  clear hg
  generalize hg : World.setCell w4 ⟨p2, 2, none⟩ _ = w5
  replace S := S.set 0 hg rfl
  clear hg
  replace S : Kn ok w0 [(p2, .cells #[.int .i64 0, .int .i64 0, .bool false, .string ⟨#[]⟩, .int .i64 0, .int .i64 0, .int .i64 0, .string ⟨#[]⟩, .int .u64 0, .slice none 0 0] TFr (0, 0))] nil tt [] w5 := S
  generalize hg : World.setCell w5 ⟨p2, 3, none⟩ _ = w6
  replace S := S.set 0 hg rfl
  clear hg
  generalize hg : World.setCell w6 ⟨p2, 4, none⟩ _ = w7
  replace S := S.set 0 hg rfl
  clear hg
  generalize hg : World.setCell w7 ⟨p2, 5, none⟩ _ = w8
  replace S := S.set 0 hg rfl
  clear hg
  replace S : Kn ok w0 [(p2, .cells #[.int .i64 0, .int .i64 0, .bool false, .string ⟨#[]⟩, .int .i64 0, .int .i64 0, .int .i64 0, .string ⟨#[]⟩, .int .u64 0, .slice none 0 0] TFr (0, 0))] nil tt [] w8 := S
  generalize hg : World.setCell w8 ⟨p2, 6, none⟩ _ = w9
  replace S := S.set 0 hg rfl
  clear hg
  generalize hg : World.setCell w9 ⟨p2, 7, none⟩ _ = w10
  replace S := S.set 0 hg rfl
  clear hg
  generalize hg : World.setCell w10 ⟨p2, 8, none⟩ _ = w11
  replace S := S.set 0 hg rfl
  clear hg
  replace S : Kn ok w0 [(p2, .cells #[.int .i64 0, .int .i64 0, .bool false, .string ⟨#[]⟩, .int .i64 0, .int .i64 0, .int .i64 0, .string ⟨#[]⟩, .int .u64 0, .slice none 0 0] TFr (0, 0))] nil tt [] w11 := S
  generalize hg : World.setCell w11 ⟨p2, 9, none⟩ _ = w12
  replace S := S.set 0 hg rfl
  clear hg
  replace S : Kn ok w0 [(p2, .cells #[.int .i64 0, .int .i64 0, .bool false, .string ⟨#[]⟩, .int .i64 0, .int .i64 0, .int .i64 0, .string ⟨#[]⟩, .int .u64 0, .slice none 0 0] TFr (0, 0))] nil tt [] w12 := S
  have b6 := S.get 0 rfl
  have hV := (V_any (Kd.V_nil kSe 0 _ 0 _) : (V kSe (.slice none 0 0) []).P w12 (fun k => ok k ∨ w0.heap.size ≤ k))
  have hBe := S.bel
  clear S
  refine bodyPost_ret (results_ct rfl _ _ p2 TFr #[.int .i64 0, .int .i64 0, .bool false, .string ⟨#[]⟩, .int .i64 0, .int .i64 0, .int .i64 0, .string ⟨#[]⟩, .int .u64 0, .slice none 0 0] (0, 0) _ rfl b6 Try.underlying27 rfl (by kernel_rfl)) rfl ?_
  exact ⟨none, 0, by first | rfl | trivial, hV, hBe⟩
 subst c0
 simp only [if_true]
 generalize readF t = rr at HR ⊢
 obtain ⟨g, gb⟩ := rr
 dsimp only at HR ⊢
 cases gb with
 | false =>
  simp only [Bool.false_eq_true, if_false]
  go_enter Try.func17, Try.ntmps17
  go_upto_region 1 with (fail)
  generalize hg : World.alloc _ _ = w1
  replace S := S.new hg
  clear hg
  generalize w.heap.size = p2 at S ⊢
  replace S : Kn ok w0 [(p2, .cells #[.int .i64 0, .int .i64 0, .bool false, .string ⟨#[]⟩, .int .i64 0, .int .i64 0, .int .i64 0, .string ⟨#[]⟩, .int .u64 0, .slice none 0 0] TFr (0, 0))] nil tt [] w1 := S
  go_wp2_with fail
  refine (HO.out _).mono ?_
  rintro e w2 ⟨rfl, hb⟩
  replace S := S.below hb
  clear hb HO
  go_wp2_with fail
  refine (HR.out _).mono ?_
  rintro e w3 ⟨A2, c2, rfl, hV, hb⟩
  replace S := S.call (f := (V kSe (.slice A2 g.f6.length c2) g.f6)) hb (Ft.mono _ hV (fun k hk => Or.inr hk))
  clear hb hV HR
  go_upto_region 5 with (fail)
  generalize hg : World.alloc _ _ = w4
  replace S := S.new hg
  clear hg
  generalize w3.heap.size = p6 at S ⊢
  replace S : Kn ok w0 [(p6, .cells #[.int .i64 g.f0, .int .i64 g.f1, .bool g.f2, .string g.f3, .int .i64 g.f4.f0, .int .i64 g.f4.f1, .int .i64 g.f4.f2, .string g.f4.f3, .int .u64 g.f5, .slice A2 g.f6.length c2] TFr (0, 0)), (p2, .cells #[.int .i64 0, .int .i64 0, .bool false, .string ⟨#[]⟩, .int .i64 0, .int .i64 0, .int .i64 0, .string ⟨#[]⟩, .int .u64 0, .slice none 0 0] TFr (0, 0))] nil tt [V kSe (.slice A2 g.f6.length c2) g.f6] w4 := S
  have r_0 : w4.cell? ⟨p2, 0, none⟩ = some (.int .i64 0) := S.cell 1 0 rfl rfl
  have zr_0 : w4.frozen? ⟨p2, 0, none⟩ = false := S.frozen 1 0 rfl
  have r_1 : w4.cell? ⟨p2, 1, none⟩ = some (.int .i64 0) := S.cell 1 1 rfl rfl
  have zr_1 : w4.frozen? ⟨p2, 1, none⟩ = false := S.frozen 1 1 rfl
  have r_2 : w4.cell? ⟨p2, 2, none⟩ = some (.bool false) := S.cell 1 2 rfl rfl
  have zr_2 : w4.frozen? ⟨p2, 2, none⟩ = false := S.frozen 1 2 rfl
  have r_3 : w4.cell? ⟨p2, 3, none⟩ = some (.string ⟨#[]⟩) := S.cell 1 3 rfl rfl
  have zr_3 : w4.frozen? ⟨p2, 3, none⟩ = false := S.frozen 1 3 rfl
  have r_4 : w4.cell? ⟨p2, 4, none⟩ = some (.int .i64 0) := S.cell 1 4 rfl rfl
  have zr_4 : w4.frozen? ⟨p2, 4, none⟩ = false := S.frozen 1 4 rfl
  have r_5 : w4.cell? ⟨p2, 5, none⟩ = some (.int .i64 0) := S.cell 1 5 rfl rfl
  have zr_5 : w4.frozen? ⟨p2, 5, none⟩ = false := S.frozen 1 5 rfl
  have r_6 : w4.cell? ⟨p2, 6, none⟩ = some (.int .i64 0) := S.cell 1 6 rfl rfl
  have zr_6 : w4.frozen? ⟨p2, 6, none⟩ = false := S.frozen 1 6 rfl
  have r_7 : w4.cell? ⟨p2, 7, none⟩ = some (.string ⟨#[]⟩) := S.cell 1 7 rfl rfl
  have zr_7 : w4.frozen? ⟨p2, 7, none⟩ = false := S.frozen 1 7 rfl
  have r_8 : w4.cell? ⟨p2, 8, none⟩ = some (.int .u64 0) := S.cell 1 8 rfl rfl
  have zr_8 : w4.frozen? ⟨p2, 8, none⟩ = false := S.frozen 1 8 rfl
  have r_9 : w4.cell? ⟨p2, 9, none⟩ = some (.slice none 0 0) := S.cell 1 9 rfl rfl
  have zr_9 : w4.frozen? ⟨p2, 9, none⟩ = false := S.frozen 1 9 rfl
  go_wp2
  clear r_0 zr_0 r_1 zr_1 r_2 zr_2 r_3 zr_3 r_4 zr_4 r_5 zr_5 r_6 zr_6 r_7 zr_7 r_8 zr_8 r_9 zr_9
  generalize hg : World.setCell w4 ⟨p2, 0, none⟩ _ = w5
  replace S := S.set 1 hg rfl
  clear hg
  generalize hg : World.setCell w5 ⟨p2, 1, none⟩ _ = w6
  replace S := S.set 1 hg rfl
  clear hg
  generalize hg : World.setCell w6 ⟨p2, 2, none⟩ _ = w7
  replace S := S.set 1 hg rfl
  clear hg
  replace S : Kn ok w0 [(p6, .cells #[.int .i64 g.f0, .int .i64 g.f1, .bool g.f2, .string g.f3, .int .i64 g.f4.f0, .int .i64 g.f4.f1, .int .i64 g.f4.f2, .string g.f4.f3, .int .u64 g.f5, .slice A2 g.f6.length c2] TFr (0, 0)), (p2, .cells #[.int .i64 0, .int .i64 0, .bool false, .string ⟨#[]⟩, .int .i64 0, .int .i64 0, .int .i64 0, .string ⟨#[]⟩, .int .u64 0, .slice none 0 0] TFr (0, 0))] nil tt [V kSe (.slice A2 g.f6.length c2) g.f6] w7 := S
  generalize hg : World.setCell w7 ⟨p2, 3, none⟩ _ = w8
  replace S := S.set 1 hg rfl
  clear hg
  generalize hg : World.setCell w8 ⟨p2, 4, none⟩ _ = w9
  replace S := S.set 1 hg rfl
  clear hg
  generalize hg : World.setCell w9 ⟨p2, 5, none⟩ _ = w10
  replace S := S.set 1 hg rfl
  clear hg
  replace S : Kn ok w0 [(p6, .cells #[.int .i64 g.f0, .int .i64 g.f1, .bool g.f2, .string g.f3, .int .i64 g.f4.f0, .int .i64 g.f4.f1, .int .i64 g.f4.f2, .string g.f4.f3, .int .u64 g.f5, .slice A2 g.f6.length c2] TFr (0, 0)), (p2, .cells #[.int .i64 0, .int .i64 0, .bool false, .string ⟨#[]⟩, .int .i64 0, .int .i64 0, .int .i64 0, .string ⟨#[]⟩, .int .u64 0, .slice none 0 0] TFr (0, 0))] nil tt [V kSe (.slice A2 g.f6.length c2) g.f6] w10 := S
  generalize hg : World.setCell w10 ⟨p2, 6, none⟩ _ = w11
  replace S := S.set 1 hg rfl
  clear hg
  generalize hg : World.setCell w11 ⟨p2, 7, none⟩ _ = w12
  replace S := S.set 1 hg rfl
  clear hg
  generalize hg : World.setCell w12 ⟨p2, 8, none⟩ _ = w13
  replace S := S.set 1 hg rfl
  clear hg
  replace S : Kn ok w0 [(p6, .cells #[.int .i64 g.f0, .int .i64 g.f1, .bool g.f2, .string g.f3, .int .i64 g.f4.f0, .int .i64 g.f4.f1, .int .i64 g.f4.f2, .string g.f4.f3, .int .u64 g.f5, .slice A2 g.f6.length c2] TFr (0, 0)), (p2, .cells #[.int .i64 0, .int .i64 0, .bool false, .string ⟨#[]⟩, .int .i64 0, .int .i64 0, .int .i64 0, .string ⟨#[]⟩, .int .u64 0, .slice none 0 0] TFr (0, 0))] nil tt [V kSe (.slice A2 g.f6.length c2) g.f6] w13 := S
  generalize hg : World.setCell w13 ⟨p2, 9, none⟩ _ = w14
  replace S := S.set 1 hg rfl
  clear hg
  replace S : Kn ok w0 [(p6, .cells #[.int .i64 g.f0, .int .i64 g.f1, .bool g.f2, .string g.f3, .int .i64 g.f4.f0, .int .i64 g.f4.f1, .int .i64 g.f4.f2, .string g.f4.f3, .int .u64 g.f5, .slice A2 g.f6.length c2] TFr (0, 0)), (p2, .cells #[.int .i64 0, .int .i64 0, .bool false, .string ⟨#[]⟩, .int .i64 0, .int .i64 0, .int .i64 0, .string ⟨#[]⟩, .int .u64 0, .slice none 0 0] TFr (0, 0))] nil tt [V kSe (.slice A2 g.f6.length c2) g.f6] w14 := S
  have b6 := S.get 1 rfl
  have hV := (V_any (Kd.V_nil kSe 0 _ 0 _) : (V kSe (.slice none 0 0) []).P w14 (fun k => ok k ∨ w0.heap.size ≤ k))
  have hBe := S.bel
  clear S
  refine bodyPost_ret (results_ct rfl _ _ p2 TFr #[.int .i64 0, .int .i64 0, .bool false, .string ⟨#[]⟩, .int .i64 0, .int .i64 0, .int .i64 0, .string ⟨#[]⟩, .int .u64 0, .slice none 0 0] (0, 0) _ rfl b6 Try.underlying27 rfl (by kernel_rfl)) rfl ?_
  exact ⟨none, 0, by first | rfl | trivial, hV, hBe⟩
 | true =>
  simp only [if_true]
  go_enter Try.func17, Try.ntmps17
  go_upto_region 1 with (fail)
  generalize hg : World.alloc _ _ = w1
  replace S := S.new hg
  clear hg
  generalize w.heap.size = p2 at S ⊢
  replace S : Kn ok w0 [(p2, .cells #[.int .i64 0, .int .i64 0, .bool false, .string ⟨#[]⟩, .int .i64 0, .int .i64 0, .int .i64 0, .string ⟨#[]⟩, .int .u64 0, .slice none 0 0] TFr (0, 0))] nil tt [] w1 := S
  go_wp2_with fail
  refine (HO.out _).mono ?_
  rintro e w2 ⟨rfl, hb⟩
  replace S := S.below hb
  clear hb HO
  go_wp2_with fail
  refine (HR.out _).mono ?_
  rintro e w3 ⟨A2, c2, rfl, hV, hb⟩
  replace S := S.call (f := (V kSe (.slice A2 g.f6.length c2) g.f6)) hb (Ft.mono _ hV (fun k hk => Or.inr hk))
  clear hb hV HR
  go_upto_region 5 with (fail)
  generalize hg : World.alloc _ _ = w4
  replace S := S.new hg
  clear hg
  generalize w3.heap.size = p6 at S ⊢
  replace S : Kn ok w0 [(p6, .cells #[.int .i64 g.f0, .int .i64 g.f1, .bool g.f2, .string g.f3, .int .i64 g.f4.f0, .int .i64 g.f4.f1, .int .i64 g.f4.f2, .string g.f4.f3, .int .u64 g.f5, .slice A2 g.f6.length c2] TFr (0, 0)), (p2, .cells #[.int .i64 0, .int .i64 0, .bool false, .string ⟨#[]⟩, .int .i64 0, .int .i64 0, .int .i64 0, .string ⟨#[]⟩, .int .u64 0, .slice none 0 0] TFr (0, 0))] nil tt [V kSe (.slice A2 g.f6.length c2) g.f6] w4 := S
  have g_0 : w4.cell? ⟨p6, 0, none⟩ = some (.int .i64 g.f0) := S.cell 0 0 rfl rfl
  have g_1 : w4.cell? ⟨p6, 1, none⟩ = some (.int .i64 g.f1) := S.cell 0 1 rfl rfl
  have g_2 : w4.cell? ⟨p6, 2, none⟩ = some (.bool g.f2) := S.cell 0 2 rfl rfl
  have g_3 : w4.cell? ⟨p6, 3, none⟩ = some (.string g.f3) := S.cell 0 3 rfl rfl
  have g_4 : w4.cell? ⟨p6, 4, none⟩ = some (.int .i64 g.f4.f0) := S.cell 0 4 rfl rfl
  have g_5 : w4.cell? ⟨p6, 5, none⟩ = some (.int .i64 g.f4.f1) := S.cell 0 5 rfl rfl
  have g_6 : w4.cell? ⟨p6, 6, none⟩ = some (.int .i64 g.f4.f2) := S.cell 0 6 rfl rfl
  have g_7 : w4.cell? ⟨p6, 7, none⟩ = some (.string g.f4.f3) := S.cell 0 7 rfl rfl
  have g_8 : w4.cell? ⟨p6, 8, none⟩ = some (.int .u64 g.f5) := S.cell 0 8 rfl rfl
  have g_9 : w4.cell? ⟨p6, 9, none⟩ = some (.slice A2 g.f6.length c2) := S.cell 0 9 rfl rfl
  have r_0 : w4.cell? ⟨p2, 0, none⟩ = some (.int .i64 0) := S.cell 1 0 rfl rfl
  have zr_0 : w4.frozen? ⟨p2, 0, none⟩ = false := S.frozen 1 0 rfl
  have r_1 : w4.cell? ⟨p2, 1, none⟩ = some (.int .i64 0) := S.cell 1 1 rfl rfl
  have zr_1 : w4.frozen? ⟨p2, 1, none⟩ = false := S.frozen 1 1 rfl
  have r_2 : w4.cell? ⟨p2, 2, none⟩ = some (.bool false) := S.cell 1 2 rfl rfl
  have zr_2 : w4.frozen? ⟨p2, 2, none⟩ = false := S.frozen 1 2 rfl
  have r_3 : w4.cell? ⟨p2, 3, none⟩ = some (.string ⟨#[]⟩) := S.cell 1 3 rfl rfl
  have zr_3 : w4.frozen? ⟨p2, 3, none⟩ = false := S.frozen 1 3 rfl
  have r_4 : w4.cell? ⟨p2, 4, none⟩ = some (.int .i64 0) := S.cell 1 4 rfl rfl
  have zr_4 : w4.frozen? ⟨p2, 4, none⟩ = false := S.frozen 1 4 rfl
  have r_5 : w4.cell? ⟨p2, 5, none⟩ = some (.int .i64 0) := S.cell 1 5 rfl rfl
  have zr_5 : w4.frozen? ⟨p2, 5, none⟩ = false := S.frozen 1 5 rfl
  have r_6 : w4.cell? ⟨p2, 6, none⟩ = some (.int .i64 0) := S.cell 1 6 rfl rfl
  have zr_6 : w4.frozen? ⟨p2, 6, none⟩ = false := S.frozen 1 6 rfl
  have r_7 : w4.cell? ⟨p2, 7, none⟩ = some (.string ⟨#[]⟩) := S.cell 1 7 rfl rfl
  have zr_7 : w4.frozen? ⟨p2, 7, none⟩ = false := S.frozen 1 7 rfl
  have r_8 : w4.cell? ⟨p2, 8, none⟩ = some (.int .u64 0) := S.cell 1 8 rfl rfl
  have zr_8 : w4.frozen? ⟨p2, 8, none⟩ = false := S.frozen 1 8 rfl
  have r_9 : w4.cell? ⟨p2, 9, none⟩ = some (.slice none 0 0) := S.cell 1 9 rfl rfl
  have zr_9 : w4.frozen? ⟨p2, 9, none⟩ = false := S.frozen 1 9 rfl
  go_wp2
  clear g_0 g_1 g_2 g_3 g_4 g_5 g_6 g_7 g_8 g_9 r_0 zr_0 r_1 zr_1 r_2 zr_2 r_3 zr_3 r_4 zr_4 r_5 zr_5 r_6 zr_6 r_7 zr_7 r_8 zr_8 r_9 zr_9
  generalize hg : World.setCell w4 ⟨p2, 0, none⟩ _ = w5
  replace S := S.set 1 hg rfl
  clear hg
  generalize hg : World.setCell w5 ⟨p2, 1, none⟩ _ = w6
  replace S := S.set 1 hg rfl
  clear hg
  generalize hg : World.setCell w6 ⟨p2, 2, none⟩ _ = w7
  replace S := S.set 1 hg rfl
  clear hg
  replace S : Kn ok w0 [(p6, .cells #[.int .i64 g.f0, .int .i64 g.f1, .bool g.f2, .string g.f3, .int .i64 g.f4.f0, .int .i64 g.f4.f1, .int .i64 g.f4.f2, .string g.f4.f3, .int .u64 g.f5, .slice A2 g.f6.length c2] TFr (0, 0)), (p2, .cells #[.int .i64 g.f0, .int .i64 g.f1, .bool g.f2, .string ⟨#[]⟩, .int .i64 0, .int .i64 0, .int .i64 0, .string ⟨#[]⟩, .int .u64 0, .slice none 0 0] TFr (0, 0))] nil tt [V kSe (.slice A2 g.f6.length c2) g.f6] w7 := S
  generalize hg : World.setCell w7 ⟨p2, 3, none⟩ _ = w8
  replace S := S.set 1 hg rfl
  clear hg
  generalize hg : World.setCell w8 ⟨p2, 4, none⟩ _ = w9
  replace S := S.set 1 hg rfl
  clear hg
  generalize hg : World.setCell w9 ⟨p2, 5, none⟩ _ = w10
  replace S := S.set 1 hg rfl
  clear hg
  replace S : Kn ok w0 [(p6, .cells #[.int .i64 g.f0, .int .i64 g.f1, .bool g.f2, .string g.f3, .int .i64 g.f4.f0, .int .i64 g.f4.f1, .int .i64 g.f4.f2, .string g.f4.f3, .int .u64 g.f5, .slice A2 g.f6.length c2] TFr (0, 0)), (p2, .cells #[.int .i64 g.f0, .int .i64 g.f1, .bool g.f2, .string g.f3, .int .i64 g.f4.f0, .int .i64 g.f4.f1, .int .i64 0, .string ⟨#[]⟩, .int .u64 0, .slice none 0 0] TFr (0, 0))] nil tt [V kSe (.slice A2 g.f6.length c2) g.f6] w10 := S
  generalize hg : World.setCell w10 ⟨p2, 6, none⟩ _ = w11
  replace S := S.set 1 hg rfl
  clear hg
  generalize hg : World.setCell w11 ⟨p2, 7, none⟩ _ = w12
  replace S := S.set 1 hg rfl
  clear hg
  generalize hg : World.setCell w12 ⟨p2, 8, none⟩ _ = w13
  replace S := S.set 1 hg rfl
  clear hg
  replace S : Kn ok w0 [(p6, .cells #[.int .i64 g.f0, .int .i64 g.f1, .bool g.f2, .string g.f3, .int .i64 g.f4.f0, .int .i64 g.f4.f1, .int .i64 g.f4.f2, .string g.f4.f3, .int .u64 g.f5, .slice A2 g.f6.length c2] TFr (0, 0)), (p2, .cells #[.int .i64 g.f0, .int .i64 g.f1, .bool g.f2, .string g.f3, .int .i64 g.f4.f0, .int .i64 g.f4.f1, .int .i64 g.f4.f2, .string g.f4.f3, .int .u64 g.f5, .slice none 0 0] TFr (0, 0))] nil tt [V kSe (.slice A2 g.f6.length c2) g.f6] w13 := S
  generalize hg : World.setCell w13 ⟨p2, 9, none⟩ _ = w14
  replace S := S.set 1 hg rfl
  clear hg
  replace S : Kn ok w0 [(p6, .cells #[.int .i64 g.f0, .int .i64 g.f1, .bool g.f2, .string g.f3, .int .i64 g.f4.f0, .int .i64 g.f4.f1, .int .i64 g.f4.f2, .string g.f4.f3, .int .u64 g.f5, .slice A2 g.f6.length c2] TFr (0, 0)), (p2, .cells #[.int .i64 g.f0, .int .i64 g.f1, .bool g.f2, .string g.f3, .int .i64 g.f4.f0, .int .i64 g.f4.f1, .int .i64 g.f4.f2, .string g.f4.f3, .int .u64 g.f5, .slice A2 g.f6.length c2] TFr (0, 0))] nil tt [V kSe (.slice A2 g.f6.length c2) g.f6] w14 := S
  have b6 := S.get 1 rfl
  have hV := S.out 0 rfl
  have hBe := S.bel
  clear S
  refine bodyPost_ret (results_ct rfl _ _ p2 TFr #[.int .i64 g.f0, .int .i64 g.f1, .bool g.f2, .string g.f3, .int .i64 g.f4.f0, .int .i64 g.f4.f1, .int .i64 g.f4.f2, .string g.f4.f3, .int .u64 g.f5, .slice A2 g.f6.length c2] (0, 0) _ rfl b6 Try.underlying27 rfl (by kernel_rfl)) rfl ?_
  exact ⟨A2, c2, by first | rfl | trivial, hV, hBe⟩
theorem dec_calls (s : ByteArray) (hs : s.size ≤ 100000) (w : World) : Calls Try.prog 17 #[.string s] w fun e w' => ∃ A c, e = .returned (.tuple #[.agg (cF (decF s).1 (.slice A (decF s).1.f6.length c)), .int .i64 (decF s).2]) ∧ (V kSe (.slice A (decF s).1.f6.length c) (decF s).1.f6).P w' (fun k => w.heap.size ≤ k) ∧ Below w.heap.size w w' := by
 refine (dec_go (fun _ => False) s hs w w (Kn.start _ w)).mono ?_
 rintro e w' ⟨A, c, rfl, hV, hb⟩
 exact ⟨A, c, rfl, Ft.mono _ hV (fun k hk => hk.resolve_left id), hb⟩
end Go.Proofs.Ytjccgdnnnlgeeaa.XFr
end

section
/- law06's live, walked. -/
namespace Go.Proofs.Ytjccgdnnnlgeeaa.XKn
open Go.RowKit Go.Proofs.YtjccgdnnnlgeeaaW.PrintWords Go.Proofs.YtjccgdnnnlgeeaaW.PrintLast Go.Proofs.YtjccgdnnnlgeeaaW.PrintMore Go.Proofs.Ytjccgdnnnlgeeaa.PA Go.Proofs.Ytjccgdnnnlgeeaa.XMem Go.Proofs.Ytjccgdnnnlgeeaa.XSt
set_option linter.unusedVariables false
set_option linter.unusedSimpArgs false
theorem rollcallref02_Seal.kn {w : World} (k : Nat) {a0 : ByteArray} {r : ByteArray} (h : rollcallref02_Seal.f k a0 = some r)  :
  Calls Try.prog 19 #[.string a0] w fun e w' => e = .returned (.string r) ∧ Below w.heap.size w w' := by
 refine (rollcallref02_Seal.calls k a0 r w h).mono ?_
 rintro e w' ⟨y0, y1⟩
 exact ⟨y0, y1⟩
theorem rollcallref06_Few.kn {w : World} (k : Nat) {a0_0 : Int} {a0_1 : Int} {a0_2 : Bool} {a0_3 : ByteArray} {a0_4 : Int} {a0_5 : Int} {a0_6 : Int} {a0_7 : ByteArray} {a0_8 : Int} {A0_9 : Option Addr} {c0_9 : Nat} {l0_9 : List (S52)} {r : Bool} (h : rollcallref06_Few.f k a0_0 a0_1 a0_2 a0_3 a0_4 a0_5 a0_6 a0_7 a0_8 l0_9 = some r) {Q1_ : Nat → Prop} (g1 : (V k52 (.slice A0_9 l0_9.length c0_9) l0_9).P w Q1_) :
  Calls Try.prog 9 #[.agg #[.int .i64 a0_0, .int .i64 a0_1, .bool a0_2, .string a0_3, .int .i64 a0_4, .int .i64 a0_5, .int .i64 a0_6, .string a0_7, .int .u64 a0_8, .slice A0_9 l0_9.length c0_9]] w fun e w' => e = .returned (.bool r) ∧ Below w.heap.size w w' := by
 refine (rollcallref06_Few.calls k a0_0 a0_1 a0_2 a0_3 a0_4 a0_5 a0_6 a0_7 a0_8 A0_9 c0_9 l0_9 r w (Kd.V_reads' (e := 0) (base := 0) g1).2.2 (Kd.V_reads' (e := 0) (base := 0) g1).2.1 h).mono ?_
 rintro e w' ⟨y0, y1⟩
 exact ⟨y0, y1⟩
end Go.Proofs.Ytjccgdnnnlgeeaa.XKn
namespace Go.Proofs.Ytjccgdnnnlgeeaa.XFr
open Go.RowKit Go.Proofs.YtjccgdnnnlgeeaaW.PrintWords Go.Proofs.YtjccgdnnnlgeeaaW.PrintLast Go.Proofs.YtjccgdnnnlgeeaaW.PrintMore Go.Proofs.Ytjccgdnnnlgeeaa.PA Go.Proofs.Ytjccgdnnnlgeeaa.XMem Go.Proofs.Ytjccgdnnnlgeeaa.XSt Go.Proofs.Ytjccgdnnnlgeeaa.XQuiet Go.Proofs.Ytjccgdnnnlgeeaa.XKn
open Go.Proofs.Ytjccgdnnnlgeeaa.XSum (Se kSe)
open Go.Proofs.Ytjccgdnnnlgeeaa.XCrc (sealB openB)
set_option linter.unusedVariables false
set_option linter.unusedSimpArgs false
set_option maxRecDepth 100000
abbrev sAnn : ByteArray := ⟨#[97, 110, 110]⟩
abbrev s0 : ByteArray := ⟨#[]⟩
abbrev f1 : Fr := ⟨1, 300, true, sAnn, ⟨4, 0, 5, s0⟩, 0, []⟩
abbrev f2 : Fr := ⟨4, 5, false, s0, zv, 0, []⟩
abbrev f3 : Fr := ⟨4, 0, true, s0, zv, 0, []⟩
abbrev B1 : ByteArray := ⟨#[1, 172, 2, 1, 3, 97, 110, 110, 4, 128, 5, 0]⟩
abbrev B2 : ByteArray := ⟨#[4, 5]⟩
abbrev B3 : ByteArray := ⟨#[5, 0]⟩
theorem may1 : mayF f1 = true := by kernel_rfl
theorem may2 : mayF f2 = true := by kernel_rfl
theorem may3 : mayF f3 = false := by kernel_rfl
theorem mayz : mayF zF = false := by kernel_rfl
theorem plain1 : plainF f1 = B1 := by kernel_rfl
theorem plain2 : plainF f2 = B2 := by kernel_rfl
theorem enc1 : encF f1 = (sealB B1, 0) := by unfold encF; rw [if_pos may1, plain1]
theorem enc2 : encF f2 = (sealB B2, 0) := by unfold encF; rw [if_pos may2, plain2]
theorem enc3 : encF f3 = (⟨#[]⟩, 1) := by unfold encF; rw [if_neg (by rw [may3]; decide)]
theorem dec1 : decF (sealB B1) = (f1, 0) := by rw [← plain1]; exact dec_enc may1 ⟨by decide, by decide⟩
theorem dec2 : decF ⟨#[97, 98, 99]⟩ = (zF, 2) := by kernel_rfl
theorem open3 : openB ⟨#[97, 98, 99, 100, 101, 102]⟩ = (⟨#[]⟩, 4) := by kernel_rfl
theorem dec3 : decF ⟨#[97, 98, 99, 100, 101, 102]⟩ = (zF, 4) := by unfold decF; rw [open3]; rfl
theorem read4 : readF B3 = (zF, false) := by kernel_rfl
theorem dec4 : decF (sealB B3) = (zF, 3) := by unfold decF; rw [open_seal]; simp only; rw [read4]; rfl
theorem same11 : sameArgs frame_Same.f 10 f1 f1 = some true := by kernel_rfl
theorem same1z : sameArgs frame_Same.f 10 f1 zF = some false := by kernel_rfl
theorem nilV (w : World) : (V kSe (.slice none 0 0) []).P w (fun _ => True) := V_any (Kd.V_nil kSe 0 w 0 _)
attribute [local go_sem high] eqA23

theorem E1 (w : World)  : Calls Try.prog 11 #[.agg #[.int .i64 1, .int .i64 300, .bool true, .string sAnn, .int .i64 4, .int .i64 0, .int .i64 5, .string s0, .int .u64 0, .slice none 0 0]] w fun e w' => e = .returned (.tuple #[.string (sealB B1), .int .i64 0]) ∧ Below w.heap.size w w' := by
 have h := enc_kn (f := f1) (A := none) (c := 0) (by decide) (fun x hx => (nomatch hx)) (by decide) ⟨by decide, by decide⟩ (nilV w)
 rw [enc1] at h
 exact h
theorem E2 (w : World)  : Calls Try.prog 11 #[.agg #[.int .i64 4, .int .i64 5, .bool false, .string s0, .int .i64 0, .int .i64 0, .int .i64 0, .string s0, .int .u64 0, .slice none 0 0]] w fun e w' => e = .returned (.tuple #[.string (sealB B2), .int .i64 0]) ∧ Below w.heap.size w w' := by
 have h := enc_kn (f := f2) (A := none) (c := 0) (by decide) (fun x hx => (nomatch hx)) (by decide) ⟨by decide, by decide⟩ (nilV w)
 rw [enc2] at h
 exact h
theorem E3 (w : World)  : Calls Try.prog 11 #[.agg #[.int .i64 4, .int .i64 0, .bool true, .string s0, .int .i64 0, .int .i64 0, .int .i64 0, .string s0, .int .u64 0, .slice none 0 0]] w fun e w' => e = .returned (.tuple #[.string ⟨#[]⟩, .int .i64 1]) ∧ Below w.heap.size w w' := by
 have h := enc_kn (f := f3) (A := none) (c := 0) (by decide) (fun x hx => (nomatch hx)) (by decide) ⟨by decide, by decide⟩ (nilV w)
 rw [enc3] at h
 exact h
theorem D1 (w : World)  : Calls Try.prog 17 #[.string (sealB B1)] w fun e w' => ∃ A c, e = .returned (.tuple #[.agg #[.int .i64 1, .int .i64 300, .bool true, .string sAnn, .int .i64 4, .int .i64 0, .int .i64 5, .string s0, .int .u64 0, .slice A 0 c], .int .i64 0]) ∧ (V kSe (.slice A 0 c) []).P w' (fun k => w.heap.size ≤ k) ∧ Below w.heap.size w w' := by
 have h := dec_calls (sealB B1) (by rw [sealB_size]; decide) w
 rw [dec1] at h
 exact h
theorem D2 (w : World)  : Calls Try.prog 17 #[.string ⟨#[97, 98, 99]⟩] w fun e w' => ∃ A c, e = .returned (.tuple #[.agg #[.int .i64 0, .int .i64 0, .bool false, .string s0, .int .i64 0, .int .i64 0, .int .i64 0, .string s0, .int .u64 0, .slice A 0 c], .int .i64 2]) ∧ (V kSe (.slice A 0 c) []).P w' (fun k => w.heap.size ≤ k) ∧ Below w.heap.size w w' := by
 have h := dec_calls ⟨#[97, 98, 99]⟩ (by decide) w
 rw [dec2] at h
 exact h
theorem D3 (w : World)  : Calls Try.prog 17 #[.string ⟨#[97, 98, 99, 100, 101, 102]⟩] w fun e w' => ∃ A c, e = .returned (.tuple #[.agg #[.int .i64 0, .int .i64 0, .bool false, .string s0, .int .i64 0, .int .i64 0, .int .i64 0, .string s0, .int .u64 0, .slice A 0 c], .int .i64 4]) ∧ (V kSe (.slice A 0 c) []).P w' (fun k => w.heap.size ≤ k) ∧ Below w.heap.size w w' := by
 have h := dec_calls ⟨#[97, 98, 99, 100, 101, 102]⟩ (by decide) w
 rw [dec3] at h
 exact h
theorem D4 (w : World)  : Calls Try.prog 17 #[.string (sealB B3)] w fun e w' => ∃ A c, e = .returned (.tuple #[.agg #[.int .i64 0, .int .i64 0, .bool false, .string s0, .int .i64 0, .int .i64 0, .int .i64 0, .string s0, .int .u64 0, .slice A 0 c], .int .i64 3]) ∧ (V kSe (.slice A 0 c) []).P w' (fun k => w.heap.size ≤ k) ∧ Below w.heap.size w w' := by
 have h := dec_calls (sealB B3) (by rw [sealB_size]; decide) w
 rw [dec4] at h
 exact h
theorem M1 (w : World) {A : Option Addr} {c : Nat} (g : (V kSe (.slice A 0 c) []).P w (fun _ => True)) : Calls Try.prog 13 #[.agg #[.int .i64 1, .int .i64 300, .bool true, .string sAnn, .int .i64 4, .int .i64 0, .int .i64 5, .string s0, .int .u64 0, .slice A 0 c]] w fun e w' => e = .returned (.bool true) ∧ Below w.heap.size w w' := by
 have h := may_kn (f := f1) (A := A) (c := c) (by decide) (fun x hx => (nomatch hx)) (by decide) ⟨by decide, by decide⟩ g
 rw [may1] at h
 exact h
theorem Mz (w : World)  : Calls Try.prog 13 #[.agg #[.int .i64 0, .int .i64 0, .bool false, .string s0, .int .i64 0, .int .i64 0, .int .i64 0, .string s0, .int .u64 0, .slice none 0 0]] w fun e w' => e = .returned (.bool false) ∧ Below w.heap.size w w' := by
 have h := may_kn (f := zF) (A := none) (c := 0) (by decide) (fun x hx => (nomatch hx)) (by decide) ⟨by decide, by decide⟩ (nilV w)
 rw [mayz] at h
 exact h
theorem S1 (w : World) {A : Option Addr} {c : Nat} (g : (V kSe (.slice A 0 c) []).P w (fun _ => True)) : Calls Try.prog 15 #[.agg #[.int .i64 1, .int .i64 300, .bool true, .string sAnn, .int .i64 4, .int .i64 0, .int .i64 5, .string s0, .int .u64 0, .slice A 0 c], .agg #[.int .i64 1, .int .i64 300, .bool true, .string sAnn, .int .i64 4, .int .i64 0, .int .i64 5, .string s0, .int .u64 0, .slice A 0 c]] w fun e w' => e = .returned (.bool true) ∧ Below w.heap.size w w' := by
 have h := frame_Same.kn (l0_9 := []) (l1_9 := []) 10 same11 g g
 exact h
theorem Sz (w : World) {A : Option Addr} {c : Nat} (g : (V kSe (.slice A 0 c) []).P w (fun _ => True)) : Calls Try.prog 15 #[.agg #[.int .i64 1, .int .i64 300, .bool true, .string sAnn, .int .i64 4, .int .i64 0, .int .i64 5, .string s0, .int .u64 0, .slice A 0 c], .agg #[.int .i64 0, .int .i64 0, .bool false, .string s0, .int .i64 0, .int .i64 0, .int .i64 0, .string s0, .int .u64 0, .slice none 0 0]] w fun e w' => e = .returned (.bool false) ∧ Below w.heap.size w w' := by
 have h := frame_Same.kn (l0_9 := []) (l1_9 := []) 10 same1z g (nilV w)
 exact h
theorem L1 (w : World)  : Calls Try.prog 19 #[.string B1] w fun e w' => e = .returned (.string (sealB B1)) ∧ Below w.heap.size w w' := by
 exact rollcallref02_Seal.kn 200 (refSeal_b 200 B1 (by decide) (by decide))
theorem L2 (w : World)  : Calls Try.prog 19 #[.string B2] w fun e w' => e = .returned (.string (sealB B2)) ∧ Below w.heap.size w w' := by
 exact rollcallref02_Seal.kn 200 (refSeal_b 200 B2 (by decide) (by decide))
theorem L3 (w : World)  : Calls Try.prog 19 #[.string B3] w fun e w' => e = .returned (.string (sealB B3)) ∧ Below w.heap.size w w' := by
 exact rollcallref02_Seal.kn 200 (refSeal_b 200 B3 (by decide) (by decide))
set_option maxHeartbeats 8000000 in
theorem live_go (ok : Nat → Prop) (w0 w : World) (S : Kn ok w0 [] nil tt [] w) : Calls Try.prog 10 #[] w fun e w' => e = .returned (.bool true) ∧ Below w0.heap.size w0 w' := by
 have HE1 := Aside0.mk E1
 have HE2 := Aside0.mk E2
 have HE3 := Aside0.mk E3
 have HD1 := Aside0.mk D1
 have HD2 := Aside0.mk D2
 have HD3 := Aside0.mk D3
 have HD4 := Aside0.mk D4
 have HMz := Aside0.mk Mz
 have HL1 := Aside0.mk L1
 have HL2 := Aside0.mk L2
 have HL3 := Aside0.mk L3
 have HM1 := Aside0.mk @M1
 have HS1 := Aside0.mk @S1
 have HSz := Aside0.mk @Sz
 generalize sealB B1 = q1 at *
 generalize sealB B2 = q2 at *
 generalize sealB B3 = q3 at *
 have e1 : (q1.toList == q1.toList) = true := by simp
 have e2 : (q2.toList == q2.toList) = true := by simp
 have e3 : (sAnn.toList == sAnn.toList) = true := by simp
 have e4 : (s0.toList == s0.toList) = true := by simp
 go_enter Try.func10, Try.ntmps10
 go_upto_region 2 with (fail)
 generalize hg : World.alloc _ _ = w1
 replace S := S.new hg
 clear hg
 generalize w.heap.size = p1 at S ⊢
 replace S : Kn ok w0 [(p1, .cells #[.int .i64 4, .int .i64 0, .int .i64 5, .string s0] 23 (0, 0))] nil tt [] w1 := S
 have v_0 : w1.cell? ⟨p1, 0, none⟩ = some (.int .i64 4) := S.cell 0 0 rfl rfl
 have v_1 : w1.cell? ⟨p1, 1, none⟩ = some (.int .i64 0) := S.cell 0 1 rfl rfl
 have v_2 : w1.cell? ⟨p1, 2, none⟩ = some (.int .i64 5) := S.cell 0 2 rfl rfl
 have v_3 : w1.cell? ⟨p1, 3, none⟩ = some (.string s0) := S.cell 0 3 rfl rfl
 go_wp2_with fail
 refine (HE1.out _).mono ?_
 rintro e w2 ⟨rfl, hb⟩
 replace S := S.below hb
 clear v_0 v_1 v_2 v_3 hb HE1
 go_wp2_with fail
 refine (HD1.out _).mono ?_
 rintro e w3 ⟨A1, c1, rfl, hV, hb⟩
 replace S := S.call (f := (V kSe (.slice A1 0 c1) [])) hb (Ft.mono _ hV (fun k hk => Or.inr hk))
 clear hb hV HD1
 go_upto_region 4 with (fail)
 generalize hg : World.alloc _ _ = w4
 replace S := S.new hg
 clear hg
 generalize w3.heap.size = p4 at S ⊢
 replace S : Kn ok w0 [(p4, .cells #[.int .i64 1, .int .i64 300, .bool true, .string sAnn, .int .i64 4, .int .i64 0, .int .i64 5, .string s0, .int .u64 0, .slice A1 0 c1] TFr (0, 0)), (p1, .cells #[.int .i64 4, .int .i64 0, .int .i64 5, .string s0] 23 (0, 0))] nil tt [V kSe (.slice A1 0 c1) []] w4 := S
 go_wp2_with fail
 refine (HE2.out _).mono ?_
 rintro e w5 ⟨rfl, hb⟩
 replace S := S.below hb
 clear hb HE2
 go_wp2_with fail
 refine (HE3.out _).mono ?_
 rintro e w6 ⟨rfl, hb⟩
 replace S := S.below hb
 clear hb HE3
 go_wp2_with fail
 refine (HD2.out _).mono ?_
 rintro e w7 ⟨A2, c2, rfl, hV, hb⟩
 replace S := S.call (f := (V kSe (.slice A2 0 c2) [])) hb (Ft.mono _ hV (fun k hk => Or.inr hk))
 clear hb hV HD2
 go_upto_region 7 with (fail)
 generalize hg : World.alloc _ _ = w8
 replace S := S.new hg
 clear hg
 generalize w7.heap.size = p10 at S ⊢
 replace S : Kn ok w0 [(p10, .cells #[.int .i64 0, .int .i64 0, .bool false, .string s0, .int .i64 0, .int .i64 0, .int .i64 0, .string s0, .int .u64 0, .slice A2 0 c2] TFr (0, 0)), (p4, .cells #[.int .i64 1, .int .i64 300, .bool true, .string sAnn, .int .i64 4, .int .i64 0, .int .i64 5, .string s0, .int .u64 0, .slice A1 0 c1] TFr (0, 0)), (p1, .cells #[.int .i64 4, .int .i64 0, .int .i64 5, .string s0] 23 (0, 0))] nil tt [V kSe (.slice A2 0 c2) [], V kSe (.slice A1 0 c1) []] w8 := S
 go_wp2_with fail
 refine (HD3.out _).mono ?_
 rintro e w9 ⟨A3, c3, rfl, hV, hb⟩
 replace S := S.call (f := (V kSe (.slice A3 0 c3) [])) hb (Ft.mono _ hV (fun k hk => Or.inr hk))
 clear hb hV HD3
 go_upto_region 8 with (fail)
 generalize hg : World.alloc _ _ = w10
 replace S := S.new hg
 clear hg
 generalize w9.heap.size = p12 at S ⊢
 replace S : Kn ok w0 [(p12, .cells #[.int .i64 0, .int .i64 0, .bool false, .string s0, .int .i64 0, .int .i64 0, .int .i64 0, .string s0, .int .u64 0, .slice A3 0 c3] TFr (0, 0)), (p10, .cells #[.int .i64 0, .int .i64 0, .bool false, .string s0, .int .i64 0, .int .i64 0, .int .i64 0, .string s0, .int .u64 0, .slice A2 0 c2] TFr (0, 0)), (p4, .cells #[.int .i64 1, .int .i64 300, .bool true, .string sAnn, .int .i64 4, .int .i64 0, .int .i64 5, .string s0, .int .u64 0, .slice A1 0 c1] TFr (0, 0)), (p1, .cells #[.int .i64 4, .int .i64 0, .int .i64 5, .string s0] 23 (0, 0))] nil tt [V kSe (.slice A3 0 c3) [], V kSe (.slice A2 0 c2) [], V kSe (.slice A1 0 c1) []] w10 := S
 go_wp2_with fail
 refine (HL3.out _).mono ?_
 rintro e w11 ⟨rfl, hb⟩
 replace S := S.below hb
 clear hb HL3
 go_wp2_with fail
 refine (HD4.out _).mono ?_
 rintro e w12 ⟨A4, c4, rfl, hV, hb⟩
 replace S := S.call (f := (V kSe (.slice A4 0 c4) [])) hb (Ft.mono _ hV (fun k hk => Or.inr hk))
 clear hb hV HD4
 go_upto_region 9 with (fail)
 generalize hg : World.alloc _ _ = w13
 replace S := S.new hg
 clear hg
 generalize w12.heap.size = p14 at S ⊢
 replace S : Kn ok w0 [(p14, .cells #[.int .i64 0, .int .i64 0, .bool false, .string s0, .int .i64 0, .int .i64 0, .int .i64 0, .string s0, .int .u64 0, .slice A4 0 c4] TFr (0, 0)), (p12, .cells #[.int .i64 0, .int .i64 0, .bool false, .string s0, .int .i64 0, .int .i64 0, .int .i64 0, .string s0, .int .u64 0, .slice A3 0 c3] TFr (0, 0)), (p10, .cells #[.int .i64 0, .int .i64 0, .bool false, .string s0, .int .i64 0, .int .i64 0, .int .i64 0, .string s0, .int .u64 0, .slice A2 0 c2] TFr (0, 0)), (p4, .cells #[.int .i64 1, .int .i64 300, .bool true, .string sAnn, .int .i64 4, .int .i64 0, .int .i64 5, .string s0, .int .u64 0, .slice A1 0 c1] TFr (0, 0)), (p1, .cells #[.int .i64 4, .int .i64 0, .int .i64 5, .string s0] 23 (0, 0))] nil tt [V kSe (.slice A4 0 c4) [], V kSe (.slice A3 0 c3) [], V kSe (.slice A2 0 c2) [], V kSe (.slice A1 0 c1) []] w13 := S
 have f_0 : w13.cell? ⟨p4, 0, none⟩ = some (.int .i64 1) := S.cell 3 0 rfl rfl
 have f_1 : w13.cell? ⟨p4, 1, none⟩ = some (.int .i64 300) := S.cell 3 1 rfl rfl
 have f_2 : w13.cell? ⟨p4, 2, none⟩ = some (.bool true) := S.cell 3 2 rfl rfl
 have f_3 : w13.cell? ⟨p4, 3, none⟩ = some (.string sAnn) := S.cell 3 3 rfl rfl
 have f_4 : w13.cell? ⟨p4, 4, none⟩ = some (.int .i64 4) := S.cell 3 4 rfl rfl
 have f_5 : w13.cell? ⟨p4, 5, none⟩ = some (.int .i64 0) := S.cell 3 5 rfl rfl
 have f_6 : w13.cell? ⟨p4, 6, none⟩ = some (.int .i64 5) := S.cell 3 6 rfl rfl
 have f_7 : w13.cell? ⟨p4, 7, none⟩ = some (.string s0) := S.cell 3 7 rfl rfl
 have f_8 : w13.cell? ⟨p4, 8, none⟩ = some (.int .u64 0) := S.cell 3 8 rfl rfl
 have f_9 : w13.cell? ⟨p4, 9, none⟩ = some (.slice A1 0 c1) := S.cell 3 9 rfl rfl
 have v_0 : w13.cell? ⟨p1, 0, none⟩ = some (.int .i64 4) := S.cell 4 0 rfl rfl
 have v_1 : w13.cell? ⟨p1, 1, none⟩ = some (.int .i64 0) := S.cell 4 1 rfl rfl
 have v_2 : w13.cell? ⟨p1, 2, none⟩ = some (.int .i64 5) := S.cell 4 2 rfl rfl
 have v_3 : w13.cell? ⟨p1, 3, none⟩ = some (.string s0) := S.cell 4 3 rfl rfl
 go_wp2_with fail
 refine (HL1.out _).mono ?_
 rintro e w14 ⟨rfl, hb⟩
 replace S := S.below hb
 clear f_0 f_1 f_2 f_3 f_4 f_5 f_6 f_7 f_8 f_9 v_0 v_1 v_2 v_3 hb
 have f_0 : w14.cell? ⟨p4, 0, none⟩ = some (.int .i64 1) := S.cell 3 0 rfl rfl
 have f_1 : w14.cell? ⟨p4, 1, none⟩ = some (.int .i64 300) := S.cell 3 1 rfl rfl
 have f_2 : w14.cell? ⟨p4, 2, none⟩ = some (.bool true) := S.cell 3 2 rfl rfl
 have f_3 : w14.cell? ⟨p4, 3, none⟩ = some (.string sAnn) := S.cell 3 3 rfl rfl
 have f_4 : w14.cell? ⟨p4, 4, none⟩ = some (.int .i64 4) := S.cell 3 4 rfl rfl
 have f_5 : w14.cell? ⟨p4, 5, none⟩ = some (.int .i64 0) := S.cell 3 5 rfl rfl
 have f_6 : w14.cell? ⟨p4, 6, none⟩ = some (.int .i64 5) := S.cell 3 6 rfl rfl
 have f_7 : w14.cell? ⟨p4, 7, none⟩ = some (.string s0) := S.cell 3 7 rfl rfl
 have f_8 : w14.cell? ⟨p4, 8, none⟩ = some (.int .u64 0) := S.cell 3 8 rfl rfl
 have f_9 : w14.cell? ⟨p4, 9, none⟩ = some (.slice A1 0 c1) := S.cell 3 9 rfl rfl
 have v_0 : w14.cell? ⟨p1, 0, none⟩ = some (.int .i64 4) := S.cell 4 0 rfl rfl
 have v_1 : w14.cell? ⟨p1, 1, none⟩ = some (.int .i64 0) := S.cell 4 1 rfl rfl
 have v_2 : w14.cell? ⟨p1, 2, none⟩ = some (.int .i64 5) := S.cell 4 2 rfl rfl
 have v_3 : w14.cell? ⟨p1, 3, none⟩ = some (.string s0) := S.cell 4 3 rfl rfl
 go_wp2_with fail
 refine (HL2.out _).mono ?_
 rintro e w15 ⟨rfl, hb⟩
 replace S := S.below hb
 clear f_0 f_1 f_2 f_3 f_4 f_5 f_6 f_7 f_8 f_9 v_0 v_1 v_2 v_3 hb
 have f_0 : w15.cell? ⟨p4, 0, none⟩ = some (.int .i64 1) := S.cell 3 0 rfl rfl
 have f_1 : w15.cell? ⟨p4, 1, none⟩ = some (.int .i64 300) := S.cell 3 1 rfl rfl
 have f_2 : w15.cell? ⟨p4, 2, none⟩ = some (.bool true) := S.cell 3 2 rfl rfl
 have f_3 : w15.cell? ⟨p4, 3, none⟩ = some (.string sAnn) := S.cell 3 3 rfl rfl
 have f_4 : w15.cell? ⟨p4, 4, none⟩ = some (.int .i64 4) := S.cell 3 4 rfl rfl
 have f_5 : w15.cell? ⟨p4, 5, none⟩ = some (.int .i64 0) := S.cell 3 5 rfl rfl
 have f_6 : w15.cell? ⟨p4, 6, none⟩ = some (.int .i64 5) := S.cell 3 6 rfl rfl
 have f_7 : w15.cell? ⟨p4, 7, none⟩ = some (.string s0) := S.cell 3 7 rfl rfl
 have f_8 : w15.cell? ⟨p4, 8, none⟩ = some (.int .u64 0) := S.cell 3 8 rfl rfl
 have f_9 : w15.cell? ⟨p4, 9, none⟩ = some (.slice A1 0 c1) := S.cell 3 9 rfl rfl
 have v_0 : w15.cell? ⟨p1, 0, none⟩ = some (.int .i64 4) := S.cell 4 0 rfl rfl
 have v_1 : w15.cell? ⟨p1, 1, none⟩ = some (.int .i64 0) := S.cell 4 1 rfl rfl
 have v_2 : w15.cell? ⟨p1, 2, none⟩ = some (.int .i64 5) := S.cell 4 2 rfl rfl
 have v_3 : w15.cell? ⟨p1, 3, none⟩ = some (.string s0) := S.cell 4 3 rfl rfl
 go_wp2_with fail
 refine (HM1.out _ (Ft.all (S.ft 3 rfl))).mono ?_
 rintro e w16 ⟨rfl, hb⟩
 replace S := S.below hb
 clear f_0 f_1 f_2 f_3 f_4 f_5 f_6 f_7 f_8 f_9 v_0 v_1 v_2 v_3 hb
 have f_0 : w16.cell? ⟨p4, 0, none⟩ = some (.int .i64 1) := S.cell 3 0 rfl rfl
 have f_1 : w16.cell? ⟨p4, 1, none⟩ = some (.int .i64 300) := S.cell 3 1 rfl rfl
 have f_2 : w16.cell? ⟨p4, 2, none⟩ = some (.bool true) := S.cell 3 2 rfl rfl
 have f_3 : w16.cell? ⟨p4, 3, none⟩ = some (.string sAnn) := S.cell 3 3 rfl rfl
 have f_4 : w16.cell? ⟨p4, 4, none⟩ = some (.int .i64 4) := S.cell 3 4 rfl rfl
 have f_5 : w16.cell? ⟨p4, 5, none⟩ = some (.int .i64 0) := S.cell 3 5 rfl rfl
 have f_6 : w16.cell? ⟨p4, 6, none⟩ = some (.int .i64 5) := S.cell 3 6 rfl rfl
 have f_7 : w16.cell? ⟨p4, 7, none⟩ = some (.string s0) := S.cell 3 7 rfl rfl
 have f_8 : w16.cell? ⟨p4, 8, none⟩ = some (.int .u64 0) := S.cell 3 8 rfl rfl
 have f_9 : w16.cell? ⟨p4, 9, none⟩ = some (.slice A1 0 c1) := S.cell 3 9 rfl rfl
 have v_0 : w16.cell? ⟨p1, 0, none⟩ = some (.int .i64 4) := S.cell 4 0 rfl rfl
 have v_1 : w16.cell? ⟨p1, 1, none⟩ = some (.int .i64 0) := S.cell 4 1 rfl rfl
 have v_2 : w16.cell? ⟨p1, 2, none⟩ = some (.int .i64 5) := S.cell 4 2 rfl rfl
 have v_3 : w16.cell? ⟨p1, 3, none⟩ = some (.string s0) := S.cell 4 3 rfl rfl
 go_wp2_with fail
 refine (HMz.out _).mono ?_
 rintro e w17 ⟨rfl, hb⟩
 replace S := S.below hb
 clear f_0 f_1 f_2 f_3 f_4 f_5 f_6 f_7 f_8 f_9 v_0 v_1 v_2 v_3 hb
 have f_0 : w17.cell? ⟨p4, 0, none⟩ = some (.int .i64 1) := S.cell 3 0 rfl rfl
 have f_1 : w17.cell? ⟨p4, 1, none⟩ = some (.int .i64 300) := S.cell 3 1 rfl rfl
 have f_2 : w17.cell? ⟨p4, 2, none⟩ = some (.bool true) := S.cell 3 2 rfl rfl
 have f_3 : w17.cell? ⟨p4, 3, none⟩ = some (.string sAnn) := S.cell 3 3 rfl rfl
 have f_4 : w17.cell? ⟨p4, 4, none⟩ = some (.int .i64 4) := S.cell 3 4 rfl rfl
 have f_5 : w17.cell? ⟨p4, 5, none⟩ = some (.int .i64 0) := S.cell 3 5 rfl rfl
 have f_6 : w17.cell? ⟨p4, 6, none⟩ = some (.int .i64 5) := S.cell 3 6 rfl rfl
 have f_7 : w17.cell? ⟨p4, 7, none⟩ = some (.string s0) := S.cell 3 7 rfl rfl
 have f_8 : w17.cell? ⟨p4, 8, none⟩ = some (.int .u64 0) := S.cell 3 8 rfl rfl
 have f_9 : w17.cell? ⟨p4, 9, none⟩ = some (.slice A1 0 c1) := S.cell 3 9 rfl rfl
 have v_0 : w17.cell? ⟨p1, 0, none⟩ = some (.int .i64 4) := S.cell 4 0 rfl rfl
 have v_1 : w17.cell? ⟨p1, 1, none⟩ = some (.int .i64 0) := S.cell 4 1 rfl rfl
 have v_2 : w17.cell? ⟨p1, 2, none⟩ = some (.int .i64 5) := S.cell 4 2 rfl rfl
 have v_3 : w17.cell? ⟨p1, 3, none⟩ = some (.string s0) := S.cell 4 3 rfl rfl
 go_wp2_with fail
 refine (HS1.out _ (Ft.all (S.ft 3 rfl))).mono ?_
 rintro e w18 ⟨rfl, hb⟩
 replace S := S.below hb
 clear f_0 f_1 f_2 f_3 f_4 f_5 f_6 f_7 f_8 f_9 v_0 v_1 v_2 v_3 hb
 have f_0 : w18.cell? ⟨p4, 0, none⟩ = some (.int .i64 1) := S.cell 3 0 rfl rfl
 have f_1 : w18.cell? ⟨p4, 1, none⟩ = some (.int .i64 300) := S.cell 3 1 rfl rfl
 have f_2 : w18.cell? ⟨p4, 2, none⟩ = some (.bool true) := S.cell 3 2 rfl rfl
 have f_3 : w18.cell? ⟨p4, 3, none⟩ = some (.string sAnn) := S.cell 3 3 rfl rfl
 have f_4 : w18.cell? ⟨p4, 4, none⟩ = some (.int .i64 4) := S.cell 3 4 rfl rfl
 have f_5 : w18.cell? ⟨p4, 5, none⟩ = some (.int .i64 0) := S.cell 3 5 rfl rfl
 have f_6 : w18.cell? ⟨p4, 6, none⟩ = some (.int .i64 5) := S.cell 3 6 rfl rfl
 have f_7 : w18.cell? ⟨p4, 7, none⟩ = some (.string s0) := S.cell 3 7 rfl rfl
 have f_8 : w18.cell? ⟨p4, 8, none⟩ = some (.int .u64 0) := S.cell 3 8 rfl rfl
 have f_9 : w18.cell? ⟨p4, 9, none⟩ = some (.slice A1 0 c1) := S.cell 3 9 rfl rfl
 have v_0 : w18.cell? ⟨p1, 0, none⟩ = some (.int .i64 4) := S.cell 4 0 rfl rfl
 have v_1 : w18.cell? ⟨p1, 1, none⟩ = some (.int .i64 0) := S.cell 4 1 rfl rfl
 have v_2 : w18.cell? ⟨p1, 2, none⟩ = some (.int .i64 5) := S.cell 4 2 rfl rfl
 have v_3 : w18.cell? ⟨p1, 3, none⟩ = some (.string s0) := S.cell 4 3 rfl rfl
 go_wp2_with fail
 refine (HSz.out _ (Ft.all (S.ft 3 rfl))).mono ?_
 rintro e w19 ⟨rfl, hb⟩
 replace S := S.below hb
 clear f_0 f_1 f_2 f_3 f_4 f_5 f_6 f_7 f_8 f_9 v_0 v_1 v_2 v_3 hb
 go_wp2
 go_ret
 exact ⟨rfl, S.bel⟩
theorem live_walk (w : World) : Calls Try.prog 10 #[] w fun e w' => e = .returned (.bool true) ∧ Below w.heap.size w w' := live_go (fun _ => True) w w (Kn.start _ w)
end Go.Proofs.Ytjccgdnnnlgeeaa.XFr
end

section
/- What came in and reads as data is of its kind: a law's arguments of whatever type (numbers, bools, texts, slices, structs, arrays of these, one in the other), opened by their kinds. -/

namespace Go.Proofs.Ytjccgdnnnlgeeaa.XOpen
open Go.RowKit Go.ChangeShapes Go.WideShapes Go.Deep Go.Proofs.YtjccgdnnnlgeeaaW.PrintWords Go.Proofs.YtjccgdnnnlgeeaaW.PrintLast Go.Proofs.YtjccgdnnnlgeeaaW.PrintMore
set_option linter.unusedVariables false
set_option linter.unusedSimpArgs false

/-- Whatever reads as data at type t is of kind d, and within its bounds. -/
def Opens (P : Program) (t : TypeId) {α : Type} (d : Kd α) (Ok : α → Prop) : Prop :=
 ∀ {H : Type} (enc : TypeId × Value → H) (w : World) (base : Nat) (spare : Nat → Bool) (held : Bool) (fuel : Nat) (cs : List Value) (x : DataW H × List MemPlace),
  DataW.trod enc P w base spare held fuel t cs = some x → ∃ a, d.K w a cs ∧ Ok a
/-- The same of a struct's fields (an array's elements), one behind the other. -/
def OpensL (P : Program) (ts : List TypeId) {α : Type} (d : Kd α) (Ok : α → Prop) : Prop :=
 ∀ {H : Type} (enc : TypeId × Value → H) (w : World) (base : Nat) (spare : Nat → Bool) (held : Bool) (fuel : Nat) (css : List (List Value)),
  css.length = ts.length → (∀ (j : Nat) (t : TypeId) (cs : List Value), ts[j]? = some t → css[j]? = some cs → ∃ x : DataW H × List MemPlace, DataW.trod enc P w base spare held fuel t cs = some x) → ∃ a, d.K w a css.flatten ∧ Ok a
section
variable {P : Program} {t e : TypeId}
theorem Opens.int {k : IntKind} (ht : P.underlying t = some (.int k)) : Opens P t (Kd.int k) (fun n => (Lit.int k n).wf = true) := by
 intro H enc w base spare held fuel cs x h
 obtain ⟨n, rfl, _, hw⟩ := DataW.trod_int ht h
 exact ⟨n, rfl, hw⟩
theorem Opens.bool (ht : P.underlying t = some .bool) : Opens P t Kd.bool (fun _ => True) := by
 intro H enc w base spare held fuel cs x h
 obtain ⟨n, rfl, _⟩ := DataW.trod_bool ht h
 exact ⟨n, rfl, trivial⟩
theorem Opens.string (ht : P.underlying t = some .string) : Opens P t Kd.string (fun s => s.size ≤ maxLen) := by
 intro H enc w base spare held fuel cs x h
 obtain ⟨s, rfl, _, hw⟩ := DataW.trod_string ht h
 exact ⟨s, rfl, hw⟩
theorem Opens.slice {α : Type} {d : Kd α} {Ok : α → Prop} (ht : P.underlying t = some (.slice e)) (hc : P.cellsOf e = d.sz) (z : α) (hd : Opens P e d Ok) : Opens P t (Kd.slice e d) (fun l => l.length ≤ maxLen ∧ ∀ a ∈ l, Ok a) := by
 intro H enc w base spare held fuel cs x h
 rcases open_slice ht h with ⟨rfl, _⟩ | ⟨a, len, cap, m, n, D, Pl, rfl, hb, hl, hm, hmm, _, hx⟩
 ·exact ⟨[], ⟨none, 0, rfl, Nat.le_refl _, ⟨rfl, Nat.zero_le _, fun h => absurd h (Nat.lt_irrefl _)⟩⟩, Nat.zero_le _, fun a ha => by cases ha⟩
 ·have hlm : len ≤ m := by rw [hmm]; split <;> omega
  have : Inhabited α := ⟨z⟩
  obtain ⟨f, hf⟩ := choose_lt (α := α) (n := len) (p := fun i a' => ∃ cs', w.cells? base (a.add (i * d.sz)) d.sz = some cs' ∧ d.K w a' cs' ∧ Ok a') (fun i hi => by
   obtain ⟨cs', h1, h2⟩ := hx i (by omega)
   obtain ⟨a', h3, h4⟩ := hd enc w base spare held n cs' _ h2
   rw [hc] at h1
   exact ⟨a', cs', h1, h3, h4⟩)
  refine ⟨(List.range len).map f, ⟨some a, cap, by simp, by simpa using hl, ?_⟩, by simp; omega, ?_⟩
  ·refine ⟨by simp, by simp; unfold maxLen at hm; omega, fun _ => ⟨a, rfl, fun j p hj => ?_⟩⟩
   have hjl : j < len := by
    have := (List.getElem?_eq_some_iff.1 hj).1
    simpa using this
   have hp : f j = p := by simpa [List.getElem?_map, hjl] using hj
   subst hp
   obtain ⟨cs', h1, h2, _⟩ := hf j hjl
   obtain ⟨_, h3, h4⟩ := World.cells?_some h1
   refine ⟨cs', h3, h2, fun i u hi => ?_⟩
   have hil : i < d.sz := by rw [← h3]; exact (List.getElem?_eq_some_iff.1 hi).1
   rw [← Go.Deep.add_add, h4 i hil, hi]
  ·intro b hb'
   obtain ⟨j, hj, rfl⟩ := List.mem_map.1 hb'
   obtain ⟨_, _, _, h⟩ := hf j (by simpa using hj)
   exact h
theorem OpensL.one {α : Type} {d : Kd α} {Ok : α → Prop} (h : Opens P t d Ok) : OpensL P [t] d Ok := by
 intro H enc w base spare held fuel css hl hx
 match css, hl with
 | [cs], _ =>
  obtain ⟨x, h1⟩ := hx 0 t cs rfl rfl
  obtain ⟨a, h2⟩ := h enc w base spare held fuel cs x h1
  exact ⟨a, by simpa using h2⟩
theorem OpensL.cons {ts : List TypeId} {α β : Type} {d : Kd α} {Ok : α → Prop} {d2 : Kd β} {Ok2 : β → Prop} (h : Opens P t d Ok) (h2 : OpensL P ts d2 Ok2) : OpensL P (t :: ts) (Kd.pair d d2) (fun x => Ok x.1 ∧ Ok2 x.2) := by
 intro H enc w base spare held fuel css hl hx
 match css, hl with
 | cs :: css, hl =>
  obtain ⟨x, h1⟩ := hx 0 t cs rfl rfl
  obtain ⟨a, h3, h4⟩ := h enc w base spare held fuel cs x h1
  obtain ⟨b, h5, h6⟩ := h2 enc w base spare held fuel css (by simpa using hl) (fun j t' cs' hj hj' => hx (j + 1) t' cs' (by simpa using hj) (by simpa using hj'))
  exact ⟨(a, b), ⟨cs, css.flatten, rfl, h3, h5⟩, h4, h6⟩
theorem Opens.iso {α β : Type} {d : Kd α} {Ok : α → Prop} (h : Opens P t d Ok) (f : β → α) (g : α → β) (hfg : ∀ a, f (g a) = a) : Opens P t (Kd.iso d f) (fun b => Ok (f b)) := by
 intro H enc w base spare held fuel cs x hx
 obtain ⟨a, h1, h2⟩ := h enc w base spare held fuel cs x hx
 exact ⟨g a, by show d.K w (f (g a)) cs; rw [hfg]; exact h1, by show Ok (f (g a)); rw [hfg]; exact h2⟩
/-- Cells, cut at the fields. -/
def cuts (cs : List Value) : List Nat → List (List Value)
 | [] => []
 | n :: ns => cs.take n :: cuts (cs.drop n) ns
theorem cuts_len : ∀ (cs : List Value) (ns : List Nat), (cuts cs ns).length = ns.length
 | _, [] => rfl
 | cs, n :: ns => by simp [cuts, cuts_len]
theorem cuts_flat : ∀ (cs : List Value) (ns : List Nat), cs.length = ns.sum → (cuts cs ns).flatten = cs
 | cs, [], h => by
  have : cs = [] := List.length_eq_zero_iff.1 (by simpa using h)
  simp [cuts, this]
 | cs, n :: ns, h => by
  simp only [List.sum_cons] at h
  simp only [cuts, List.flatten_cons]
  rw [cuts_flat (cs.drop n) ns (by rw [List.length_drop]; omega), List.take_append_drop]
theorem cuts_get : ∀ (cs : List Value) (ns : List Nat) (j : Nat) (n : Nat), ns[j]? = some n → (cuts cs ns)[j]? = some ((cs.drop (ns.take j).sum).take n)
 | _, [], _, _, h => by simp at h
 | cs, m :: ns, 0, n, h => by
  have : m = n := by simpa using h
  subst this
  simp [cuts]
 | cs, m :: ns, j + 1, n, h => by
  have := cuts_get (cs.drop m) ns j n (by simpa using h)
  simp only [cuts, List.getElem?_cons_succ, this, List.take_succ_cons, List.sum_cons, List.drop_drop]
theorem Opens.struct {α : Type} {d : Kd α} {Ok : α → Prop} {fs : Array Field} (ts : List TypeId) (ns : List Nat) (ht : P.underlying t = some (.struct fs)) (hts : fs.toList.map (·.type) = ts) (hns : ts.map P.cellsOf = ns) (hof : fs.toList.map (·.offset) = (List.range ns.length).map fun j => (ns.take j).sum) (hC : P.cellsOf t = ns.sum) (h : OpensL P ts d Ok) : Opens P t d Ok := by
 intro H enc w base spare held fuel cs x hx
 obtain ⟨xs, n, _, _, hl, hxs, hf⟩ := DataW.trod_struct ht hx
 have hlen : ts.length = fs.size := by rw [← hts]; simp
 have hlen2 : ns.length = ts.length := by rw [← hns]; simp
 obtain ⟨a, h1, h2⟩ := h enc w base spare held n (cuts cs ns) (by rw [cuts_len, hlen2]) (fun j t' cs' hj hj' => by
  have hjt : j < ts.length := (List.getElem?_eq_some_iff.1 hj).1
  have hjf : fs[j]? = some (fs[j]'(by omega)) := Array.getElem?_eq_getElem (by omega)
  have e1 : (fs[j]'(by omega)).type = t' := by
   have : (fs.toList.map (·.type))[j]? = some t' := by rw [hts]; exact hj
   simpa [List.getElem?_map, hjf] using this
  have e2 : ns[j]? = some (P.cellsOf t') := by rw [← hns, List.getElem?_map, hj]; rfl
  have e3 : (fs[j]'(by omega)).offset = (ns.take j).sum := by
   have : (fs.toList.map (·.offset))[j]? = ((List.range ns.length).map fun j => (ns.take j).sum)[j]? := by rw [hof]
   simpa [List.getElem?_map, hjf, show j < ns.length by omega] using this
  have h3 := hf j _ hjf
  rw [e1, e3] at h3
  rw [cuts_get cs ns j _ e2] at hj'
  injection hj' with hj'
  rw [hj'] at h3
  exact ⟨xs[j]'(by omega), by rw [h3]; exact List.getElem?_eq_getElem (by omega)⟩)
 rw [cuts_flat cs ns (by rw [hl, hC])] at h1
 exact ⟨a, h1, h2⟩
theorem Opens.array {α : Type} {d : Kd α} {Ok : α → Prop} {n : Nat} (m : Nat) (ht : P.underlying t = some (.array n e)) (hc : P.cellsOf e = m) (hC : P.cellsOf t = (List.replicate n m).sum) (h : OpensL P (List.replicate n e) d Ok) : Opens P t d Ok := by
 intro H enc w base spare held fuel cs x hx
 obtain ⟨xs, f, _, _, hl, hxs, hf⟩ := DataW.trod_array ht hx
 obtain ⟨a, h1, h2⟩ := h enc w base spare held f (cuts cs (List.replicate n m)) (by rw [cuts_len]; simp) (fun j t' cs' hj hj' => by
  have hjn : j < n := by
   have := (List.getElem?_eq_some_iff.1 hj).1
   simpa using this
  have e1 : e = t' := by simpa [hjn] using hj
  subst e1
  have h3 := hf j hjn
  rw [hc] at h3
  rw [cuts_get cs _ j m (by simp [hjn])] at hj'
  have e2 : ((List.replicate n m).take j).sum = j * m := by
   rw [List.take_replicate, List.sum_replicate_nat, Nat.min_eq_left (by omega)]
  rw [e2] at hj'
  injection hj' with hj'
  rw [hj'] at h3
  exact ⟨xs[j]'(by omega), by rw [h3]; exact List.getElem?_eq_getElem (by omega)⟩)
 rw [cuts_flat cs _ (by rw [hl, hC])] at h1
 exact ⟨a, h1, h2⟩
theorem okWide_agg {w : World} {r : Reach} {base : Nat} {v : Value} {n : Nat} (ht : P.underlying t = some (.array n e)) (h : Value.okWide P w r base t v) : ∃ cs, v = .agg cs ∧ cs.size = P.cellsOf t := by
 simp only [Value.okWide, ht] at h
 obtain ⟨cs, h1, h2, _⟩ := h
 exact ⟨cs, h1, h2⟩
end
end Go.Proofs.Ytjccgdnnnlgeeaa.XOpen
end

section
-- PRINTED BY print.sh 35421559b90ae4d0a3588c463048766b98c2df88dd9212a6774a882060cdf62d: not written by this session
-- PRINTED WORDS (module Derived/Print/Sized.lean): go-gate-2's, for the rows of laws over slices: an AI agent of Go's test side, Tue Nov 17 2026; no person has read it. Lean checks it.
namespace Go.Proofs.YtjccgdnnnlgeeaaW.PrintWords
open Go.ChangeShapes Go.WideShapes
end Go.Proofs.YtjccgdnnnlgeeaaW.PrintWords
end

section
/- Bytes that are spoilt: what is opened of them; a written slice of which one byte is set. -/
namespace Go.Proofs.Ytjccgdnnnlgeeaa.XCrc
open Go.RowKit Go.Proofs.YtjccgdnnnlgeeaaW.PrintWords Go.Proofs.YtjccgdnnnlgeeaaW.PrintLast Go.Proofs.YtjccgdnnnlgeeaaW.PrintMore Go.Proofs.Ytjccgdnnnlgeeaa.XMem Go.Proofs.Ytjccgdnnnlgeeaa.PA
set_option linter.unusedVariables false
set_option linter.unusedSimpArgs false
theorem u8_xor (a b : Nat) (ha : a < 256) (hb : b < 256) : Go.bits .xor .u8 (a : Int) (b : Int) = ((a ^^^ b : Nat) : Int) := by
 have ha' : a % 2 ^ IntKind.u8.bits = a := Nat.mod_eq_of_lt ha
 have hb' : b % 2 ^ IntKind.u8.bits = b := Nat.mod_eq_of_lt hb
 simp only [bits, BitVec.ofInt_natCast, BitVec.toNat_xor, BitVec.toNat_ofNat, ha', hb']
 have := Nat.xor_lt_two_pow (n := 8) ha hb
 rw [IntKind.wrap_u8]
 omega
theorem Buf.set {B : Nat} {w : World} {b cap n : Nat} {l : List Int} (h : Buf B w (.slice (some ⟨b, 0, none⟩) n cap) l) (i : Nat) (hi : i < l.length) (x : Int) : Buf B (w.setCell ⟨b, i, none⟩ (.int .u8 x)) (.slice (some ⟨b, 0, none⟩) n cap) (l.set i x) := by
 obtain ⟨b', cap', e, h1, h2, h3, h4, h5⟩ := h
 simp only [Value.slice.injEq, Option.some.injEq, Addr.mk.injEq, and_true] at e
 obtain ⟨rfl, rfl, rfl⟩ := e
 refine ⟨b, cap, by rw [List.length_set], h1, by simpa [World.setCell] using h2, by rw [List.length_set]; exact h3, fun j hj => ?_, fun j hj => ?_⟩
 ·rw [World.frozen?_setCell]
  refine ⟨?_, (h4 j hj).2⟩
  by_cases e : j = i
  ·subst e
   rw [World.cell?_setCell_same _ _ _ (h5 j hi)]
   rfl
  ·rw [World.cell?_setCell_other _ _ _ _ (fun h => e (by injection h with _ h; exact h.symm))]
   exact (h4 j hj).1
 ·rw [List.length_set] at hj
  by_cases e : j = i
  ·subst e
   rw [World.cell?_setCell_same _ _ _ (h5 j hi), List.getElem_set_self]
  ·rw [World.cell?_setCell_other _ _ _ _ (fun h => e (by injection h with _ h; exact h.symm)), h5 j hj, List.getElem_set_ne (Ne.symm e)]
theorem Buf.get {B : Nat} {w : World} {b cap n : Nat} {l : List Int} (h : Buf B w (.slice (some ⟨b, 0, none⟩) n cap) l) (i : Nat) (hi : i < l.length) : w.cell? ⟨b, i, none⟩ = some (.int .u8 (l.getD i 0)) ∧ w.frozen? ⟨b, i, none⟩ = false := by
 obtain ⟨b', cap', e, h1, h2, h3, h4, h5⟩ := h
 simp only [Value.slice.injEq, Option.some.injEq, Addr.mk.injEq, and_true] at e
 obtain ⟨rfl, rfl, rfl⟩ := e
 refine ⟨?_, (h4 i (by omega)).2⟩
 rw [h5 i hi, List.getD_eq_getElem?_getD, List.getElem?_eq_getElem hi]
 rfl
theorem wf_u8n {a : Int} (h : (Lit.int .u8 a).wf = true) : ∃ n : Nat, a = (n : Int) ∧ n < 256 := by
 have h2 := XBytes.wf_u8 h
 exact ⟨a.toNat, by omega, by omega⟩
/-- Some bytes changed, one behind the other. -/
def spo (l : List Nat) (n : Nat) (ms : List Nat) : Nat → List Nat
 | 0 => l
 | k + 1 => (spo l n ms k).set (n + k) ((spo l n ms k).getD (n + k) 0 ^^^ ms.getD k 0)
theorem spo_len (l : List Nat) (n : Nat) (ms : List Nat) (k : Nat) : (spo l n ms k).length = l.length := by
 induction k with
 | zero => rfl
 | succ k ih => rw [spo, List.length_set, ih]
theorem spo_get (l : List Nat) (n : Nat) (ms : List Nat) (k : Nat) (i : Nat) (hk : n + k ≤ l.length) : (spo l n ms k).getD i 0 = if n ≤ i ∧ i < n + k then l.getD i 0 ^^^ ms.getD (i - n) 0 else l.getD i 0 := by
 induction k with
 | zero => rw [if_neg (by omega)]; rfl
 | succ k ih =>
  have hl := spo_len l n ms k
  have ihk := ih (by omega)
  rw [spo]
  by_cases e : i = n + k
  ·subst e
   rw [if_neg (by omega)] at ihk
   rw [List.getD_eq_getElem?_getD, List.getElem?_set_self (by omega), Option.getD_some, if_pos (by omega), ihk, Nat.add_sub_cancel_left]
  ·rw [List.getD_eq_getElem?_getD, List.getElem?_set_ne (Ne.symm e), ← List.getD_eq_getElem?_getD, ihk]
   by_cases c : n ≤ i ∧ i < n + k
   ·rw [if_pos c, if_pos (by omega)]
   ·rw [if_neg c, if_neg (by omega)]
theorem ext_getD {a b : List Nat} (hl : a.length = b.length) (h : ∀ i, i < a.length → a.getD i 0 = b.getD i 0) : a = b := by
 refine List.ext_getElem hl (fun i h1 h2 => ?_)
 have := h i h1
 rw [getD_lt _ _ _ h1, getD_lt _ _ _ h2] at this
 exact this
theorem spo_lt (l : List Nat) (n : Nat) (ms : List Nat) (k : Nat) (hl : ∀ b ∈ l, b < 256) (hm : ∀ b ∈ ms, b < 256) : ∀ b ∈ spo l n ms k, b < 256 := by
 have hg : ∀ (a : List Nat) (i : Nat), (∀ b ∈ a, b < 256) → a.getD i 0 < 256 := fun a i h => by
  by_cases c : i < a.length
  ·rw [getD_lt _ _ _ c]; exact h _ (List.getElem_mem c)
  ·rw [List.getD_eq_getElem?_getD, List.getElem?_eq_none (by omega)]; decide
 induction k with
 | zero => exact hl
 | succ k ih =>
  intro b hb
  rw [spo] at hb
  rcases List.mem_or_eq_of_mem_set hb with hb | rfl
  ·exact ih b hb
  ·exact Nat.xor_lt_two_pow (n := 8) (hg _ _ ih) (hg _ _ hm)
/-- Whether one of the first masks changes its byte. -/
def chg (ms : List Nat) : Nat → Bool
 | 0 => false
 | k + 1 => chg ms k || ms.getD k 0 != 0
theorem chg_no {ms : List Nat} : ∀ {k : Nat}, chg ms k = false → ∀ j, j < k → ms.getD j 0 = 0
 | 0, _, j, hj => by omega
 | k + 1, h, j, hj => by
  rw [chg, Bool.or_eq_false_iff, bne_eq_false_iff_eq] at h
  by_cases e : j = k
  ·rw [e]; exact h.2
  ·exact chg_no h.1 j (by omega)
theorem chg_yes {ms : List Nat} : ∀ {k : Nat}, chg ms k = true → ∃ j, j < k ∧ ms.getD j 0 ≠ 0
 | 0, h => by cases h
 | k + 1, h => by
  rw [chg, Bool.or_eq_true, bne_iff_ne] at h
  rcases h with h | h
  ·obtain ⟨j, h1, h2⟩ := chg_yes h; exact ⟨j, by omega, h2⟩
  ·exact ⟨k, by omega, h⟩
theorem spo_no {l : List Nat} {n k : Nat} {ms : List Nat} (hk : n + k ≤ l.length) (h : chg ms k = false) : spo l n ms k = l := by
 refine ext_getD (spo_len l n ms k) (fun i hi => ?_)
 rw [spo_get l n ms k i hk]
 split
 ·rename_i c
  rw [chg_no h _ (by omega), Nat.xor_zero]
 ·rfl
theorem spo_yes {l : List Nat} {n k : Nat} {ms : List Nat} (hk : n + k ≤ l.length) (h : chg ms k = true) : spo l n ms k ≠ l := by
 intro e
 obtain ⟨j, hj, hm⟩ := chg_yes h
 have := spo_get l n ms k (n + j) hk
 rw [e, if_pos (by omega), Nat.add_sub_cancel_left] at this
 have h0 : l.getD (n + j) 0 ^^^ 0 = l.getD (n + j) 0 ^^^ ms.getD j 0 := by rw [Nat.xor_zero]; exact this
 exact hm (xor_left_inj h0).symm
theorem spo_mid {l : List Nat} {n k : Nat} {ms : List Nat} (hk : n + k ≤ l.length) : ∃ m, m.length = k ∧ spo l n ms k = l.take n ++ m ++ l.drop (n + k) := by
 have hl := spo_len l n ms k
 refine ⟨((spo l n ms k).drop n).take k, by rw [List.length_take, List.length_drop]; omega, ?_⟩
 have e1 : (spo l n ms k).take n = l.take n := by
  refine ext_getD (by rw [List.length_take, List.length_take]; omega) (fun i hi => ?_)
  rw [List.length_take] at hi
  have := spo_get l n ms k i hk
  rw [if_neg (by omega)] at this
  simp only [List.getD_eq_getElem?_getD] at this ⊢
  rw [List.getElem?_take_of_lt (by omega), List.getElem?_take_of_lt (by omega)]
  exact this
 have e2 : (spo l n ms k).drop (n + k) = l.drop (n + k) := by
  refine ext_getD (by rw [List.length_drop, List.length_drop]; omega) (fun i hi => ?_)
  have := spo_get l n ms k (n + k + i) hk
  rw [if_neg (by omega)] at this
  simp only [List.getD_eq_getElem?_getD] at this ⊢
  rw [List.getElem?_drop, List.getElem?_drop]
  exact this
 rw [← e1, ← e2, List.append_assoc, ← List.drop_drop, List.take_append_drop, List.take_append_drop]
theorem nats_str (l : List Nat) (h : ∀ b ∈ l, b < 256) : nats (strOfNums (l.map (fun n : Nat => (n : Int)))) = l := by
 unfold nats strOfNums
 simp only [List.map_map]
 conv => rhs; rw [← List.map_id l]
 apply List.map_congr_left
 intro b hb
 have := h b hb
 simp only [Function.comp, Int.toNat_natCast, id]
 rw [UInt8.toNat_ofNat']
 exact Nat.mod_eq_of_lt (by omega)
theorem str_nats (s : ByteArray) : strOfNums ((nats s).map (fun n : Nat => (n : Int))) = s := by rw [← bytes_nats, bytes_back]
theorem nats_app (a b : ByteArray) : nats (a ++ b) = nats a ++ nats b := by
 unfold nats
 rw [XBytes.app_data]
 simp
theorem nats_seal (s : ByteArray) : nats (sealB s) = seal_ (nats s) := by
 unfold sealB seal_
 rw [nats_app]
 congr 1
 have h : strOfNums (sumBytes s) = strOfNums ((le (sum (nats s))).map (fun n : Nat => (n : Int))) := by
  unfold sumBytes le
  simp
 rw [h, nats_str _ (le_lt _)]
/-- What is sealed, and then spoilt, is not opened. -/
theorem spoilt_open (s : ByteArray) (n k : Nat) (ms : List Nat) (hm : ∀ b ∈ ms, b < 256) (hk : n + k ≤ (sealB s).size) (h4 : k ≤ 4) (hc : chg ms k = true) : openB (strOfNums ((spo (nats (sealB s)) n ms k).map (fun n : Nat => (n : Int)))) = (⟨#[]⟩, 4) := by
 have hk' : n + k ≤ (nats (sealB s)).length := by rw [nats_len]; exact hk
 have hlt := spo_lt (nats (sealB s)) n ms k (nats_lt _) hm
 have hn := nats_str _ hlt
 have hz : (strOfNums ((spo (nats (sealB s)) n ms k).map (fun n : Nat => (n : Int)))).size = (sealB s).size := by
  have h1 := nats_len (strOfNums ((spo (nats (sealB s)) n ms k).map (fun n : Nat => (n : Int))))
  rw [hn, spo_len, nats_len] at h1
  exact h1.symm
 generalize strOfNums ((spo (nats (sealB s)) n ms k).map (fun n : Nat => (n : Int))) = u at hn hz ⊢
 have h4s := XFr.sealB_size s
 unfold openB
 rw [if_neg (by omega), if_neg]
 intro e
 have e1 : seal_ (nats (u.extract 0 (u.size - 4))) = spo (nats (sealB s)) n ms k := by rw [← nats_seal, e, hn]
 obtain ⟨m, hml, hmid⟩ := spo_mid (ms := ms) hk'
 have hm0 : seal_ (nats s) = (nats (sealB s)).take n ++ ((nats (sealB s)).drop n).take k ++ (nats (sealB s)).drop (n + k) := by
  rw [← nats_seal, List.append_assoc, ← List.drop_drop, List.take_append_drop, List.take_append_drop]
 have := spoilt (nats s) (nats (u.extract 0 (u.size - 4))) _ _ m _ (nats_lt _) (nats_lt _) hm0 (e1.trans hmid) (by rw [hml, List.length_take, List.length_drop]; omega) (by rw [List.length_take]; omega)
 refine spo_yes hk' hc ?_
 rw [hmid, ← this, List.append_assoc, ← List.drop_drop, List.take_append_drop, List.take_append_drop]
theorem spoilt_dec (s : ByteArray) (n k : Nat) (ms : List Nat) (hm : ∀ b ∈ ms, b < 256) (hk : n + k ≤ (sealB s).size) (h4 : k ≤ 4) (hc : chg ms k = true) : XFr.decF (strOfNums ((spo (nats (sealB s)) n ms k).map (fun n : Nat => (n : Int)))) = (XFr.zF, 4) := by
 unfold XFr.decF
 rw [spoilt_open s n k ms hm hk h4 hc, if_neg (by decide)]
theorem kept_str (s : ByteArray) (n k : Nat) (ms : List Nat) (hk : n + k ≤ s.size) (hc : chg ms k = false) : strOfNums ((spo (nats s) n ms k).map (fun n : Nat => (n : Int))) = s := by
 rw [spo_no (by rw [nats_len]; exact hk) hc, str_nats]
end Go.Proofs.Ytjccgdnnnlgeeaa.XCrc
end
