/- best.Worth, walked: its numbers on the complex plane are few. -/
import Derived.Test.YtbapkknjbbaclaaXBetter
import Derived.Laws.Cover3
import Derived.Laws.ComplexArith
namespace Go.Proofs.Ytbapkknjbbaclaa.XWorth
open Go.RowKit Go.Proofs.YtbapkknjbbaclaaW.PrintWords Go.Proofs.YtbapkknjbbaclaaW.PrintLast Go.Proofs.YtbapkknjbbaclaaW.PrintMore Go.Proofs.Ytbapkknjbbaclaa.XBetter
set_option linter.unusedVariables false
set_option linter.unusedSimpArgs false
theorem cmp_is (x y v : Int) (h : cmpI x y = v) (w : World) : Calls Try.prog 26 #[.int .i64 x, .int .i64 y] w fun e w' => e = .returned (.int .i64 v) ∧ w' = w := by subst h; exact cmp_int x y w
set_option maxHeartbeats 4000000 in
set_option maxRecDepth 100000 in
theorem point_calls (a0_0 : Int) (a0_1 : Int) (a0_2 : Int) (a0_3 : ByteArray) (a1_0 : Int) (a1_1 : Int) (a1_2 : Int) (a1_3 : ByteArray) (w : World) (p q : Int) (c0 : cmpI a0_0 a1_0 = p) (c1 : cmpI a0_1 a1_1 = q) :
    Calls Try.prog 23 #[.agg #[.int .i64 a0_0, .int .i64 a0_1, .int .i64 a0_2, .string a0_3], .agg #[.int .i64 a1_0, .int .i64 a1_1, .int .i64 a1_2, .string a1_3]] w fun e w' => e = .returned (.complex .f64 (floatOfInt .f64 p) (floatOfInt .f64 q)) ∧ Below w.heap.size w w' := by
  have h0 : ((w.alloc (Obj.cells #[.int .i64 a0_0, .int .i64 a0_1, .int .i64 a0_2, .string a0_3] 24)).alloc (Obj.cells #[.int .i64 a1_0, .int .i64 a1_1, .int .i64 a1_2, .string a1_3] 24)).cell? ⟨w.heap.size, 0, none⟩ = some (.int .i64 a0_0) := by first | (go_simp; done) | go_cell
  have h1 : ((w.alloc (Obj.cells #[.int .i64 a0_0, .int .i64 a0_1, .int .i64 a0_2, .string a0_3] 24)).alloc (Obj.cells #[.int .i64 a1_0, .int .i64 a1_1, .int .i64 a1_2, .string a1_3] 24)).cell? ⟨w.heap.size, 1, none⟩ = some (.int .i64 a0_1) := by first | (go_simp; done) | go_cell
  have g0 : ((w.alloc (Obj.cells #[.int .i64 a0_0, .int .i64 a0_1, .int .i64 a0_2, .string a0_3] 24)).alloc (Obj.cells #[.int .i64 a1_0, .int .i64 a1_1, .int .i64 a1_2, .string a1_3] 24)).cell? ⟨w.heap.size + 1, 0, none⟩ = some (.int .i64 a1_0) := by first | (go_simp; done) | go_cell
  have g1 : ((w.alloc (Obj.cells #[.int .i64 a0_0, .int .i64 a0_1, .int .i64 a0_2, .string a0_3] 24)).alloc (Obj.cells #[.int .i64 a1_0, .int .i64 a1_1, .int .i64 a1_2, .string a1_3] 24)).cell? ⟨w.heap.size + 1, 1, none⟩ = some (.int .i64 a1_1) := by first | (go_simp; done) | go_cell
  have hB : Below w.heap.size w ((w.alloc (Obj.cells #[.int .i64 a0_0, .int .i64 a0_1, .int .i64 a0_2, .string a0_3] 24)).alloc (Obj.cells #[.int .i64 a1_0, .int .i64 a1_1, .int .i64 a1_2, .string a1_3] 24)) := below_alloc (below_alloc (Below.refl _ _) _) _
  go_enter Try.func23, Try.ntmps23
  go_wp2
  generalize (w.alloc (Obj.cells #[.int .i64 a0_0, .int .i64 a0_1, .int .i64 a0_2, .string a0_3] 24)).alloc (Obj.cells #[.int .i64 a1_0, .int .i64 a1_1, .int .i64 a1_2, .string a1_3] 24) = W at h0 h1 g0 g1 hB ⊢
  go_region_held3 (fun w' => w'.cell? ⟨w.heap.size, 0, none⟩ = some (.int .i64 a0_0) ∧ w'.cell? ⟨w.heap.size, 1, none⟩ = some (.int .i64 a0_1) ∧ w'.cell? ⟨w.heap.size + 1, 0, none⟩ = some (.int .i64 a1_0) ∧ w'.cell? ⟨w.heap.size + 1, 1, none⟩ = some (.int .i64 a1_1)) (first | (exact ⟨by assumption, by assumption, by assumption, by assumption⟩) | go_keep) ((first | (go_at_call 26; with_reducible refine (cmp_is a0_0 a1_0 _ c0 _).mono ?_; rintro e w' ⟨rfl, rfl⟩) | (go_at_call 26; with_reducible refine (cmp_is a0_1 a1_1 _ c1 _).mono ?_; rintro e w' ⟨rfl, rfl⟩)))
  go_wp2
  go_ret
  exact ⟨rfl, below_drew1 hB⟩
set_option maxRecDepth 100000 in
theorem cmpf (S : Nat) (v : Int) (h1 : FloatKind.f64.format.order S S = some Ordering.eq) (h2 : (if (FloatKind.f64.format.order S 0 == some Ordering.lt) = true then (-1 : Int) else if (FloatKind.f64.format.order S 0 == some Ordering.gt) = true then 1 else 0) = v) (w : World) :
    Calls Try.prog 24 #[.float .f64 S, .float .f64 0] w fun e w' => e = .returned (.int .i64 v) ∧ w' = w := by
  have h00 : FloatKind.f64.format.order 0 0 = some Ordering.eq := by decide +kernel
  have n1 : (FloatKind.f64.format.order S S != some Ordering.eq) = false := by rw [h1]; rfl
  have n0 : (FloatKind.f64.format.order 0 0 != some Ordering.eq) = false := by rw [h00]; rfl
  have H2 := Aside0.mk h2
  clear h1 h00 h2
  go_enter Try.func24, Try.ntmps24
  go_wp2
  all_goals first
    | (exfalso; simp_all; done)
    | (go_ret; refine ⟨?_, rfl⟩; have h := H2.out; simp_all)
set_option maxHeartbeats 4000000 in
set_option maxRecDepth 100000 in
theorem worth_case (a0_0 : Int) (a0_1 : Int) (a0_2 : Int) (a0_3 : ByteArray) (a1_0 : Int) (a1_1 : Int) (a1_2 : Int) (a1_3 : ByteArray) (w : World) (p q : Int) (c0 : cmpI a0_0 a1_0 = p) (c1 : cmpI a0_1 a1_1 = q) (M S : Nat) (v : Int)
    (hm : floatBits .mul .f64 4611686018427387904 (floatOfInt .f64 p) = some M) (hs : floatBits .add .f64 M (floatOfInt .f64 q) = some S)
    (hc : ∀ W, Calls Try.prog 24 #[.float .f64 S, .float .f64 0] W fun e w' => e = .returned (.int .i64 v) ∧ w' = W) :
    Calls Try.prog 19 #[.agg #[.int .i64 a0_0, .int .i64 a0_1, .int .i64 a0_2, .string a0_3], .agg #[.int .i64 a1_0, .int .i64 a1_1, .int .i64 a1_2, .string a1_3]] w fun e w' => e = .returned (.int .i64 v) ∧ Below w.heap.size w w' := by
  have HP := Aside0.mk (point_calls a0_0 a0_1 a0_2 a0_3 a1_0 a1_1 a1_2 a1_3 · p q c0 c1)
  have HC := Aside0.mk hc
  have HM := Aside0.mk hm
  have HS := Aside0.mk hs
  clear hc hm hs
  have hB : Below w.heap.size w ((w.alloc (Obj.cells #[.int .i64 a0_0, .int .i64 a0_1, .int .i64 a0_2, .string a0_3] 24)).alloc (Obj.cells #[.int .i64 a1_0, .int .i64 a1_1, .int .i64 a1_2, .string a1_3] 24)) := below_alloc (below_alloc (Below.refl _ _) _) _
  have HB := Aside0.mk hB
  clear hB
  go_enter Try.func19, Try.ntmps19
  go_wp2_with (first | (go_at_call 23; (with_reducible refine (HP.out _).mono ?_); rintro e w' ⟨rfl, hb⟩; have HB2 := Aside0.mk (below_step HB.out hb); clear HB hb) | (go_at_call 24; (with_reducible refine (HC.out _).mono ?_); rintro e w' ⟨rfl, rfl⟩) | (rw [run_float_arith _ .mul _ .f64 _ _ _ HM.out]; go_simp) | (rw [run_float_arith _ .add _ .f64 _ _ _ HS.out]; go_simp))
  go_ret
  exact ⟨rfl, HB2.out⟩
theorem cmpI_is (x y : Int) : cmpI x y = 1 ∨ cmpI x y = 0 ∨ cmpI x y = -1 := by
  unfold cmpI
  split
  · exact .inr (.inr rfl)
  · split
    · exact .inl rfl
    · exact .inr (.inl rfl)
def mulB (p : Int) : Nat := (floatBits .mul .f64 4611686018427387904 (floatOfInt .f64 p)).getD 0
def sumB (p q : Int) : Nat := (floatBits .add .f64 (mulB p) (floatOfInt .f64 q)).getD 0
theorem num_case (p q : Int) (hp : p = 1 ∨ p = 0 ∨ p = -1) (hq : q = 1 ∨ q = 0 ∨ q = -1) :
    floatBits .mul .f64 4611686018427387904 (floatOfInt .f64 p) = some (mulB p) ∧ floatBits .add .f64 (mulB p) (floatOfInt .f64 q) = some (sumB p q) ∧ FloatKind.f64.format.order (sumB p q) (sumB p q) = some Ordering.eq ∧
    (if (FloatKind.f64.format.order (sumB p q) 0 == some Ordering.lt) = true then (-1 : Int) else if (FloatKind.f64.format.order (sumB p q) 0 == some Ordering.gt) = true then 1 else 0) = cmpI (2 * p + q) 0 := by
  rcases hp with rfl | rfl | rfl <;> rcases hq with rfl | rfl | rfl <;> refine ⟨?_, ?_, ?_, ?_⟩ <;> decide +kernel
def best_Worth.f (a0_0 a0_1 a0_2 : Int) (a0_3 : ByteArray) (a1_0 a1_1 a1_2 : Int) (a1_3 : ByteArray) : Option Int := some (cmpI (2 * cmpI a0_0 a1_0 + cmpI a0_1 a1_1) 0)
theorem best_Worth.calls (a0_0 : Int) (a0_1 : Int) (a0_2 : Int) (a0_3 : ByteArray) (a1_0 : Int) (a1_1 : Int) (a1_2 : Int) (a1_3 : ByteArray) (r : Int) (w : World) (h : best_Worth.f a0_0 a0_1 a0_2 a0_3 a1_0 a1_1 a1_2 a1_3 = some r) :
    Calls Try.prog 19 #[.agg #[.int .i64 a0_0, .int .i64 a0_1, .int .i64 a0_2, .string a0_3], .agg #[.int .i64 a1_0, .int .i64 a1_1, .int .i64 a1_2, .string a1_3]] w fun e w' => e = .returned (.int .i64 r) ∧ Below w.heap.size w w' := by
  obtain rfl := Option.some.inj h
  obtain ⟨h1, h2, h3, h4⟩ := num_case _ _ (cmpI_is a0_0 a1_0) (cmpI_is a0_1 a1_1)
  exact worth_case a0_0 a0_1 a0_2 a0_3 a1_0 a1_1 a1_2 a1_3 w _ _ rfl rfl _ _ _ h1 h2 (cmpf _ _ h3 h4)
end Go.Proofs.Ytbapkknjbbaclaa.XWorth
