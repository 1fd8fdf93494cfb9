/- heap.Better and its reference, walked. -/
import Derived.Test.YtejhkadalahcjaaProg
import Derived.Below
import Derived.Deep.Draws
import Derived.Deep.AppendLies
import Derived.Maps.AppendAt
import Derived.OwnWalk
import Derived.Laws.BytesArg
import Derived.Laws.MakeOwn
import Derived.Laws.OwnMore
import Derived.Deep.OwnRows
import Derived.Tactics
import Derived.Lib.ConvBytes
import Derived.Laws.Slices
import Derived.WalkKit
import Derived.KernelRfl
import Derived.RowKit3
import Derived.Deep.LoopGhost
import Derived.Deep.QuietTactic
import Derived.BigQuiet
import Derived.WideLaws
import Derived.Deep.DeepCutAuto
import Derived.Deep.CutBlock
import Derived.Laws.Rows
import Derived.Lib.AppendStr
import Derived.ArgAppend
import Derived.Laws.IdiomCopy
import Derived.OrdersHeld
import Derived.Laws.BitsLemmas
import Derived.RowKit
import Derived.Test.YtejhkadalahcjaaWWords
import Derived.Test.YtejhkadalahcjaaWLast
import Derived.Test.YtejhkadalahcjaaWTab
import Derived.Test.YtejhkadalahcjaaWFour
import Derived.Test.YtejhkadalahcjaaWQPut
import Derived.Test.YtejhkadalahcjaaWApart
import Derived.Test.YtejhkadalahcjaaWArr
import Derived.Test.YtejhkadalahcjaaWZeros
import Derived.Test.YtejhkadalahcjaaWFoot
import Derived.Test.YtejhkadalahcjaaWKept
import Derived.Test.YtejhkadalahcjaaWShare
import Derived.Test.YtejhkadalahcjaaWN
import Derived.Test.YtejhkadalahcjaaWFootNe
import Derived.Test.YtejhkadalahcjaaWAt
import Derived.Test.YtejhkadalahcjaaWEqStruct
import Derived.Test.YtejhkadalahcjaaWRepsOne
import Derived.Test.YtejhkadalahcjaaWInv
import Derived.Test.YtejhkadalahcjaaWInvWords
import Derived.Test.YtejhkadalahcjaaWGuard
import Derived.Test.YtejhkadalahcjaaWNEv
import Derived.Test.YtejhkadalahcjaaWMore
import Derived.Handy
import Derived.ChangeKeysEq
import Derived.Deep.RegionHeld3
namespace Go.Proofs.Ytejhkadalahcjaa.XBetter
open Go.RowKit Go.Proofs.YtejhkadalahcjaaW.PrintWords Go.Proofs.YtejhkadalahcjaaW.PrintLast Go.Proofs.YtejhkadalahcjaaW.PrintMore
set_option linter.unusedVariables false
set_option linter.unusedSimpArgs false
def cmpI (x y : Int) : Int := if x < y then -1 else if x > y then 1 else 0
set_option maxRecDepth 100000 in
theorem cmp_int (x y : Int) (w : World) : Calls Try.prog 32 #[.int .i64 x, .int .i64 y] w fun e w' => e = .returned (.int .i64 (cmpI x y)) ∧ w' = w := by
  unfold cmpI
  rcases Int.lt_trichotomy x y with c | c | c
  · rw [if_pos c]
    go_enter Try.func32, Try.ntmps32
    go_wp2
    go_ret
    exact ⟨rfl, rfl⟩
  · subst c
    rw [if_neg (by omega), if_neg (by omega)]
    go_enter Try.func32, Try.ntmps32
    go_wp2
    go_ret
    exact ⟨rfl, rfl⟩
  · rw [if_neg (by omega), if_pos c]
    go_enter Try.func32, Try.ntmps32
    go_wp2
    go_ret
    exact ⟨rfl, rfl⟩
theorem eq3 (x0 x1 x2 y0 y1 y2 : Int) (w : World) : (Op.equalIn 10000 31 (.agg #[.int .i64 x0, .int .i64 x1, .int .i64 x2]) (.agg #[.int .i64 y0, .int .i64 y1, .int .i64 y2])).run Try.prog w = .ok (x0 == y0 && (x1 == y1 && x2 == y2)) w := by
  have hp : ∀ (xs : Array Value) (j : Nat) (v : Value), xs[j]? = some v → (part 3 xs j).run Try.prog w = .ok v w := fun xs j v h => run_part_plain w (by kernel_rfl) h
  have hc : Try.prog.cellsOf 3 = 1 := by kernel_rfl
  have he : ∀ a b : Int, (Op.equalIn 9999 3 (.int .i64 a) (.int .i64 b)).run Try.prog w = .ok (a == b) w := fun a b => run_equalIn_int w 9998 _ _ _ a b Try.underlying3
  obtain ⟨i, hi⟩ : ∃ i, Try.prog.info? 3 = some i := ⟨_, rfl⟩
  rw [show (10000 : Nat) = 9999 + 1 from rfl, run_equalIn_array w 9999 _ _ Try.underlying31 hi, hc, show List.range 3 = [0, 1, 2] from rfl]
  generalize hX : (#[.int .i64 x0, .int .i64 x1, .int .i64 x2] : Array Value) = X
  generalize hY : (#[.int .i64 y0, .int .i64 y1, .int .i64 y2] : Array Value) = Y
  have p0 := hp X 0 (.int .i64 x0) (by rw [← hX]; rfl)
  have p1 := hp X 1 (.int .i64 x1) (by rw [← hX]; rfl)
  have p2 := hp X 2 (.int .i64 x2) (by rw [← hX]; rfl)
  have q0 := hp Y 0 (.int .i64 y0) (by rw [← hY]; rfl)
  have q1 := hp Y 1 (.int .i64 y1) (by rw [← hY]; rfl)
  have q2 := hp Y 2 (.int .i64 y2) (by rw [← hY]; rfl)
  clear hX hY hp
  simp only [Op.eqItems, Sem.run_bind, Nat.mul_one, p0, q0, Result.andThen_ok, he]
  by_cases c0 : x0 = y0 <;> by_cases c1 : x1 = y1 <;> by_cases c2 : x2 = y2 <;> simp [c0, c1, c2, p1, p2, q1, q2, he, Result.andThen_ok]
def lex3 (x0 x1 x2 y0 y1 y2 : Int) : Int := if cmpI x0 y0 ≠ 0 then cmpI x0 y0 else if cmpI x1 y1 ≠ 0 then cmpI x1 y1 else cmpI x2 y2
set_option maxRecDepth 100000 in
theorem cmp3 (x0 x1 x2 y0 y1 y2 : Int) (p q : Nat) (w : World) (h0 : w.cell? ⟨p, 1, none⟩ = some (.int .i64 x0)) (h1 : w.cell? ⟨p, 2, none⟩ = some (.int .i64 x1)) (h2 : w.cell? ⟨p, 3, none⟩ = some (.int .i64 x2))
    (g0 : w.cell? ⟨q, 1, none⟩ = some (.int .i64 y0)) (g1 : w.cell? ⟨q, 2, none⟩ = some (.int .i64 y1)) (g2 : w.cell? ⟨q, 3, none⟩ = some (.int .i64 y2)) :
    Calls Try.prog 26 #[.slice (some ⟨p, 1, none⟩) 3 3, .slice (some ⟨q, 1, none⟩) 3 3] w fun e w' => e = .returned (.int .i64 (lex3 x0 x1 x2 y0 y1 y2)) ∧ w' = w := by
  unfold lex3
  by_cases c0 : cmpI x0 y0 = 0
  · by_cases c1 : cmpI x1 y1 = 0
    · by_cases c2 : cmpI x2 y2 = 0
      · rw [if_neg (by omega), if_neg (by omega), c2]
        go_enter Try.func26, Try.ntmps26
        go_wp2
        refine wp_loop_rounds 4 ?_
        repeat any_goals (rw [rounds_succ]; go_wp2_with (first | (go_at_call 32; refine (cmp_int _ _ _).mono ?_; rintro e w' ⟨rfl, rfl⟩)))
        go_ret
        exact ⟨rfl, rfl⟩
      · rw [if_neg (by omega), if_neg (by omega)]
        go_enter Try.func26, Try.ntmps26
        go_wp2
        refine wp_loop_rounds 4 ?_
        repeat any_goals (rw [rounds_succ]; go_wp2_with (first | (go_at_call 32; refine (cmp_int _ _ _).mono ?_; rintro e w' ⟨rfl, rfl⟩)))
        go_ret
        exact ⟨rfl, rfl⟩
    · rw [if_neg (by omega), if_pos c1]
      go_enter Try.func26, Try.ntmps26
      go_wp2
      refine wp_loop_rounds 4 ?_
      repeat any_goals (rw [rounds_succ]; go_wp2_with (first | (go_at_call 32; refine (cmp_int _ _ _).mono ?_; rintro e w' ⟨rfl, rfl⟩)))
      go_ret
      exact ⟨rfl, rfl⟩
  · rw [if_pos c0]
    go_enter Try.func26, Try.ntmps26
    go_wp2
    refine wp_loop_rounds 4 ?_
    repeat any_goals (rw [rounds_succ]; go_wp2_with (first | (go_at_call 32; refine (cmp_int _ _ _).mono ?_; rintro e w' ⟨rfl, rfl⟩)))
    go_ret
    exact ⟨rfl, rfl⟩
structure Six (b0 b1 : Nat) (x0 x1 x2 y0 y1 y2 : Int) (w0 w : World) : Prop where
  hb : Below w0.heap.size w0 w
  h0 : w.cell? ⟨b0, 1, none⟩ = some (.int .i64 x0)
  h1 : w.cell? ⟨b0, 2, none⟩ = some (.int .i64 x1)
  h2 : w.cell? ⟨b0, 3, none⟩ = some (.int .i64 x2)
  g0 : w.cell? ⟨b1, 1, none⟩ = some (.int .i64 y0)
  g1 : w.cell? ⟨b1, 2, none⟩ = some (.int .i64 y1)
  g2 : w.cell? ⟨b1, 3, none⟩ = some (.int .i64 y2)
theorem Six.drew {b0 b1 : Nat} {x0 x1 x2 y0 y1 y2 : Int} {w0 w : World} (h : Six b0 b1 x0 x1 x2 y0 y1 y2 w0 w) : Six b0 b1 x0 x1 x2 y0 y1 y2 w0 w.drew :=
  ⟨below_drew1 h.hb, h.h0, h.h1, h.h2, h.g0, h.g1, h.g2⟩
theorem Six.calls {b0 b1 : Nat} {x0 x1 x2 y0 y1 y2 : Int} {w0 w : World} (h : Six b0 b1 x0 x1 x2 y0 y1 y2 w0 w) :
    Calls Try.prog 26 #[.slice (some ⟨b0, 1, none⟩) 3 3, .slice (some ⟨b1, 1, none⟩) 3 3] w fun e w' => e = .returned (.int .i64 (lex3 x0 x1 x2 y0 y1 y2)) ∧ w' = w :=
  cmp3 _ _ _ _ _ _ _ _ _ h.h0 h.h1 h.h2 h.g0 h.g1 h.g2
def heap_Better.f (a0_0 a0_1 a0_2 a0_3 a1_0 a1_1 a1_2 a1_3 : Int) : Option Bool :=
  some (if ¬ (a0_1 = a1_1 ∧ a0_2 = a1_2 ∧ a0_3 = a1_3) then decide (lex3 a0_1 a0_2 a0_3 a1_1 a1_2 a1_3 > 0) else decide (a0_0 < a1_0))
set_option maxHeartbeats 8000000 in
set_option maxRecDepth 100000 in
theorem heap_Better.calls (a0_0 : Int) (a0_1 : Int) (a0_2 : Int) (a0_3 : Int) (a1_0 : Int) (a1_1 : Int) (a1_2 : Int) (a1_3 : Int) (r : Bool) (w : World) (h : heap_Better.f a0_0 a0_1 a0_2 a0_3 a1_0 a1_1 a1_2 a1_3 = some r) :
    Calls Try.prog 16 #[.agg #[.int .i64 a0_0, .int .i64 a0_1, .int .i64 a0_2, .int .i64 a0_3], .agg #[.int .i64 a1_0, .int .i64 a1_1, .int .i64 a1_2, .int .i64 a1_3]] w fun e w' => e = .returned (.bool r) ∧ Below w.heap.size w w' := by
  unfold heap_Better.f at h
  obtain rfl := Option.some.inj h
  clear h
  have HB : ∀ o1 o2, Below w.heap.size w ((w.alloc o1).alloc o2) := fun o1 o2 => below_alloc (below_alloc (Below.refl _ _) _) _
  by_cases c : a0_1 = a1_1 ∧ a0_2 = a1_2 ∧ a0_3 = a1_3
  · rw [if_neg (not_not_intro c)]
    obtain ⟨rfl, rfl, rfl⟩ := c
    go_enter Try.func16, Try.ntmps16
    go_wp2_with (first | (rw [eq3]; go_simp))
    go_ret
    exact ⟨rfl, HB _ _⟩
  · rw [if_pos c]
    have c' : (a0_1 == a1_1 && (a0_2 == a1_2 && a0_3 == a1_3)) = false := by simpa using c
    have hS : Six w.heap.size (w.heap.size + 1) a0_1 a0_2 a0_3 a1_1 a1_2 a1_3 w ((w.alloc (Obj.cells #[Value.int IntKind.i64 a0_0, Value.int IntKind.i64 a0_1, Value.int IntKind.i64 a0_2, Value.int IntKind.i64 a0_3] 33)).alloc (Obj.cells #[Value.int IntKind.i64 a1_0, Value.int IntKind.i64 a1_1, Value.int IntKind.i64 a1_2, Value.int IntKind.i64 a1_3] 33)) := by
      refine ⟨HB _ _, ?_, ?_, ?_, ?_, ?_, ?_⟩ <;> first | (go_simp; done) | go_cell | skip
    go_enter Try.func16, Try.ntmps16
    go_wp2_with (first | (rw [eq3, c']; go_simp))
    generalize (w.alloc (Obj.cells #[Value.int IntKind.i64 a0_0, Value.int IntKind.i64 a0_1, Value.int IntKind.i64 a0_2, Value.int IntKind.i64 a0_3] 33)).alloc (Obj.cells #[Value.int IntKind.i64 a1_0, Value.int IntKind.i64 a1_1, Value.int IntKind.i64 a1_2, Value.int IntKind.i64 a1_3] 33) = W at hS ⊢
    go_region_held3 (fun w' => Six w.heap.size (w.heap.size + 1) a0_1 a0_2 a0_3 a1_1 a1_2 a1_3 w w') (first | with_reducible assumption | (with_reducible apply Six.drew; with_reducible assumption)) ((first | (go_at_call 26; refine (Six.calls (w0 := w) (x0 := a0_1) (x1 := a0_2) (x2 := a0_3) (y0 := a1_1) (y1 := a1_2) (y2 := a1_3) ?side1).mono ?_; (case side1 => first | with_reducible assumption | (with_reducible apply Six.drew; with_reducible assumption)); rintro e w' ⟨rfl, rfl⟩)))
    go_wp2
    all_goals
      go_ret
      exact ⟨rfl, Six.hb (by with_reducible assumption)⟩
structure Eig (b0 b1 : Nat) (i x0 x1 x2 j y0 y1 y2 : Int) (w0 w : World) : Prop where
  hb : Below w0.heap.size w0 w
  hi : w.cell? ⟨b0, 0, none⟩ = some (.int .i64 i)
  h0 : w.cell? ⟨b0, 1, none⟩ = some (.int .i64 x0)
  h1 : w.cell? ⟨b0, 2, none⟩ = some (.int .i64 x1)
  h2 : w.cell? ⟨b0, 3, none⟩ = some (.int .i64 x2)
  hj : w.cell? ⟨b1, 0, none⟩ = some (.int .i64 j)
  g0 : w.cell? ⟨b1, 1, none⟩ = some (.int .i64 y0)
  g1 : w.cell? ⟨b1, 2, none⟩ = some (.int .i64 y1)
  g2 : w.cell? ⟨b1, 3, none⟩ = some (.int .i64 y2)
theorem Eig.drew {b0 b1 : Nat} {i x0 x1 x2 j y0 y1 y2 : Int} {w0 w : World} (h : Eig b0 b1 i x0 x1 x2 j y0 y1 y2 w0 w) : Eig b0 b1 i x0 x1 x2 j y0 y1 y2 w0 w.drew :=
  ⟨below_drew1 h.hb, h.hi, h.h0, h.h1, h.h2, h.hj, h.g0, h.g1, h.g2⟩
def rollcallref10_Better.f (a0_0 a0_1 a0_2 a0_3 a1_0 a1_1 a1_2 a1_3 : Int) : Option Bool :=
  some (if a0_1 ≠ a1_1 then decide (a0_1 > a1_1) else if a0_2 ≠ a1_2 then decide (a0_2 > a1_2) else if a0_3 ≠ a1_3 then decide (a0_3 > a1_3) else decide (a0_0 < a1_0))
set_option maxHeartbeats 8000000 in
set_option maxRecDepth 100000 in
theorem rollcallref10_Better.calls (a0_0 : Int) (a0_1 : Int) (a0_2 : Int) (a0_3 : Int) (a1_0 : Int) (a1_1 : Int) (a1_2 : Int) (a1_3 : Int) (r : Bool) (w : World) (h : rollcallref10_Better.f a0_0 a0_1 a0_2 a0_3 a1_0 a1_1 a1_2 a1_3 = some r) :
    Calls Try.prog 17 #[.agg #[.int .i64 a0_0, .int .i64 a0_1, .int .i64 a0_2, .int .i64 a0_3], .agg #[.int .i64 a1_0, .int .i64 a1_1, .int .i64 a1_2, .int .i64 a1_3]] w fun e w' => e = .returned (.bool r) ∧ Below w.heap.size w w' := by
  unfold rollcallref10_Better.f at h
  have hr := Option.some.inj h
  clear h
  have HB : ∀ o1 o2, Below w.heap.size w ((w.alloc o1).alloc o2) := fun o1 o2 => below_alloc (below_alloc (Below.refl _ _) _) _
  have hS : Eig w.heap.size (w.heap.size + 1) a0_0 a0_1 a0_2 a0_3 a1_0 a1_1 a1_2 a1_3 w ((w.alloc (Obj.cells #[Value.int IntKind.i64 a0_0, Value.int IntKind.i64 a0_1, Value.int IntKind.i64 a0_2, Value.int IntKind.i64 a0_3] 37)).alloc (Obj.cells #[Value.int IntKind.i64 a1_0, Value.int IntKind.i64 a1_1, Value.int IntKind.i64 a1_2, Value.int IntKind.i64 a1_3] 37)) := by
    refine ⟨HB _ _, ?_, ?_, ?_, ?_, ?_, ?_, ?_, ?_⟩ <;> first | (go_simp; done) | go_cell | skip
  go_enter Try.func17, Try.ntmps17
  go_wp2
  generalize (w.alloc (Obj.cells #[Value.int IntKind.i64 a0_0, Value.int IntKind.i64 a0_1, Value.int IntKind.i64 a0_2, Value.int IntKind.i64 a0_3] 37)).alloc (Obj.cells #[Value.int IntKind.i64 a1_0, Value.int IntKind.i64 a1_1, Value.int IntKind.i64 a1_2, Value.int IntKind.i64 a1_3] 37) = W at hS ⊢
  refine wp_loop_rounds 4 ?_
  rw [rounds_succ]
  go_wp2
  have h0 := hS.h0
  have g0 := hS.g0
  go_region_held3 (fun w' => w'.cell? ⟨w.heap.size, 1, none⟩ = some (.int .i64 a0_1) ∧ w'.cell? ⟨w.heap.size + 1, 1, none⟩ = some (.int .i64 a1_1)) (first | (exact ⟨by assumption, by assumption⟩) | go_keep) ((first | fail))
  rename_i hH
  clear hH h0 g0
  replace hS := hS.drew
  generalize W.drew = W at hS ⊢
  by_cases c1 : a0_1 = a1_1
  rotate_left
  · rw [if_pos c1] at hr
    go_wp2
    have h0 := hS.h0
    have g0 := hS.g0
    go_region_held3 (fun w' => w'.cell? ⟨w.heap.size, 1, none⟩ = some (.int .i64 a0_1) ∧ w'.cell? ⟨w.heap.size + 1, 1, none⟩ = some (.int .i64 a1_1)) (first | (exact ⟨by assumption, by assumption⟩) | go_keep) ((first | fail))
    rename_i hH
    clear hH h0 g0
    replace hS := hS.drew
    generalize W.drew = W at hS ⊢
    go_wp2
    all_goals
      go_ret
      exact ⟨by subst hr; rfl, hS.hb⟩
  subst c1
  rw [if_neg (not_not_intro rfl)] at hr
  go_wp2
  rw [rounds_succ]
  go_wp2
  have h0 := hS.h1
  have g0 := hS.g1
  go_region_held3 (fun w' => w'.cell? ⟨w.heap.size, 2, none⟩ = some (.int .i64 a0_2) ∧ w'.cell? ⟨w.heap.size + 1, 2, none⟩ = some (.int .i64 a1_2)) (first | (exact ⟨by assumption, by assumption⟩) | go_keep) ((first | fail))
  rename_i hH
  clear hH h0 g0
  replace hS := hS.drew
  generalize W.drew = W at hS ⊢
  by_cases c2 : a0_2 = a1_2
  rotate_left
  · rw [if_pos c2] at hr
    go_wp2
    have h0 := hS.h1
    have g0 := hS.g1
    go_region_held3 (fun w' => w'.cell? ⟨w.heap.size, 2, none⟩ = some (.int .i64 a0_2) ∧ w'.cell? ⟨w.heap.size + 1, 2, none⟩ = some (.int .i64 a1_2)) (first | (exact ⟨by assumption, by assumption⟩) | go_keep) ((first | fail))
    rename_i hH
    clear hH h0 g0
    replace hS := hS.drew
    generalize W.drew = W at hS ⊢
    go_wp2
    all_goals
      go_ret
      exact ⟨by subst hr; rfl, hS.hb⟩
  subst c2
  rw [if_neg (not_not_intro rfl)] at hr
  go_wp2
  rw [rounds_succ]
  go_wp2
  have h0 := hS.h2
  have g0 := hS.g2
  go_region_held3 (fun w' => w'.cell? ⟨w.heap.size, 3, none⟩ = some (.int .i64 a0_3) ∧ w'.cell? ⟨w.heap.size + 1, 3, none⟩ = some (.int .i64 a1_3)) (first | (exact ⟨by assumption, by assumption⟩) | go_keep) ((first | fail))
  rename_i hH
  clear hH h0 g0
  replace hS := hS.drew
  generalize W.drew = W at hS ⊢
  by_cases c3 : a0_3 = a1_3
  rotate_left
  · rw [if_pos c3] at hr
    go_wp2
    have h0 := hS.h2
    have g0 := hS.g2
    go_region_held3 (fun w' => w'.cell? ⟨w.heap.size, 3, none⟩ = some (.int .i64 a0_3) ∧ w'.cell? ⟨w.heap.size + 1, 3, none⟩ = some (.int .i64 a1_3)) (first | (exact ⟨by assumption, by assumption⟩) | go_keep) ((first | fail))
    rename_i hH
    clear hH h0 g0
    replace hS := hS.drew
    generalize W.drew = W at hS ⊢
    go_wp2
    all_goals
      go_ret
      exact ⟨by subst hr; rfl, hS.hb⟩
  subst c3
  rw [if_neg (not_not_intro rfl)] at hr
  go_wp2
  rw [rounds_succ]
  have hi := hS.hi
  have hj := hS.hj
  go_wp2
  go_ret
  exact ⟨by subst hr; rfl, hS.hb⟩
end Go.Proofs.Ytejhkadalahcjaa.XBetter
