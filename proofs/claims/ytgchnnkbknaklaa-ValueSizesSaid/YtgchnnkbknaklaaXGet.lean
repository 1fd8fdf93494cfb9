/- varint.Get by a walk of its own (its label is come to by jumps): what it answers is that of the plain function f, at every string of at most 2^47 bytes. -/
import Derived.Test.YtgchnnkbknaklaaProg
import Derived.Below
import Derived.Deep.Draws
import Derived.Deep.AppendLies
import Derived.Maps.AppendAt
import Derived.OwnWalk
import Derived.Laws.BytesArg
import Derived.Laws.MakeOwn
import Derived.Laws.OwnMore
import Derived.Deep.OwnRows
import Derived.Tactics
import Derived.Lib.ConvBytes
import Derived.Laws.Slices
import Derived.WalkKit
import Derived.KernelRfl
import Derived.RowKit3
import Derived.Deep.LoopGhost
import Derived.Deep.QuietTactic
import Derived.BigQuiet
import Derived.WideLaws
import Derived.Deep.DeepCutAuto
import Derived.Deep.CutBlock
import Derived.Deep.RegionHeld3
import Derived.Laws.Rows
import Derived.Lib.AppendStr
import Derived.ArgAppend
import Derived.Laws.IdiomCopy
import Derived.OrdersHeld
import Derived.Laws.BitsLemmas
import Derived.RowKit
import Derived.Test.YtgchnnkbknaklaaWWords
import Derived.Test.YtgchnnkbknaklaaWLast
import Derived.Test.YtgchnnkbknaklaaWTab
import Derived.Test.YtgchnnkbknaklaaWFour
import Derived.Test.YtgchnnkbknaklaaWQPut
import Derived.Test.YtgchnnkbknaklaaWApart
import Derived.Test.YtgchnnkbknaklaaWArr
import Derived.Test.YtgchnnkbknaklaaWZeros
import Derived.Test.YtgchnnkbknaklaaWFoot
import Derived.Test.YtgchnnkbknaklaaWKept
import Derived.Test.YtgchnnkbknaklaaWShare
import Derived.Test.YtgchnnkbknaklaaWN
import Derived.Test.YtgchnnkbknaklaaWFootNe
import Derived.Test.YtgchnnkbknaklaaWAt
import Derived.Test.YtgchnnkbknaklaaWEqStruct
import Derived.Test.YtgchnnkbknaklaaWRepsOne
import Derived.Test.YtgchnnkbknaklaaWInv
import Derived.Test.YtgchnnkbknaklaaWInvWords
import Derived.Test.YtgchnnkbknaklaaWGuard
import Derived.Test.YtgchnnkbknaklaaWNEv
import Derived.Test.YtgchnnkbknaklaaWMore
import Derived.WalkMore
import Derived.ScopeJumps
namespace Go.Proofs.Ytgchnnkbknaklaa.XGet
open Go.RowKit Go.Proofs.YtgchnnkbknaklaaW.PrintWords Go.Proofs.YtgchnnkbknaklaaW.PrintLast Go.Proofs.YtgchnnkbknaklaaW.PrintMore
set_option linter.unusedVariables false
set_option linter.unusedSimpArgs false

/-- A scope with a label that is come to by jumps: what holds at every coming. -/
theorem wp_scope_jumps2 {P : Program} {a : Act} {w : World} {Q : Exit → Act → World → Prop} {c rest : Code} (l : Nat) (J : Act → World → Prop) (μ : Act → World → Nat) (hf : findLabel c l = some (Code.skip.seq rest))
    (pass : ∀ a w, J a w → rest.wp P (Exit.jump l (fun a' w' => J a' w' ∧ μ a' w' < μ a w) Q) a w)
    (first : (∀ a w, J a w → rest.wp P (Exit.jump l J Q) a w) → c.wp P (Exit.jump l J Q) a w) : (Code.scope c).wp P Q a w :=
  wp_scope_jumps l J μ hf (first fun a w h => wp_mono (pass a w h) fun e a' w' q => by cases e <;> first | exact ⟨q.1, q.2.1⟩ | exact q) (fun a w h => wp_seq (wp_skip (pass a w h)))

def stepN (n b i : Int) : Int := bits .or .u64 n (IntKind.u64.wrap (IntKind.u64.wrap (bits .andNot .u8 b 128) * 2 ^ (7 * i).toNat))

def getGo (s : ByteArray) (p : Int) : Nat → Int → Int → Int × Int × Int
  | 0, _, _ => (0, 0, 3)
  | k + 1, i, n =>
    if p + i = (s.size : Int) then (0, 0, 2) else
    if i = 9 ∧ bt s (p + i) > 1 then (0, 0, 3) else
    if bt s (p + i) ≥ 128 then getGo s p k (i + 1) (stepN n (bt s (p + i)) i) else
    if bt s (p + i) = 0 ∧ i + 1 > 1 then (0, 0, 3) else (stepN n (bt s (p + i)) i, p + (i + 1), 0)

set_option maxRecDepth 1000000 in
set_option maxHeartbeats 1000000 in
theorem getCalls (a0 : ByteArray) (a1 : Int) (r1 r2 r3 : Int) (w : World) (hs : a0.size ≤ 140737488351232) (h0 : 0 ≤ a1) (h1 : a1 ≤ a0.size) (h : getGo a0 a1 10 0 0 = (r1, r2, r3)) :
    Calls Try.prog 28 #[.string a0, .int .i64 a1] w fun e w' => e = .returned (.tuple #[.int .u64 r1, .int .i64 r2, .int .i64 r3]) ∧ w' = w := by
  have H := Aside0.mk h
  clear h
  go_enter Try.func28, Try.ntmps28
  go_wp2
  refine wp_scope_jumps2 0 (fun a' w' => w' = w ∧ ∃ (i n : Int) (u9 u10 u11 u12 u13 u14 u15 u16 u17 u18 u19 u20 u21 u22 u23 u24 u25 u26 u27 u28 u29 u30 u31 u32 u33 u34 u35 u36 u37 u38 u39 u40 u41 u42 u43 u44 u45 u46 u47 u48 u49 u50 u51 u52 u53 u54 u55 u56 : Value), a' = { tmps := #[.string a0, .int .i64 a1, undef, undef, .int .u64 0, .int .i64 0, .int .i64 0, .int .u64 n, .int .i64 i, u9, u10, u11, u12, u13, u14, u15, u16, u17, u18, u19, u20, u21, u22, u23, u24, u25, u26, u27, u28, u29, u30, u31, u32, u33, u34, u35, u36, u37, u38, u39, u40, u41, u42, u43, u44, u45, u46, u47, u48, u49, u50, u51, u52, u53, u54, u55, u56], defers := [] } ∧ 0 ≤ i ∧ i ≤ 9 ∧ a1 + i ≤ a0.size ∧ Aside0 (getGo a0 a1 (10 - i.toNat) i n = (r1, r2, r3))) (fun a' _ => (9 - intOf (a'.tmps.getD 8 undef)).toNat) rfl ?pass ?first
  case first =>
    intro hp
    go_wp2
    go_step3
    rename_i hk
    exact hk _ _ (hp _ _ ⟨rfl, 0, 0, _, _, _, _, _, _, _, _, _, _, _, _, _, _, _, _, _, _, _, _, _, _, _, _, _, _, _, _, _, _, _, _, _, _, _, _, _, _, _, _, _, _, _, _, _, _, _, _, rfl, by omega, by omega, by omega, H⟩)
  case pass =>
    rintro a' w' ⟨rfl, i, n, u9, u10, u11, u12, u13, u14, u15, u16, u17, u18, u19, u20, u21, u22, u23, u24, u25, u26, u27, u28, u29, u30, u31, u32, u33, u34, u35, u36, u37, u38, u39, u40, u41, u42, u43, u44, u45, u46, u47, u48, u49, u50, u51, u52, u53, u54, u55, u56, rfl, hi0, hi9, hia, H⟩
    obtain ⟨k, hk⟩ : ∃ k, 10 - i.toNat = k + 1 := ⟨9 - i.toNat, by omega⟩
    rw [hk, getGo] at H
    have H := H.out
    by_cases c1 : a1 + i = (a0.size : Int)
    · have c1b : (a1 + i == (a0.size : Int)) = true := beq_iff_eq.mpr c1
      rw [if_pos c1] at H
      obtain ⟨rfl, rfl, rfl⟩ : 0 = r1 ∧ 0 = r2 ∧ 2 = r3 := by simpa using H
      clear c1 H hk
      go_wp2
      simp only [Exit.jump]
      go_ret3
      exact ⟨rfl, rfl⟩
    · rw [if_neg c1] at H
      have hlt : a1 + i < (a0.size : Int) := by omega
      have c1b : (a1 + i == (a0.size : Int)) = false := beq_eq_false_iff_ne.mpr c1
      have hx := bt_at a0 (a1 + i)
      have p1 : (0 ≤ a1 + i) = True := eq_true (by omega)
      have q1 : (a1 + i < (a0.size : Int)) = True := eq_true hlt
      have hb := bt_range a0 (a1 + i)
      obtain ⟨b, hbb⟩ : ∃ b, bt a0 (a1 + i) = b := ⟨_, rfl⟩
      rw [hbb] at hx hb H
      have HH := Aside0.mk H
      have HK := Aside0.mk hk
      clear c1 H hk hbb
      by_cases c4 : b = 0
      · obtain rfl := c4
        by_cases c2 : i ≤ 0
        · have H := HH.out
          rw [if_neg (by omega), if_neg (by omega), if_neg (by omega)] at H
          obtain ⟨rfl, rfl, rfl⟩ : stepN n 0 i = r1 ∧ a1 + (i + 1) = r2 ∧ 0 = r3 := by simpa using H
          have hi1 : i + 1 ≤ 1 := by omega
          have c3b : (i == 9) = false := beq_eq_false_iff_ne.mpr (by omega)
          clear H HH
          go_wp2
          simp only [Exit.jump]
          go_ret3
          exact ⟨rfl, rfl⟩
        · have H := HH.out
          rw [if_neg (by omega), if_neg (by omega), if_pos (by omega)] at H
          obtain ⟨rfl, rfl, rfl⟩ : 0 = r1 ∧ 0 = r2 ∧ 3 = r3 := by simpa using H
          have hi1 : 1 < i + 1 := by omega
          clear H HH c2
          by_cases c3 : i = 9
          · have c3b : (i == 9) = true := beq_iff_eq.mpr c3
            clear c3
            go_wp2
            simp only [Exit.jump]
            go_ret3
            exact ⟨rfl, rfl⟩
          · have c3b : (i == 9) = false := beq_eq_false_iff_ne.mpr c3
            clear c3
            go_wp2
            simp only [Exit.jump]
            go_ret3
            exact ⟨rfl, rfl⟩
      · have c4b : (b == 0) = false := beq_eq_false_iff_ne.mpr c4
        by_cases c2 : i = 9 ∧ b > 1
        · have H := HH.out
          rw [if_pos c2] at H
          obtain ⟨rfl, rfl, rfl⟩ : 0 = r1 ∧ 0 = r2 ∧ 3 = r3 := by simpa using H
          have c3b : (i == 9) = true := beq_iff_eq.mpr c2.1
          have c5 : 1 < b := c2.2
          clear H HH c2 c4
          go_wp2
          simp only [Exit.jump]
          go_ret3
          exact ⟨rfl, rfl⟩
        · have H := HH.out
          rw [if_neg c2] at H
          by_cases c6 : b ≥ 128
          · rw [if_pos c6] at H
            have hi8 : i ≤ 8 := by omega
            have c3b : (i == 9) = false := beq_eq_false_iff_ne.mpr (by omega)
            have HH := Aside0.mk (show getGo a0 a1 (10 - (i + 1).toNat) (i + 1) (stepN n b i) = (r1, r2, r3) by have hk := HK.out; rw [show 10 - (i + 1).toNat = k by omega]; exact H)
            clear H c2 c4 HK
            go_wp2
            go_step3
            refine ⟨rfl, ⟨rfl, i + 1, _, _, _, _, _, _, _, _, _, _, _, _, _, _, _, _, _, _, _, _, _, _, _, _, _, _, _, _, _, _, _, _, _, _, _, _, _, _, _, _, _, _, _, _, _, _, _, _, _, rfl, by omega, by omega, by omega, HH⟩, ?_⟩
            simp [intOf]
            omega
          · rw [if_neg c6, if_neg (by omega)] at H
            obtain ⟨rfl, rfl, rfl⟩ : stepN n b i = r1 ∧ a1 + (i + 1) = r2 ∧ 0 = r3 := by simpa using H
            have c7 : b < 128 := by omega
            by_cases c3 : i = 9
            · have c3b : (i == 9) = true := beq_iff_eq.mpr c3
              have c5 : b ≤ 1 := by omega
              clear c3 H HH c2 c4 c6 HK
              go_wp2
              simp only [Exit.jump]
              go_ret3
              exact ⟨rfl, rfl⟩
            · have c3b : (i == 9) = false := beq_eq_false_iff_ne.mpr c3
              clear c3 H HH c2 c4 c6 HK
              go_wp2
              simp only [Exit.jump]
              go_ret3
              exact ⟨rfl, rfl⟩

/-- What Get answers; told of strings of at most 2^47 bytes. -/
def varint_Get.f (a0 : ByteArray) (a1 : Int) : Option (Int × Int × Int) :=
  if a0.size ≤ 140737488351232 then some (if a1 < 0 ∨ a1 > (a0.size : Int) then (0, 0, 1) else getGo a0 a1 10 0 0) else none

set_option maxRecDepth 1000000 in
set_option maxHeartbeats 1000000 in
theorem varint_Get.calls (a0 : ByteArray) (a1 : Int) (r1 : Int) (r2 : Int) (r3 : Int) (w : World) (h : varint_Get.f a0 a1 = some (r1, r2, r3)) :
    Calls Try.prog 28 #[.string a0, .int .i64 a1] w fun e w' => e = .returned (.tuple #[.int .u64 r1, .int .i64 r2, .int .i64 r3]) ∧ Drawn0 w w' := by
  unfold varint_Get.f at h
  by_cases hs : a0.size ≤ 140737488351232
  · rw [if_pos hs] at h
    have h := Option.some.inj h
    by_cases c : a1 < 0 ∨ a1 > (a0.size : Int)
    · rw [if_pos c] at h
      obtain ⟨rfl, rfl, rfl⟩ : 0 = r1 ∧ 0 = r2 ∧ 1 = r3 := by simpa using h
      clear h
      rcases c with c | c
      · go_enter Try.func28, Try.ntmps28
        go_wp2
        go_step3
        go_wp2
        simp only [Exit.noGoto_ret]
        go_ret3
        exact ⟨rfl, ⟨0, rfl⟩⟩
      · have c' : (a0.size : Int) < a1 := c
        have c0 : 0 ≤ a1 := by omega
        clear c
        go_enter Try.func28, Try.ntmps28
        go_wp2
        go_step3
        go_wp2
        simp only [Exit.noGoto_ret]
        go_ret3
        exact ⟨rfl, ⟨0, rfl⟩⟩
    · rw [if_neg c] at h
      refine (getCalls a0 a1 r1 r2 r3 w hs (by omega) (by omega) h).mono ?_
      rintro e w' ⟨rfl, rfl⟩
      exact ⟨rfl, ⟨0, rfl⟩⟩
  · rw [if_neg hs] at h
    exact absurd h (by simp)
end Go.Proofs.Ytgchnnkbknaklaa.XGet
