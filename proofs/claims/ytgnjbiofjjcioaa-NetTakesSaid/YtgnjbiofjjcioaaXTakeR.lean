/- The reference of net.Take, walked: a text of a list, and the list without it; told of lists below the limit of an append. -/
import Derived.Test.YtgnjbiofjjcioaaProg
import Derived.Below
import Derived.Deep.Draws
import Derived.Deep.AppendLies
import Derived.Maps.AppendAt
import Derived.OwnWalk
import Derived.Laws.BytesArg
import Derived.Laws.MakeOwn
import Derived.Laws.OwnMore
import Derived.Deep.OwnRows
import Derived.Tactics
import Derived.Lib.ConvBytes
import Derived.Laws.Slices
import Derived.WalkKit
import Derived.KernelRfl
import Derived.RowKit3
import Derived.Deep.LoopGhost
import Derived.Deep.QuietTactic
import Derived.BigQuiet
import Derived.WideLaws
import Derived.Deep.DeepCutAuto
import Derived.Deep.CutBlock
import Derived.Laws.Rows
import Derived.Lib.AppendStr
import Derived.ArgAppend
import Derived.Laws.IdiomCopy
import Derived.OrdersHeld
import Derived.Laws.BitsLemmas
import Derived.RowKit
import Derived.Test.YtgnjbiofjjcioaaWWords
import Derived.Test.YtgnjbiofjjcioaaWLast
import Derived.Test.YtgnjbiofjjcioaaWTab
import Derived.Test.YtgnjbiofjjcioaaWFour
import Derived.Test.YtgnjbiofjjcioaaWQPut
import Derived.Test.YtgnjbiofjjcioaaWApart
import Derived.Test.YtgnjbiofjjcioaaWArr
import Derived.Test.YtgnjbiofjjcioaaWZeros
import Derived.Test.YtgnjbiofjjcioaaWFoot
import Derived.Test.YtgnjbiofjjcioaaWKept
import Derived.Test.YtgnjbiofjjcioaaWShare
import Derived.Test.YtgnjbiofjjcioaaWN
import Derived.Test.YtgnjbiofjjcioaaWFootNe
import Derived.Test.YtgnjbiofjjcioaaWAt
import Derived.Test.YtgnjbiofjjcioaaWEqStruct
import Derived.Test.YtgnjbiofjjcioaaWRepsOne
import Derived.Test.YtgnjbiofjjcioaaWInv
import Derived.Test.YtgnjbiofjjcioaaWInvWords
import Derived.Test.YtgnjbiofjjcioaaWGuard
import Derived.Test.YtgnjbiofjjcioaaWNEv
import Derived.Test.YtgnjbiofjjcioaaWMore
import Derived.Test.YtgnjbiofjjcioaaXRows
import Derived.Deep.RegionHeld3
namespace Go.Proofs.Ytgnjbiofjjcioaa.XTakeR
open Go.RowKit Go.Proofs.YtgnjbiofjjcioaaW.PrintWords Go.Proofs.YtgnjbiofjjcioaaW.PrintLast Go.Proofs.YtgnjbiofjjcioaaW.PrintMore Go.Proofs.Ytgnjbiofjjcioaa.XRows
set_option linter.unusedVariables false
set_option linter.unusedSimpArgs false
theorem infoE : (Try.prog.info? 9).map (fun i => (i.zero, i.size, i.bytes)) = some (some (.string ⟨#[]⟩), 1, 16) := by kernel_rfl
def takeF (l : List ByteArray) (i : Int) : Option (ByteArray × List ByteArray × Int) :=
  if l.length < 8796093022208 then
    some (if i < 0 ∨ i ≥ (l.length : Int) then (⟨#[]⟩, l, 6) else (rdOf ByteArray.empty l i, l.eraseIdx i.toNat, 0))
  else none
def rollcallref22_Take.f := takeF
theorem lit_row {α : Type} (d : Kd α) (W : World) (base e : Nat) (h : base ≤ W.heap.size) : d.R e (W.alloc (.cells #[] e)) base (fun _ => True) (.slice (some ⟨W.heap.size, 0, none⟩) 0 0) [] := by
  refine ⟨fun _ _ => trivial, [], ⟨by simp, .inr ⟨W.heap.size, 0, #[], rfl, h, heap_alloc_new W _, Nat.le_refl _, Nat.zero_le _, by simp, by simp⟩⟩, Reps.none _ _⟩
set_option maxHeartbeats 16000000 in
set_option maxRecDepth 100000 in
theorem rollcallref22_Take.calls (P0_ : Nat → Prop) (A0 : Option Addr) (c0 : Nat) (l0 : List ByteArray) (a1 : Int) (r1 : ByteArray) (r2 : List ByteArray) (r3 : Int) (w : World) (hs0 : Kd.V Kd.string 9 w w.heap.size (fun k_ => P0_ k_) (.slice A0 l0.length c0) l0) (h : rollcallref22_Take.f l0 a1 = some (r1, r2, r3)) :
    Calls Try.prog 16 #[.slice A0 l0.length c0, .int .i64 a1] w fun e w' => ∃ v1_ : Value, e = .returned (.tuple #[.string r1, v1_, .int .i64 r3]) ∧ Kd.V Kd.string 9 w' w.heap.size (fun k_ => (P0_ k_ ∨ w.heap.size ≤ k_)) v1_ r2 ∧ Below w.heap.size w w' := by
  unfold rollcallref22_Take.f takeF at h
  by_cases c : l0.length < 8796093022208
  · rw [if_pos c] at h
    replace h := Option.some.inj h
    have hV := Kd.V_mono hs0 (ok' := fun k_ => (P0_ k_ ∨ w.heap.size ≤ k_)) (fun k hk => .inl hk)
    have hC := (Kd.V_reads' hs0).2.2
    have hc0 := (Kd.V_reads' hs0).2.1
    clear hs0
    have HV := Aside0.mk hV
    have HC := Aside0.mk hC
    clear hV hC
    by_cases c1 : a1 < 0 ∨ a1 ≥ (l0.length : Int)
    · rw [if_pos c1] at h
      obtain ⟨rfl, rfl, rfl⟩ : (⟨#[]⟩ : ByteArray) = r1 ∧ l0 = r2 ∧ 6 = r3 := by simpa using h
      clear h
      rcases c1 with c1 | c1
      · go_enter Try.func16, Try.ntmps16
        go_wp2
        go_ret3
        exact ⟨_, rfl, HV.out, Below.refl _ _⟩
      · have c2 : (l0.length : Int) ≤ a1 := c1
        have c3 : 0 ≤ a1 := by omega
        clear c1
        go_enter Try.func16, Try.ntmps16
        go_wp2
        go_ret3
        exact ⟨_, rfl, HV.out, Below.refl _ _⟩
    · rw [if_neg c1] at h
      obtain ⟨rfl, rfl, rfl⟩ : rdOf ByteArray.empty l0 a1 = r1 ∧ l0.eraseIdx a1.toNat = r2 ∧ 0 = r3 := by simpa using h
      clear h
      have i0 : 0 ≤ a1 := by omega
      have i1 : a1 < l0.length := by omega
      clear c1
      obtain ⟨ad, hA, hcell⟩ := Kd.at_string HC.out a1 i0 i1
      subst hA
      obtain ⟨i, rfl⟩ := Int.eq_ofNat_of_zero_le i0
      obtain ⟨s, hs⟩ : ∃ s, s = rdOf ByteArray.empty l0 (i : Int) := ⟨_, rfl⟩
      rw [← hs] at hcell ⊢
      rw [Int.toNat_natCast] at hcell ⊢
      obtain ⟨n, hn⟩ : ∃ n, n = l0.length := ⟨_, rfl⟩
      have hct := Kd.C_take (m := i) HC.out (by omega)
      have hcd := Kd.C_drop (m := i + 1) HC.out (by omega) hc0
      rw [show (l0.take i).length = i by rw [List.length_take]; omega] at hct
      rw [List.length_drop, show (if c0 = i + 1 then some ad else Option.map (fun x => x.add ((i + 1) * Kd.string.sz)) (some ad)) = if c0 = i + 1 then some ad else some (ad.add (i + 1)) by simp [show Kd.string.sz = 1 from rfl]] at hcd
      rw [← hn] at hcd
      have HCt := Aside0.mk hct
      have HCd := Aside0.mk hcd
      clear hct hcd
      have lt1 := World.block_lt_of_cell? w _ hcell
      have LT := Aside0.mk lt1
      rw [← hn] at c hc0 i1 ⊢
      have HN := Aside0.mk hn
      have i2 : i < n := by omega
      have i3 : i ≤ c0 := by omega
      have i4 : i + 1 ≤ n := by omega
      have i5 : (0 : Int) ≤ (i : Int) + 1 := by omega
      have i6 : (i : Int) + 1 ≤ (n : Int) := by omega
      have i7 : ((i : Int) + 1).toNat = i + 1 := by omega
      have LC := Aside0.mk c
      have hwr : IntKind.i64.wrap ((i : Int) + 1) = (i : Int) + 1 := by rw [IntKind.wrap_i64]; omega
      clear hn hs lt1 i0
      go_enter Try.func16, Try.ntmps16
      have HB := Aside0.mk (Below.refl w.heap.size w)
      go_wp2_with fail
      go_region_held3 (fun w' => w'.cell? (ad.add i) = some (.string s)) (first | go_keep | (rw [HB.out.cell LT.out]; assumption)) ((first | (refine Kd.R_append_rows_step Kd.string (w0 := w) w.heap.size (by rfl) (.tmp 20) (.tmp 23) 22 9 (.string ⟨#[]⟩) 16 (by rfl) Try.underlying22 infoE rfl (by decide) (by omega) _ [] (l0.take i) _ _ _ (fun _ => True) (fun _ => False) (by rfl) (by rfl) (by first | exact lit_row Kd.string _ _ _ (Nat.le_refl _) | exact Kd.R_drew (lit_row Kd.string _ _ _ (Nat.le_refl _))) (by first | exact Kd.C_below HCt.out HB.out | exact Kd.C_alloc (Kd.C_below HCt.out HB.out) _ | exact Kd.C_drew (Kd.C_alloc (Kd.C_below HCt.out HB.out) _)) (fun _ _ h => h) (fun _ h => h.elim) (fun _ _ => trivial) (by repeat (first | (with_reducible first | exact HB.out | apply below_alloc | apply pw_below_drewN | apply below_drew1) | exact HB.out)) (below_size (by repeat (first | (with_reducible first | exact HB.out | apply below_alloc | apply pw_below_drewN | apply below_drew1) | exact HB.out))) (by simp; omega) ?_; intro v_HOb w_HOb ho hb hg hat; have n0_ := Aside0.mk hb; have HOb := Aside0.mk ho; clear HB; have HB := n0_; clear n0_ ho hb hg hat) | (refine Kd.R_append_rows_step Kd.string (w0 := w) w.heap.size (by rfl) (.tmp 24) (.tmp 28) 22 9 (.string ⟨#[]⟩) 16 (by rfl) Try.underlying22 infoE rfl (by decide) (by omega) v_HOb _ (l0.drop (i + 1)) _ _ _ (fun _ => True) (fun _ => False) (by rfl) (by rfl) (by (with_reducible repeat (first | apply Kd.R_alloc | apply Kd.R_drewN | apply Kd.R_drew)); exact HOb.out) (by first | exact Kd.C_below HCd.out HB.out) (fun _ _ h => h) (fun _ h => h.elim) (fun _ _ => trivial) (by repeat (first | (with_reducible first | exact HB.out | apply below_alloc | apply pw_below_drewN | apply below_drew1) | exact HB.out)) (below_size (by repeat (first | (with_reducible first | exact HB.out | apply below_alloc | apply pw_below_drewN | apply below_drew1) | exact HB.out))) (by have := LC.out; have := HN.out; simp; omega) ?_; intro v_HOc w_HOc ho hb hg hat; have n0_ := Aside0.mk hb; have HOc := Aside0.mk ho; clear HB; have HB := n0_; clear n0_ ho hb hg hat)))
      go_wp2
      all_goals
        go_ret3
        refine ⟨_, rfl, ?_, HB.out⟩
        rw [List.eraseIdx_eq_take_drop_succ]
        exact Kd.R_V (Kd.R_mono (Kd.R_bound HOc.out) (fun k hk => .inr hk.2.1))
  · rw [if_neg c] at h
    exact absurd h (by simp)
end Go.Proofs.Ytgnjbiofjjcioaa.XTakeR
