/- slices.Concat of []rollcall/api.Change (and slices.Grow of a nil one): what it answers is a row of its own, the rows one behind the other; told of what stays below the limit of an append. -/
import Derived.Test.YthcmelchgnekpaaProg
import Derived.Below
import Derived.Deep.Draws
import Derived.Deep.AppendLies
import Derived.Maps.AppendAt
import Derived.OwnWalk
import Derived.Laws.BytesArg
import Derived.Laws.MakeOwn
import Derived.Laws.OwnMore
import Derived.Deep.OwnRows
import Derived.Tactics
import Derived.Lib.ConvBytes
import Derived.Laws.Slices
import Derived.WalkKit
import Derived.KernelRfl
import Derived.RowKit3
import Derived.Deep.LoopGhost
import Derived.Deep.QuietTactic
import Derived.BigQuiet
import Derived.WideLaws
import Derived.Deep.DeepCutAuto
import Derived.Deep.CutBlock
import Derived.Deep.RegionHeld3
import Derived.Laws.Rows
import Derived.Lib.AppendStr
import Derived.ArgAppend
import Derived.Laws.IdiomCopy
import Derived.OrdersHeld
import Derived.Laws.BitsLemmas
import Derived.RowKit
import Derived.Test.YthcmelchgnekpaaWWords
import Derived.Test.YthcmelchgnekpaaWLast
import Derived.Test.YthcmelchgnekpaaWTab
import Derived.Test.YthcmelchgnekpaaWFour
import Derived.Test.YthcmelchgnekpaaWQPut
import Derived.Test.YthcmelchgnekpaaWApart
import Derived.Test.YthcmelchgnekpaaWArr
import Derived.Test.YthcmelchgnekpaaWZeros
import Derived.Test.YthcmelchgnekpaaWFoot
import Derived.Test.YthcmelchgnekpaaWKept
import Derived.Test.YthcmelchgnekpaaWShare
import Derived.Test.YthcmelchgnekpaaWN
import Derived.Test.YthcmelchgnekpaaWFootNe
import Derived.Test.YthcmelchgnekpaaWAt
import Derived.Test.YthcmelchgnekpaaWEqStruct
import Derived.Test.YthcmelchgnekpaaWRepsOne
import Derived.Test.YthcmelchgnekpaaWInv
import Derived.Test.YthcmelchgnekpaaWInvWords
import Derived.Test.YthcmelchgnekpaaWGuard
import Derived.Test.YthcmelchgnekpaaWNEv
import Derived.Test.YthcmelchgnekpaaWMore
import Derived.Test.YthcmelchgnekpaaXKinds

namespace Go.Proofs.Ythcmelchgnekpaa.XConcatChg
open Go.RowKit Go.Proofs.YthcmelchgnekpaaW.PrintWords Go.Proofs.YthcmelchgnekpaaW.PrintLast Go.Proofs.YthcmelchgnekpaaW.PrintMore Go.Proofs.Ythcmelchgnekpaa.PA
set_option linter.unusedVariables false
set_option linter.unusedSimpArgs false
theorem infoE : (Try.prog.info? 33).map (fun i => (i.zero, i.size, i.bytes)) = some (some (.agg #[(.string ⟨#[]⟩), (.bool false), (.int .i64 0), (.int .i64 0), (.int .i64 0), (.string ⟨#[]⟩)]), 6, 64) := by kernel_rfl
def z : S33 := z33
set_option maxHeartbeats 8000000 in
set_option maxRecDepth 100000 in
/-- Grow of a nil slice: nothing, with room. -/
theorem grow (n : Int) (h0 : 0 ≤ n) (hn : n.toNat < 2199023255552) (w : World) :
    Calls Try.prog 52 #[.slice none 0 0, .int .i64 n] w fun e w' => ∃ v0_ : Value, e = .returned (v0_) ∧ Kd.R k33 33 w' w.heap.size (fun _ => True) v0_ [] ∧ Below w.heap.size w w' := by
  have HB := Aside0.mk (Below.refl w.heap.size w)
  have hn9 : n ≤ 9223372036854775807 := by omega
  have LM := Aside0.mk hn
  clear hn
  by_cases c : 0 < n
  · go_enter Try.func52, Try.ntmps52
    go_wp2_with ((with_reducible refine gate_builtin (b := .append) (xs := #[.tmp 20, .tmp 21]) rfl ?_); at_builtin; refine Kd.R_append_zeros k33 (w0 := w) w.heap.size rfl (.tmp 20) (.tmp 21) 22 3 33 (.agg #[(.string ⟨#[]⟩), (.bool false), (.int .i64 0), (.int .i64 0), (.int .i64 0), (.string ⟨#[]⟩)]) 64 rfl Try.underlying22 Try.underlying3 infoE rfl (by decide) (by omega) (.slice none 0 0) ([] : List S33) z n (fun _ => True) rfl rfl (k33_mkM _ _ _ z) (fun _ _ => trivial) (Kd.R_nil _ _ _ _ _) h0 ?aB ?aS ?aL ?_; (case aB => exact (by repeat (first | (with_reducible first | exact HB.out | apply below_alloc | apply pw_below_drewN | apply below_drew1) | exact HB.out))); (case aS => exact (below_size (by repeat (first | (with_reducible first | exact HB.out | apply below_alloc | apply pw_below_drewN | apply below_drew1) | exact HB.out)))); (case aL => have := LM.out; simp only [List.length_nil, Nat.zero_add]; omega); intro v1 w1 ho hb hg hat; obtain ⟨A1, c1, rfl, hle, _⟩ := Kd.R_reads ho; have hcut := Kd.R_take ho (Nat.zero_le _); have n0_ := Aside0.mk hb; clear HB; have HB := n0_; have HO := Aside0.mk hcut; clear n0_ hb ho hcut hg hat)
    go_ret
    exact ⟨_, rfl, by (with_reducible repeat (first | apply Kd.R_alloc | apply Kd.R_drewN | apply Kd.R_drew)); exact HO.out, by repeat (first | (with_reducible first | exact HB.out | apply below_alloc | apply pw_below_drewN | apply below_drew1) | exact HB.out)⟩
  · have c' : n ≤ 0 := by omega
    clear c
    go_enter Try.func52, Try.ntmps52
    go_wp2
    go_ret
    exact ⟨_, rfl, Kd.R_nil _ _ _ _ _, HB.out⟩
theorem row_at {w : World} {A : Option Addr} {n : Nat} {ls : List (List S33)} (h : Kd.C (Kd.slice 33 k33) w A n ls) (k : Nat) (hk : k < n) :
    ∃ ad A0 c0, A = some ad ∧ w.cell? (ad.add k) = some (.slice A0 (ls.getD k []).length c0) ∧ (ls.getD k []).length ≤ c0 ∧ Kd.C k33 w A0 (ls.getD k []).length (ls.getD k []) := by
  obtain ⟨ad, c, e, _, hK, hc0⟩ := Kd.C_get h ([] : List S33) (k : Int) (by omega) (by omega)
  obtain ⟨A0, c0, rfl, l0, g0⟩ := hK
  have hq := hc0 0 _ rfl
  rw [Int.toNat_natCast] at hq g0 l0
  refine ⟨ad, A0, c0, e, ?_, l0, g0⟩
  have e1 : k * (Kd.slice 33 k33).sz + 0 = k := by show k * 1 + 0 = k; omega
  rw [e1] at hq
  exact hq
theorem flat_take (ls : List (List S33)) (k : Nat) (hk : k < ls.length) : (ls.take (k + 1)).flatten = (ls.take k).flatten ++ ls.getD k [] := by
  rw [List.take_succ_eq_append_getElem hk, List.flatten_append, List.flatten_singleton, List.getD_eq_getElem?_getD, List.getElem?_eq_getElem hk]
  rfl
theorem flat_le (ls : List (List S33)) (k : Nat) : (ls.take k).flatten.length ≤ ls.flatten.length := by
  have : ls.flatten = (ls.take k).flatten ++ (ls.drop k).flatten := by rw [← List.flatten_append, List.take_append_drop]
  rw [this, List.length_append]
  omega
def slices_Concat.f (ls : List (List S33)) : Option (List S33) := if ls.length < 4611686018427387904 ∧ ls.flatten.length < 2199023255552 then some ls.flatten else none
set_option maxHeartbeats 16000000 in
set_option maxRecDepth 100000 in
theorem slices_Concat.calls (A0 : Option Addr) (c0 : Nat) (l0 : List (List S33)) (r : List S33) (w : World) (hr0 : Kd.C (Kd.slice 33 k33) w A0 l0.length l0) (hc0 : l0.length ≤ c0) (h : slices_Concat.f l0 = some r) :
    Calls Try.prog 40 #[.slice A0 l0.length c0] w fun e w' => ∃ v0_ : Value, e = .returned (v0_) ∧ Kd.R k33 33 w' w.heap.size (fun _ => True) v0_ r ∧ Below w.heap.size w w' := by
  unfold slices_Concat.f at h
  by_cases c : l0.length < 4611686018427387904 ∧ l0.flatten.length < 2199023255552
  · rw [if_pos c] at h
    obtain rfl := Option.some.inj h
    clear h
    have LN := c.1
    have LM := Aside0.mk c.2
    have HR := Aside0.mk hr0
    clear c hr0 hc0
    obtain ⟨n, hn⟩ : ∃ n, n = l0.length := ⟨_, rfl⟩
    rw [← hn] at LN
    rw [← hn]
    have HN := Aside0.mk hn
    clear hn
    go_enter Try.func40, Try.ntmps40
    go_wp2
    go_loop [3, 11] (fun s i => ∃ k t : Nat, k ≤ n ∧ t < 2199023255552 ∧ i = .int .i64 k ∧ s = .int .i64 (t : Int) ∧ Aside0 (t = (l0.take k).flatten.length)) (fun _ i => n - (intOf i).toNat)
    case atStart => exact ⟨0, 0, Nat.zero_le _, by omega, rfl, rfl, ⟨by simp⟩⟩
    case round =>
      obtain ⟨k, t, hk, ht, rfl, rfl, HT⟩ := hrel
      by_cases hlt : k < n
      · obtain ⟨ad, A1, c1, hA, hcell, hl1, hC1⟩ := row_at HR.out k (by have := HN.out; omega)
        have hlen : (l0.take (k + 1)).flatten.length < 2199023255552 := by have := flat_le l0 (k + 1); have := LM.out; omega
        have hft := flat_take l0 k (by have := HN.out; omega)
        rw [hft, List.length_append] at hlen
        have HT2 := Aside0.mk (show t + (l0.getD k []).length = (l0.take (k + 1)).flatten.length by rw [hft, List.length_append, HT.out])
        rw [← HT.out] at hlen
        obtain ⟨m, hm⟩ : ∃ m, m = (l0.getD k []).length := ⟨_, rfl⟩
        rw [← hm] at hcell hlen HT2
        subst hA
        clear hft hm hC1 hl1
        go_wp2
        all_goals
          go_round
          case rel => exact ⟨k + 1, t + m, by omega, hlen, by go_num, by go_num, HT2⟩
          case measure => simp [intOf]; omega
      · obtain rfl : n = k := by omega
        have HB := Aside0.mk (Below.refl w.heap.size w)
        go_wp2_with (go_at_call 52; refine (grow (t : Int) (by omega) (by omega) _).mono ?_; rintro e w1 ⟨v1, rfl, ho1, hb1⟩; have HO := Aside0.mk (Kd.R_lower ho1 (Nat.le_refl _)); have n0_ := Aside0.mk hb1; clear HB; have HB := n0_; clear n0_ ho1 hb1)
        clear HT
        go_loopw [6, 27] (fun v i wr => ∃ (k : Nat) (xs : List S33), k ≤ n ∧ i = .int .i64 k ∧ Aside0 (xs = (l0.take k).flatten) ∧ Aside0 (Kd.R k33 33 wr w.heap.size (fun _ => True) v xs) ∧ Aside0 (Below w.heap.size w wr)) (fun _ i _ => n - (intOf i).toNat)
        case atStart => exact ⟨0, [], Nat.zero_le _, rfl, ⟨by simp⟩, HO, HB⟩
        case round =>
          clear HO HB
          obtain ⟨k, xs, hk, rfl, HX, HO, HB⟩ := hrel
          by_cases hlt : k < n
          · obtain ⟨ad, A1, c1, hA, hcell, hl1, hC1⟩ := row_at (Kd.C_below HR.out HB.out) k (by have := HN.out; omega)
            have hft := flat_take l0 k (by have := HN.out; omega)
            have hlen : (l0.take (k + 1)).flatten.length < 2199023255552 := by have := flat_le l0 (k + 1); have := LM.out; omega
            rw [hft, List.length_append, ← HX.out] at hlen
            have hX2 : xs ++ l0.getD k [] = (l0.take (k + 1)).flatten := by rw [hft, HX.out]
            clear hft
            obtain ⟨y, hy⟩ : ∃ y, y = l0.getD k [] := ⟨_, rfl⟩
            rw [← hy] at hX2 hcell hl1 hC1 hlen
            have HX2 := Aside0.mk hX2
            have HRk := Aside0.mk hC1
            have LMk := Aside0.mk hlen
            subst hA
            clear hy hX2 hC1 hl1 hlen HX
            go_wp2_with (first | ((with_reducible refine gate_builtin (b := .append) (xs := #[.tmp 31, .tmp 32]) rfl ?_); at_builtin; refine Kd.R_append_rows k33 (w0 := w) w.heap.size rfl (.tmp 31) (.tmp 32) 22 33 (.agg #[(.string ⟨#[]⟩), (.bool false), (.int .i64 0), (.int .i64 0), (.int .i64 0), (.string ⟨#[]⟩)]) 64 rfl Try.underlying22 infoE rfl (by decide) (by omega) u6 xs y _ _ _ (fun _ => True) (fun _ => False) rfl rfl ?aO ?aR (fun _ _ h => h) (fun _ h => h.elim) ?aF ?aB ?aS ?aL ?_; (case aR => repeat (first | exact HRk.out | (with_reducible refine Kd.C_alloc ?_ _) | (with_reducible refine Kd.C_drewN ?_ _) | (with_reducible refine Kd.C_drew ?_))); (case aB => exact (by repeat (first | (with_reducible first | exact HB.out | apply below_alloc | apply pw_below_drewN | apply below_drew1) | exact HB.out))); (case aF => exact (fun _ _ => trivial)); (case aO => exact (by (with_reducible repeat (first | apply Kd.R_alloc | apply Kd.R_drewN | apply Kd.R_drew)); exact HO.out)); (case aS => exact (below_size (by repeat (first | (with_reducible first | exact HB.out | apply below_alloc | apply pw_below_drewN | apply below_drew1) | exact HB.out)))); (case aL => have := LMk.out; omega); intro v_HO2 w_HO2 ho hb hg hat; have n0_ := Aside0.mk (hb); have n1_ := Aside0.mk (ho); clear HB; clear HO; have HB := n0_; have HO2 := n1_; clear n0_ n1_; clear ho hb hg hat))
            go_roundw
            case rel => exact ⟨k + 1, _, by omega, by go_num, HX2, HO2, HB⟩
            case measure => simp [intOf]; omega
          · obtain rfl : n = k := by omega
            have hx : xs = l0.flatten := by rw [HX.out, List.take_of_length_le (by have := HN.out; omega)]
            subst hx
            clear HX
            go_wp2
            go_ret
            exact ⟨_, rfl, HO.out, HB.out⟩
  · rw [if_neg c] at h
    exact absurd h (by simp)
end Go.Proofs.Ythcmelchgnekpaa.XConcatChg
