/- law17's live, walked: its answers are those that the document gives. -/
import Derived.Test.YthcmelchgnekpaaXMem
import Derived.Test.YthcmelchgnekpaaPAx4
import Derived.Test.YthcmelchgnekpaaPAx5
import Derived.Deep.DeepCutAuto
import Derived.Deep.RegionHeld3
namespace Go.Proofs.Ythcmelchgnekpaa.XLive17
open Go.RowKit Go.Proofs.YthcmelchgnekpaaW.PrintWords Go.Proofs.YthcmelchgnekpaaW.PrintLast Go.Proofs.YthcmelchgnekpaaW.PrintMore Go.Proofs.Ythcmelchgnekpaa.XQuiet Go.Proofs.Ythcmelchgnekpaa.XMem Go.Proofs.Ythcmelchgnekpaa.PA
set_option linter.unusedVariables false
set_option linter.unusedSimpArgs false
abbrev Ch := S33
abbrev kCh : Kd Ch := k33
abbrev Se := S52
abbrev kSe : Kd Se := k52
theorem push_im {w : World} {v : Value} {l : List Ch} {b : Bool} {a0 : ByteArray} {a1 : Bool} {a2 a3 a4 : Int} {a5 : ByteArray} {room : Int} {r1 : List Ch} {r2 : Bool} (h : Im kCh w v l) (n : Nat) (hf : queue_Push.f l b a0 a1 a2 a3 a4 a5 room = some (r1, r2)) (hn : r1.length = n) :
    Calls Try.prog 26 #[.agg #[v, .bool b], .agg #[.string a0, .bool a1, .int .i64 a2, .int .i64 a3, .int .i64 a4, .string a5], .int .i64 room] w fun e w' => ∃ A c, e = .returned (.agg #[.slice A n c, .bool r2]) ∧ Im kCh w' (.slice A n c) r1 ∧ Below w.heap.size w w' := by
  subst hn
  obtain ⟨A, c, rfl, hc, hF⟩ := h
  exact (queue_Push.calls (fun _ => True) A c l b a0 a1 a2 a3 a4 a5 room r1 r2 w ⟨A, c, rfl, hc, hF⟩ hf).mono fun e w' ⟨v0, he, hV, hb⟩ => by
    obtain ⟨A', c', rfl⟩ := Kd.V_slice hV
    exact ⟨A', c', he, Im.of_V hV, hb⟩
theorem pop_im {w : World} {v : Value} {l : List Ch} {b : Bool} {r1 : ByteArray} {r2 : Bool} {r3 r4 r5 : Int} {r6 : ByteArray} {r7 : List Ch} {r8 r9 : Bool} (h : Im kCh w v l) (n : Nat) (hf : queue_Pop.f l b = some (r1, r2, r3, r4, r5, r6, r7, r8, r9)) (hn : r7.length = n) :
    Calls Try.prog 15 #[.agg #[v, .bool b]] w fun e w' => ∃ A c, e = .returned (.tuple #[.agg #[.string r1, .bool r2, .int .i64 r3, .int .i64 r4, .int .i64 r5, .string r6], .agg #[.slice A n c, .bool r8], .bool r9]) ∧ Im kCh w' (.slice A n c) r7 ∧ Below w.heap.size w w' := by
  subst hn
  obtain ⟨A, c, rfl, hc, hF⟩ := h
  exact (queue_Pop.calls (fun _ => True) A c l b r1 r2 r3 r4 r5 r6 r7 r8 r9 w ⟨A, c, rfl, hc, hF⟩ hf).mono fun e w' ⟨v0, he, hV, hb⟩ => by
    obtain ⟨A', c', rfl⟩ := Kd.V_slice hV
    exact ⟨A', c', he, Im.of_V hV, hb⟩
theorem find_im {w : World} {v : Value} {l : List Ch} {b : Bool} {s : ByteArray} {r1 : ByteArray} {r2 : Bool} {r3 r4 r5 : Int} {r6 : ByteArray} {r7 : Bool} (h : Im kCh w v l) (hf : queue_Find.f l b s = some (r1, r2, r3, r4, r5, r6, r7)) :
    Calls Try.prog 17 #[.agg #[v, .bool b], .string s] w fun e w' => e = .returned (.tuple #[.agg #[.string r1, .bool r2, .int .i64 r3, .int .i64 r4, .int .i64 r5, .string r6], .bool r7]) ∧ Below w.heap.size w w' := by
  obtain ⟨A, c, rfl, hc, hC⟩ := h.slice
  exact queue_Find.calls A c l b s r1 r2 r3 r4 r5 r6 r7 w hC hc hf
theorem same_im {w : World} {v1 v2 : Value} {l1 l2 : List Ch} {b1 b2 r : Bool} (h1 : Im kCh w v1 l1) (h2 : Im kCh w v2 l2) (hf : rollcallref17_Same.f 100 l1 b1 l2 b2 = some r) :
    Calls Try.prog 19 #[.agg #[v1, .bool b1], .agg #[v2, .bool b2]] w fun e w' => e = .returned (.bool r) ∧ Below w.heap.size w w' := by
  obtain ⟨A, c, rfl, hc, hC⟩ := h1.slice
  obtain ⟨A2, c2, rfl, hc2, hC2⟩ := h2.slice
  exact rollcallref17_Same.calls 100 A c l1 b1 A2 c2 l2 b2 r w hC hc hC2 hc2 hf
theorem may_im {w : World} {v : Value} {l : List Ch} {b r : Bool} {room : Int} (h : Im kCh w v l) (hf : queue_May.f 100 l b room = some r) :
    Calls Try.prog 13 #[.agg #[v, .bool b], .int .i64 room] w fun e w' => e = .returned (.bool r) ∧ Below w.heap.size w w' := by
  obtain ⟨A, c, rfl, hc, hC⟩ := h.slice
  exact queue_May.calls 100 A c l b room r w hC hc hf
theorem empty_im {w : World} {v : Value} {l : List Ch} {b r : Bool} (h : Im kCh w v l) (hf : queue_Empty.f l b = some r) :
    Calls Try.prog 20 #[.agg #[v, .bool b]] w fun e w' => e = .returned (.bool r) ∧ Below w.heap.size w w' := by
  obtain ⟨A, c, rfl, hc, hC⟩ := h.slice
  exact queue_Empty.calls A c l b r w hC hc hf
theorem over_im {w : World} {v1 v2 : Value} {t : List Se} {l : List Ch} {b : Bool} {r : List Se} (h1 : Im kSe w v1 t) (h2 : Im kCh w v2 l) (n : Nat) (hf : queue_Over.f 100 t l b = some r) (hn : r.length = n) :
    Calls Try.prog 23 #[v1, .agg #[v2, .bool b]] w fun e w' => ∃ A c, e = .returned (.slice A n c) ∧ Im kSe w' (.slice A n c) r ∧ Below w.heap.size w w' := by
  subst hn
  obtain ⟨A, c, rfl, hc, hF⟩ := h1
  obtain ⟨A2, c2, rfl, hc2, hC2⟩ := h2.slice
  exact (queue_Over.calls 100 (fun _ => True) A c t A2 c2 l b r w ⟨A, c, rfl, hc, hF⟩ hC2 hc2 hf).mono fun e w' ⟨v0, he, hV, hb⟩ => by
    obtain ⟨A', c', rfl⟩ := Kd.V_slice hV
    exact ⟨A', c', he, Im.of_V hV, hb⟩
abbrev sa : ByteArray := ⟨#[97]⟩
abbrev sb : ByteArray := ⟨#[98]⟩
abbrev s0 : ByteArray := ⟨#[]⟩
abbrev cb : Ch := ⟨⟨#[98]⟩, false, ⟨0, 0, 0, ⟨#[]⟩⟩⟩
abbrev ca : Ch := ⟨⟨#[97]⟩, true, ⟨4, 0, 0, ⟨#[]⟩⟩⟩
abbrev cc : Ch := ⟨⟨#[97]⟩, false, ⟨0, 0, 0, ⟨#[]⟩⟩⟩
/-- A queue's own cells hold no changes. -/
theorem im_far {w : World} {p t n c : Nat} {A : Option Addr} {b : Bool} {v : Value} {l : List Ch} (h : Im kCh w v l) (hp : w.heap[p]? = some (.cells #[.slice A n c, .bool b] t (0, 0))) (i : Nat) (x : Value) : Im kCh (w.setCell ⟨p, i, none⟩ x) v l := by
  obtain ⟨B, d, rfl, hc, hC⟩ := h.slice
  have hC' : kCh.C (w.setCell ⟨p, i, none⟩ x) B l.length l := by
    refine Kd.C_foot_ne (fun {_ _ _ _} hK => by obtain rfl := k33_open hK; exact k33_mk _ _) hC (fun ad ha hn hg => ?_) _ ((KeepBut.refl w p none).set_ i x)
    obtain ⟨ad', he, h0, _⟩ := at_T33 hC 0 (by omega) (by omega)
    rw [ha] at he
    injection he with he
    subst he
    obtain ⟨bl, of, fr⟩ := ad
    simp only at hg
    subst hg
    rw [show Int.toNat 0 * 6 = 0 from rfl] at h0
    cases fr with
    | some q => simp [Addr.add, World.cell?, hp] at h0
    | none =>
      have h1 := blk_cell hp of
      simp only [Addr.add, if_true] at h0
      rw [h1] at h0
      rcases of with _ | _ | of <;> simp at h0
  exact ⟨B, d, rfl, hc, Kd.F_mono (Kd.C_F k33_heap hC') (fun _ _ => trivial)⟩
end Go.Proofs.Ythcmelchgnekpaa.XLive17
