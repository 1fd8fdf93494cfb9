/- The reference's heap, walked: place, Get. -/
import Derived.Test.YtejhkadalahcjaaXHeapNil
namespace Go.Proofs.Ytejhkadalahcjaa.XHeap
open Go.RowKit Go.Proofs.YtejhkadalahcjaaW.PrintWords Go.Proofs.YtejhkadalahcjaaW.PrintLast Go.Proofs.YtejhkadalahcjaaW.PrintMore Go.Proofs.Ytejhkadalahcjaa.XBetter Go.Proofs.Ytejhkadalahcjaa.XMap Go.Proofs.Ytejhkadalahcjaa.PA
set_option linter.unusedVariables false
set_option linter.unusedSimpArgs false
abbrev RSlot := S37
abbrev kR : Kd RSlot := k37
def back (s : Slot) : RSlot := ⟨s.f0, ⟨s.f1.f0, s.f1.f1, s.f1.f2⟩⟩
structure RefAt (w : World) (base a : Nat) (v : Value) (l : List Slot) : Prop where
  hd : w.heap[a]? = some (.cells #[v] 28 (0, 0))
  sl : kR.R 37 w base (fun _ => True) v (l.map back)
  ha : base ≤ a
section
variable {w : World} {base a : Nat} {v : Value} {l : List Slot}
theorem RefAt.c0 (h : RefAt w base a v l) : w.cell? ⟨a, 0, none⟩ = some v := blk_cell h.hd 0
theorem RefAt.of_below (h : RefAt w base a v l) {w' : World} (k : Below w.heap.size w w') : RefAt w' base a v l := ⟨blk_below h.hd k, Kd.R_below h.sl k, h.ha⟩
theorem RefAt.form (h : RefAt w base a v l) (hl : 0 < l.length) : ∃ g c, v = .slice (some ⟨g, 0, none⟩) l.length c ∧ base ≤ g ∧ g ≠ a ∧ g < w.heap.size := by
  obtain ⟨g, c, hv, h1, h2, cur, h3⟩ := Kd.R_form h.sl (by rw [List.length_map]; exact hl)
  rw [List.length_map] at hv
  refine ⟨g, c, hv, h1, fun e => ?_, h2⟩
  subst e; rw [h.hd] at h3; simp at h3
end
theorem RefAt.slot {w : World} {base a g c : Nat} {l : List Slot} (h : RefAt w base a (.slice (some ⟨g, 0, none⟩) l.length c) l) (i : Nat) (hi : i < l.length) :
    w.cell? ⟨g, i * 4, none⟩ = some (.int .i64 (at_ l i).f0) ∧ w.cell? ⟨g, i * 4 + 1, none⟩ = some (.int .i64 (at_ l i).f1.f0) ∧ w.cell? ⟨g, i * 4 + 2, none⟩ = some (.int .i64 (at_ l i).f1.f1) ∧ w.cell? ⟨g, i * 4 + 3, none⟩ = some (.int .i64 (at_ l i).f1.f2) ∧
    w.frozen? ⟨g, i * 4, none⟩ = false ∧ w.frozen? ⟨g, i * 4 + 1, none⟩ = false ∧ w.frozen? ⟨g, i * 4 + 2, none⟩ = false ∧ w.frozen? ⟨g, i * 4 + 3, none⟩ = false := by
  obtain ⟨cs, hl, hM, hc, hf⟩ := Kd.R_elem h.sl (back z33) i (by omega) (by omega)
  rw [Int.toNat_natCast] at hM hc hf
  obtain rfl := k37_openM hM
  have he : (l.map back).getD i (back z33) = back (at_ l i) := by
    unfold at_
    rw [List.getD_eq_getElem?_getD, List.getD_eq_getElem?_getD, List.getElem?_map]
    cases l[i]? <;> rfl
  rw [he] at hc
  exact ⟨hc 0 _ rfl, hc 1 _ rfl, hc 2 _ rfl, hc 3 _ rfl, hf 0, hf 1, hf 2, hf 3⟩
def pl (l : List Slot) (id : Int) : Int := (ix l id).getD (-1)
theorem ix_step {l : List Slot} {id : Int} {k : Nat} (hk : k < l.length) (hne : ∀ j, j < k → (at_ l j).f0 ≠ id) (he : (at_ l k).f0 = id) : ix l id = some (k : Int) := by
  unfold ix
  have : l.findIdx? (fun s => decide (s.f0 = id)) = some k := by
    rw [List.findIdx?_eq_some_iff_getElem]
    refine ⟨hk, ?_, fun j hj => ?_⟩
    · have := at_get hk
      rw [List.getElem?_eq_getElem hk] at this
      injection this with this
      rw [this]
      simpa using he
    · have h1 := at_get (l := l) (i := j) (by omega)
      rw [List.getElem?_eq_getElem (by omega)] at h1
      injection h1 with h1
      rw [h1]
      simpa using hne j hj
  rw [this]
  rfl
theorem place_calls {w : World} {base a : Nat} {v : Value} {l : List Slot} (h : RefAt w base a v l) (hl : l.length ≤ 4096) (id : Int) :
    Calls Try.prog 31 #[.pointer (some ⟨a, 0, none⟩), .int .i64 id] w fun e w' => e = .returned (.int .i64 (pl l id)) ∧ w' = w := by
  have h0 := h.c0
  obtain ⟨A, c, hv⟩ := Kd.R_slice h.sl
  rw [List.length_map] at hv
  subst hv
  go_enter Try.func31, Try.ntmps31
  go_wp2
  go_loop [5] (fun x => ∃ k : Nat, x = .int .i64 k ∧ k ≤ l.length ∧ ∀ j, j < k → (at_ l j).f0 ≠ id) (fun x => l.length - (intOf x).toNat)
  case atStart => exact ⟨0, rfl, Nat.zero_le _, fun j hj => by omega⟩
  case round =>
    obtain ⟨k, rfl, hk, hne⟩ := hrel
    have HN := Aside0.mk hne
    clear hne
    have b0 : (0 : Int) ≤ (k : Int) := by omega
    by_cases hlt : k < l.length
    · obtain ⟨g, c', hv, n1, n2, n3⟩ := h.form (by omega)
      injection hv with hA _ hc
      subst hA
      subst hc
      obtain ⟨p0, p1, p2, p3, _, _, _, _⟩ := h.slot k hlt
      have b1 : (k : Int) < (l.length : Int) := by omega
      by_cases he : (at_ l k).f0 = id
      · have hr : pl l id = (k : Int) := by unfold pl; rw [ix_step hlt HN.out he]; rfl
        have HR := Aside0.mk hr
        rw [he] at p0
        clear hr he p1 p2 p3
        go_wp2
        go_ret
        exact ⟨by rw [HR.out]; rfl, rfl⟩
      · have t1 : ((at_ l k).f0 == id) = false := by simpa using he
        have HE := Aside0.mk he
        clear he p1 p2 p3
        go_wp2
        go_round
        case rel =>
          refine ⟨k + 1, by go_num, by omega, fun j hj => ?_⟩
          by_cases c1 : j = k
          · rw [c1]; exact HE.out
          · exact HN.out j (by omega)
        case measure => simp [intOf]; omega
    · have hke : k = l.length := by omega
      have hr : pl l id = -1 := by
        unfold pl
        rw [ix_none (fun s hs => ?_)]
        · rfl
        · obtain ⟨j, hj, rfl⟩ := mem_at hs
          exact HN.out j (by omega)
      have HR := Aside0.mk hr
      clear hr HN hke
      have b1 : (l.length : Int) ≤ (k : Int) := by omega
      go_wp2
      go_ret
      exact ⟨by rw [HR.out]; rfl, rfl⟩
theorem rget_calls {w : World} {base a : Nat} {v : Value} {l : List Slot} (h : RefAt w base a v l) (hl : l.length ≤ 4096) (id : Int) :
    Calls Try.prog 25 #[.pointer (some ⟨a, 0, none⟩), .int .i64 id] w fun e w' => (∃ r : S30, ∃ q : Bool, e = .returned (.tuple #[.agg #[.int .i64 r.f0, .int .i64 r.f1, .int .i64 r.f2], .bool q]) ∧ (match ix l id with | some i => (back (at_ l i.toNat)).f1 = r ∧ q = true | none => r = z30 ∧ q = false)) ∧ Below w.heap.size w w' := by
  have hz := h.of_below (below_alloc (Below.refl w.heap.size w) (Obj.cells #[.int .i64 0, .int .i64 0, .int .i64 0] 30))
  have h0 := hz.c0
  cases hix : ix l id with
  | none =>
    have hpl : pl l id = -1 := by unfold pl; rw [hix]; rfl
    have hp := place_calls hz hl id
    rw [hpl] at hp
    clear hix hpl
    go_enter Try.func25, Try.ntmps25
    go_wp2_with fail
    refine hp.mono ?_
    rintro e w1 ⟨rfl, rfl⟩
    clear hp
    go_wp2
    exact bodyPost_ret (v := .tuple #[.agg #[.int .i64 0, .int .i64 0, .int .i64 0], .bool false]) (by simp [results, Try.results25, go_sem]) rfl ⟨⟨z30, false, rfl, rfl, rfl⟩, below_alloc (Below.refl _ _) _⟩
  | some i =>
    obtain ⟨j, rfl, hj, he⟩ := ix_some hix
    have hpl : pl l id = (j : Int) := by unfold pl; rw [hix]; rfl
    have hp := place_calls hz hl id
    rw [hpl] at hp
    clear hix hpl he
    obtain ⟨g, c, rfl, n1, n2, n3⟩ := hz.form (by omega)
    obtain ⟨p0, p1, p2, p3, _, _, _, _⟩ := hz.slot j hj
    obtain ⟨p0', _⟩ := h.slot j hj
    have o1 := World.new_ne w _ p0'
    clear p0' p0
    have b0 : (0 : Int) ≤ (j : Int) := by omega
    have b1 : (j : Int) < (l.length : Int) := by omega
    simp only [Int.toNat_natCast]
    go_enter Try.func25, Try.ntmps25
    go_wp2_with fail
    refine hp.mono ?_
    rintro e w1 ⟨rfl, rfl⟩
    clear hp
    go_wp2
    exact bodyPost_ret (v := .tuple #[.agg #[.int .i64 (at_ l j).f1.f0, .int .i64 (at_ l j).f1.f1, .int .i64 (at_ l j).f1.f2], .bool true]) (by simp [results, Try.results25, go_sem]) rfl ⟨⟨(back (at_ l j)).f1, true, rfl, rfl, rfl⟩, below_alloc (Below.refl _ _) _⟩
end Go.Proofs.Ytejhkadalahcjaa.XHeap
