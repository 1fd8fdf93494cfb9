/- heap.Heap, walked: a heap's slots with distinct ids; up. -/
import Derived.Test.YtejhkadalahcjaaXHeapSwap
import Derived.IntWalk
namespace Go.Proofs.Ytejhkadalahcjaa.XHeap
open Go.RowKit Go.Proofs.YtejhkadalahcjaaW.PrintWords Go.Proofs.YtejhkadalahcjaaW.PrintLast Go.Proofs.YtejhkadalahcjaaW.PrintMore Go.Proofs.Ytejhkadalahcjaa.XBetter Go.Proofs.Ytejhkadalahcjaa.XMap Go.Proofs.Ytejhkadalahcjaa.PA
set_option linter.unusedVariables false
set_option linter.unusedSimpArgs false
/-- Is a slot better than another one? -/
def bet (s t : Slot) : Bool := if ¬ (s.f1.f0 = t.f1.f0 ∧ s.f1.f1 = t.f1.f1 ∧ s.f1.f2 = t.f1.f2) then decide (lex3 s.f1.f0 s.f1.f1 s.f1.f2 t.f1.f0 t.f1.f1 t.f1.f2 > 0) else decide (s.f0 < t.f0)
theorem bet_calls (s t : Slot) (w : World) : Calls Try.prog 16 #[.agg #[.int .i64 s.f0, .int .i64 s.f1.f0, .int .i64 s.f1.f1, .int .i64 s.f1.f2], .agg #[.int .i64 t.f0, .int .i64 t.f1.f0, .int .i64 t.f1.f1, .int .i64 t.f1.f2]] w fun e w' => e = .returned (.bool (bet s t)) ∧ Below w.heap.size w w' :=
  heap_Better.calls _ _ _ _ _ _ _ _ _ w rfl
/-- Where an id stands. -/
def ix (l : List Slot) : Int → Option Int := fun x => (l.findIdx? (fun s => decide (s.f0 = x))).map fun i => (i : Int)
def swapL (l : List Slot) (i k : Nat) : List Slot := (l.set i (at_ l k)).set k (at_ l i)
structure Fine (l : List Slot) : Prop where
  nd : (l.map (·.f0)).Nodup
  ok : ∀ s ∈ l, i64ok s.f0
  len : l.length ≤ 4096
theorem at_mem {l : List Slot} {i : Nat} (h : i < l.length) : at_ l i ∈ l := by
  unfold at_
  rw [List.getD_eq_getElem?_getD, List.getElem?_eq_getElem h]
  exact List.getElem_mem h
theorem at_get {l : List Slot} {i : Nat} (h : i < l.length) : l[i]? = some (at_ l i) := by
  unfold at_
  rw [List.getD_eq_getElem?_getD, List.getElem?_eq_getElem h]
  rfl
theorem swapL_length (l : List Slot) (i k : Nat) : (swapL l i k).length = l.length := by simp [swapL]
theorem Fine.inj {l : List Slot} (h : Fine l) {i k : Nat} (hi : i < l.length) (hk : k < l.length) (he : (at_ l i).f0 = (at_ l k).f0) : i = k := by
  have h1 : (l.map (·.f0))[i]? = some (at_ l i).f0 := by rw [List.getElem?_map, at_get hi]; rfl
  have h2 : (l.map (·.f0))[k]? = some (at_ l k).f0 := by rw [List.getElem?_map, at_get hk]; rfl
  exact (List.getElem?_inj (by simpa using hi) h.nd).1 (by rw [h1, h2, he])
theorem ix_at {l : List Slot} (h : Fine l) {i : Nat} (hi : i < l.length) : ix l (at_ l i).f0 = some (i : Int) := by
  unfold ix
  have : l.findIdx? (fun s => decide (s.f0 = (at_ l i).f0)) = some i := by
    rw [List.findIdx?_eq_some_iff_getElem]
    refine ⟨hi, ?_, fun j hj => ?_⟩
    · have := at_get hi
      rw [List.getElem?_eq_getElem hi] at this
      injection this with this
      rw [this]
      simp
    · have h1 := at_get (l := l) (i := j) (by omega)
      rw [List.getElem?_eq_getElem (by omega)] at h1
      injection h1 with h1
      rw [h1]
      simp only [decide_eq_true_eq, Bool.not_eq_true, decide_eq_false_iff_not]
      intro he
      have := h.inj (by omega) hi he
      omega
  rw [this]
  rfl
theorem ix_none {l : List Slot} {x : Int} (h : ∀ s ∈ l, s.f0 ≠ x) : ix l x = none := by
  unfold ix
  rw [List.findIdx?_eq_none_iff.2 (fun s hs => by simpa using h s hs)]
  rfl
theorem ix_some {l : List Slot} {x i : Int} (h : ix l x = some i) : ∃ j : Nat, i = j ∧ j < l.length ∧ (at_ l j).f0 = x := by
  unfold ix at h
  cases hf : l.findIdx? (fun s => decide (s.f0 = x)) with
  | none => rw [hf] at h; cases h
  | some j =>
    rw [hf] at h
    injection h with h
    rw [List.findIdx?_eq_some_iff_getElem] at hf
    obtain ⟨hj, h1, _⟩ := hf
    refine ⟨j, h.symm, hj, ?_⟩
    have := at_get hj
    rw [List.getElem?_eq_getElem hj] at this
    injection this with this
    rw [this] at h1
    simpa using h1
/-- A map that tells each id's place is 'ix'. -/
theorem ix_of {l : List Slot} (h : Fine l) {f : Int → Option Int} (h1 : ∀ i, i < l.length → f (at_ l i).f0 = some (i : Int)) (h2 : ∀ x, (∀ s ∈ l, s.f0 ≠ x) → f x = none) (x : Int) : f x = ix l x := by
  by_cases c : ∃ s ∈ l, s.f0 = x
  · obtain ⟨s, hs, rfl⟩ := c
    obtain ⟨i, hi, rfl⟩ := List.getElem_of_mem hs
    have := at_get hi
    rw [List.getElem?_eq_getElem hi] at this
    injection this with this
    rw [this, h1 i hi, ix_at h hi]
  · rw [h2 x (fun s hs he => c ⟨s, hs, he⟩), ix_none (fun s hs he => c ⟨s, hs, he⟩)]
theorem at_set {l : List Slot} {i : Nat} (hi : i < l.length) (s : Slot) (j : Nat) : at_ (l.set i s) j = if j = i then s else at_ l j := by
  unfold at_
  rw [List.getD_eq_getElem?_getD, List.getD_eq_getElem?_getD, List.getElem?_set]
  by_cases c : j = i
  · subst c; simp [hi]
  · rw [if_neg (fun e => c e.symm), if_neg c]
theorem at_swap {l : List Slot} {i k : Nat} (hi : i < l.length) (hk : k < l.length) (j : Nat) : at_ (swapL l i k) j = if j = k then at_ l i else if j = i then at_ l k else at_ l j := by
  unfold swapL
  rw [at_set (by rw [List.length_set]; exact hk), at_set hi]
theorem mem_swap {l : List Slot} {i k : Nat} (hi : i < l.length) (hk : k < l.length) (s : Slot) : s ∈ swapL l i k ↔ s ∈ l := by
  have key : ∀ (m : List Slot) s, s ∈ m ↔ ∃ j, j < m.length ∧ at_ m j = s := fun m s => by
    rw [List.mem_iff_getElem?]
    constructor
    · rintro ⟨j, hj⟩
      have hjl := (List.getElem?_eq_some_iff.1 hj).1
      refine ⟨j, hjl, ?_⟩
      rw [at_get hjl] at hj
      injection hj
    · rintro ⟨j, hj, rfl⟩
      exact ⟨j, at_get hj⟩
  rw [key, key, swapL_length]
  constructor
  · rintro ⟨j, hj, rfl⟩
    rw [at_swap hi hk]
    split
    · exact ⟨i, hi, rfl⟩
    · split
      · exact ⟨k, hk, rfl⟩
      · exact ⟨j, hj, rfl⟩
  · rintro ⟨j, hj, rfl⟩
    by_cases c : j = i
    · exact ⟨k, hk, by rw [at_swap hi hk, if_pos rfl, c]⟩
    · by_cases c' : j = k
      · refine ⟨i, hi, ?_⟩
        rw [at_swap hi hk, c']
        by_cases c2 : i = k
        · rw [if_pos c2, c2]
        · rw [if_neg c2, if_pos rfl]
      · exact ⟨j, hj, by rw [at_swap hi hk, if_neg c', if_neg c]⟩
theorem swap_perm {l : List Slot} {i k : Nat} (hi : i < l.length) (hk : k < l.length) : (swapL l i k).Perm l := by
  have e1 : at_ l k = l[k] := by have := at_get hk; rw [List.getElem?_eq_getElem hk] at this; injection this with this; exact this.symm
  have e2 : at_ l i = l[i] := by have := at_get hi; rw [List.getElem?_eq_getElem hi] at this; injection this with this; exact this.symm
  unfold swapL
  rw [e1, e2]
  exact List.set_set_perm hi hk
theorem Fine.swap {l : List Slot} (h : Fine l) {i k : Nat} (hi : i < l.length) (hk : k < l.length) : Fine (swapL l i k) :=
  ⟨((swap_perm hi hk).map (·.f0)).nodup_iff.2 h.nd, fun s hs => h.ok s ((mem_swap hi hk s).1 hs), by rw [swapL_length]; exact h.len⟩
/-- A heap whose map tells its ids' places. -/
structure HA (w : World) (base a b : Nat) (v : Value) (l : List Slot) : Prop where
  mem : HeapAt w base a b l.length v l (ix l)
  fine : Fine l
theorem HA.of_below {w w' : World} {base a b : Nat} {v : Value} {l : List Slot} (h : HA w base a b v l) (k : Below w.heap.size w w') : HA w' base a b v l := ⟨h.mem.of_below k, h.fine⟩
theorem HeapAt.to_map {w : World} {base a b n : Nat} {v : Value} {l : List Slot} {f g : Int → Option Int} (h : HeapAt w base a b n v l f) (hg : ∀ x, f x = g x) : HeapAt w base a b n v l g := ⟨h.hd, h.sl, h.mp.ext (fun x _ => hg x), h.ha, h.hb⟩
theorem HA.swap_calls {w : World} {base a b : Nat} {v : Value} {l : List Slot} (h : HA w base a b v l) {i k : Nat} (hi : i < l.length) (hk : k < l.length) (hik : i ≠ k) :
    Calls Try.prog 33 #[.pointer (some ⟨a, 0, none⟩), .int .i64 i, .int .i64 k] w fun e w' => e = .returned (.tuple #[]) ∧ HA w' base a b v (swapL l i k) ∧ Keep3 w w' a b v := by
  obtain ⟨h1, h2⟩ := h
  obtain ⟨g, c, rfl, _⟩ := h1.form (by omega)
  refine (XHeap.swap_calls h1 i k hi hk h2.len (h2.ok _ (at_mem hi)) (h2.ok _ (at_mem hk)) h2.len (by rw [ix_at h2 hi]; rfl) (by rw [ix_at h2 hk]; rfl)).mono ?_
  rintro e w' ⟨rfl, h3, h4⟩
  have hl := swapL_length l i k
  refine ⟨rfl, ⟨?_, h2.swap hi hk⟩, h4⟩
  rw [hl]
  refine HeapAt.to_map h3 (ix_of (h2.swap hi hk) (fun j hj => ?_) (fun x hx => ?_))
  · rw [hl] at hj
    rw [at_swap hi hk]
    unfold upd
    by_cases c1 : j = k
    · rw [if_pos c1, if_pos rfl, c1]
    · rw [if_neg c1]
      by_cases c2 : j = i
      · rw [if_pos c2, if_neg (fun e => hik (h2.inj hk hi e).symm), if_pos rfl, c2]
      · rw [if_neg c2, if_neg (fun e => c2 (h2.inj hj hi e)), if_neg (fun e => c1 (h2.inj hj hk e)), ix_at h2 hj]
  · unfold upd
    rw [if_neg (fun e => hx (at_ l i) ((mem_swap hi hk _).2 (at_mem hi)) e.symm), if_neg (fun e => hx (at_ l k) ((mem_swap hi hk _).2 (at_mem hk)) e.symm)]
    exact ix_none (fun s hs => hx s ((mem_swap hi hk s).2 hs))
/-- A slot rises. -/
def upL (l : List Slot) (i : Nat) : List Slot × Nat :=
  if h : 0 < i ∧ bet (at_ l i) (at_ l ((i - 1) / 2)) = true then upL (swapL l i ((i - 1) / 2)) ((i - 1) / 2) else (l, i)
termination_by i
decreasing_by omega
set_option maxRecDepth 100000 in
theorem up_calls {w : World} {base a b : Nat} {v : Value} {l : List Slot} (h : HA w base a b v l) (i : Nat) (hi : i < l.length) :
    Calls Try.prog 30 #[.pointer (some ⟨a, 0, none⟩), .int .i64 i] w fun e w' => e = .returned (.int .i64 (upL l i).2) ∧ HA w' base a b v (upL l i).1 ∧ Keep3 w w' a b v := by
  go_enter Try.func30, Try.ntmps30
  go_wp2
  go_loopw [1] (fun x wr => ∃ (m : List Slot) (j : Nat), x = .int .i64 j ∧ j < m.length ∧ HA wr base a b v m ∧ Keep3 w wr a b v ∧ upL m j = upL l i) (fun x _ => (intOf x).toNat)
  case atStart => exact ⟨l, i, rfl, hi, h, Keep3.refl _ _ _ _, rfl⟩
  case round =>
    obtain ⟨m, j, rfl, hj, hm, hk, hu⟩ := hrel
    clear h hi
    rcases Nat.eq_zero_or_pos j with hz | hp
    · subst hz
      have hf : upL l i = (m, 0) := by
        rw [← hu]
        unfold upL
        rw [dif_neg (fun q => by omega)]
      have HF := Aside0.mk hf
      clear hu hf
      rw [show ((0 : Nat) : Int) = 0 from rfl]
      go_wp2
      go_quiet (fail)
      go_wp2
      go_ret
      rw [HF.out]
      exact ⟨rfl, hm.of_below (pw_below_drewN (Below.refl _ _) _), hk.trans (Keep3.of_below (pw_below_drewN (Below.refl _ _) _)) (.inl rfl)⟩
    · obtain ⟨p, rfl⟩ : ∃ p, j = p + 1 := ⟨j - 1, by omega⟩
      obtain ⟨q, hq⟩ : ∃ q, q = p / 2 := ⟨_, rfl⟩
      have hpl : q < m.length := by omega
      obtain ⟨g, c, rfl, n1, n2, n3, n4, n5⟩ := hm.mem.form (by omega)
      have h0 := hm.mem.c0
      obtain ⟨p0, p1, p2, p3, _, _, _, _⟩ := hm.mem.slot (p + 1) hj
      obtain ⟨q0, q1, q2, q3, _, _, _, _⟩ := hm.mem.slot q hpl
      have b1 : (p : Int) + 1 < (m.length : Int) := by omega
      have b2 : (q : Int) < (m.length : Int) := by omega
      have b3 : (0 : Int) ≤ (q : Int) := by omega
      have b4 : (0 : Int) ≤ (p : Int) + 1 := by omega
      have b5 : ((p : Int) + 1).toNat = p + 1 := by omega
      have hlen := hm.fine.len
      have b6 : IntKind.i64.wrap (p : Int) = (p : Int) := IntWalk.i64_in _ (by omega)
      have b7 : (p : Int).tdiv 2 = (q : Int) := by rw [hq, Int.tdiv_eq_ediv_of_nonneg (by omega)]; omega
      have b8 : IntKind.i64.wrap (q : Int) = (q : Int) := IntWalk.i64_in _ (by omega)
      have HQ := Aside0.mk hq
      clear hq
      rw [show ((p + 1 : Nat) : Int) = (p : Int) + 1 from rfl]
      go_wp2
      go_region_held3 (fun w' => w'.cell? ⟨a, 0, none⟩ = some (.slice (some ⟨g, 0, none⟩) m.length c) ∧ (w'.cell? ⟨g, (p + 1) * 4, none⟩ = some (.int .i64 (at_ m (p + 1)).f0) ∧ w'.cell? ⟨g, (p + 1) * 4 + 1, none⟩ = some (.int .i64 (at_ m (p + 1)).f1.f0) ∧ w'.cell? ⟨g, (p + 1) * 4 + 2, none⟩ = some (.int .i64 (at_ m (p + 1)).f1.f1) ∧ w'.cell? ⟨g, (p + 1) * 4 + 3, none⟩ = some (.int .i64 (at_ m (p + 1)).f1.f2)) ∧ (w'.cell? ⟨g, (q) * 4, none⟩ = some (.int .i64 (at_ m (q)).f0) ∧ w'.cell? ⟨g, (q) * 4 + 1, none⟩ = some (.int .i64 (at_ m (q)).f1.f0) ∧ w'.cell? ⟨g, (q) * 4 + 2, none⟩ = some (.int .i64 (at_ m (q)).f1.f1) ∧ w'.cell? ⟨g, (q) * 4 + 3, none⟩ = some (.int .i64 (at_ m (q)).f1.f2))) (first | go_keep | (exact ⟨pw_cell_below hb h0, ⟨pw_cell_below hb p0, pw_cell_below hb p1, pw_cell_below hb p2, pw_cell_below hb p3⟩, pw_cell_below hb q0, pw_cell_below hb q1, pw_cell_below hb q2, pw_cell_below hb q3⟩)) (first | (go_at_call 16; refine (bet_calls (at_ m (p + 1)) (at_ m q) _).mono ?_; rintro e w1 ⟨rfl, hb⟩))
      replace hk := hk.trans (Keep3.of_below (a := a) (b := b) (v := .slice (some ⟨g, 0, none⟩) m.length c) ((below_drew1 (Below.refl _ _)).trans hb)) (.inl rfl)
      replace hm := hm.of_below ((below_drew1 (Below.refl _ _)).trans hb)
      clear hb h0 p0 p1 p2 p3 q0 q1 q2 q3
      go_wp2_with (first | (go_at_call 33; refine (hm.swap_calls (i := p + 1) (k := q) hj hpl (by have := HQ.out; omega)).mono ?_; rintro e w2 ⟨rfl, hm2, hk2⟩))
      · have hbt : bet (at_ m (p + 1)) (at_ m q) = true := by assumption
        go_roundw
        case rel =>
          refine ⟨swapL m (p + 1) q, q, rfl, by rw [swapL_length]; exact hpl, by rw [show m.length = (swapL m (p + 1) q).length from (swapL_length _ _ _).symm] at hm2 ⊢; exact hm2, hk.trans hk2 (.inl rfl), ?_⟩
          rw [← hu]
          conv => rhs; unfold upL
          have e : (p + 1 - 1) / 2 = q := by have := HQ.out; omega
          rw [e, dif_pos ⟨by omega, hbt⟩]
        case measure =>
          have := HQ.out
          simp [intOf]
          omega
      · have hbf : bet (at_ m (p + 1)) (at_ m q) = false := by assumption
        have hf : upL l i = (m, p + 1) := by
          rw [← hu]
          unfold upL
          have e : (p + 1 - 1) / 2 = q := by have := HQ.out; omega
          rw [e, dif_neg (fun x => by rw [hbf] at x; exact absurd x.2 (by simp))]
        have HF := Aside0.mk hf
        clear hf hu
        go_ret
        rw [HF.out]
        exact ⟨rfl, hm, hk⟩
end Go.Proofs.Ytejhkadalahcjaa.XHeap
