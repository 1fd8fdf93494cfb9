-- Several texts in one (wip/tools/mergex.py).
import Derived.Test.YthcmelchgnekpaaXTwo17
import Derived.Test.YthcmelchgnekpaaXIm17
import Derived.StillTailTactics

/- law17's QueueLast in plain lists: what was told, with what waits over it, is what all changes make. -/
namespace Go.Proofs.Ythcmelchgnekpaa.XV17
open Go.RowKit Go.Proofs.Ythcmelchgnekpaa.PA Go.Proofs.YthcmelchgnekpaaW.PrintWords Go.Proofs.YthcmelchgnekpaaW.PrintLast Go.Proofs.Ythcmelchgnekpaa.XGen
open Go.Proofs.Ythcmelchgnekpaa.XPlace (idx is)
open Go.Proofs.Ythcmelchgnekpaa.XIdent (isB okAt)
set_option linter.unusedVariables false
set_option linter.unusedSimpArgs false
theorem overQ_app (t : List Se) (a b : List Ch) : overQ t (a ++ b) = overQ (overQ t a) b := by unfold overQ; rw [List.foldl_append]
theorem overQ_cons (t : List Se) (x : Ch) (l : List Ch) : overQ t (x :: l) = overQ (setC t x) l := rfl
theorem over_set : ∀ (v : List Ch) (t : List Se) (c : Ch), Srt t → (∀ y ∈ v, y.f0 ≠ c.f0) → overQ (setC t c) v = setC (overQ t v) c
  | [], t, c, _, _ => rfl
  | y :: v, t, c, h, hn => by
    rw [overQ_cons, overQ_cons, setC_comm t c y h (fun e => hn y List.mem_cons_self e.symm)]
    exact over_set v (setC t y) c (setC_srt t y h) (fun z hz => hn z (List.mem_cons_of_mem _ hz))
theorem over_put (t : List Se) (q : List Ch) (c : Ch) (k : Nat) (hk : k < q.length) (h : Srt t) (ha : Apart q) (he : q[k].f0 = c.f0) : overQ t (q.set k c) = setC (overQ t q) c := by
  have e1 : q = q.take k ++ q[k] :: q.drop (k + 1) := by
    rw [← List.drop_eq_getElem_cons hk, List.take_append_drop]
  have e2 : q.set k c = q.take k ++ c :: q.drop (k + 1) := List.set_eq_take_append_cons_drop .. ▸ if_pos hk
  have hv : ∀ y ∈ q.drop (k + 1), y.f0 ≠ c.f0 := by
    intro y hy
    obtain ⟨i, hi, rfl⟩ := List.getElem_of_mem hy
    rw [List.getElem_drop]
    rw [List.length_drop] at hi
    rw [← he]
    exact fun e => ha (k + 1 + i) k (by omega) hk (by omega) e.symm
  have hs := overQ_srt (q.take k) t h
  have e3 : overQ t q = overQ (setC (overQ t (q.take k)) q[k]) (q.drop (k + 1)) := by
    rw [← overQ_cons, ← overQ_app, ← e1]
  rw [e2, overQ_app, overQ_cons, e3, over_set _ _ _ hs hv, over_set _ _ q[k] hs (fun y hy => he ▸ hv y hy)]
  exact (setC_same _ _ _ (overQ_srt _ _ hs) he).symm
theorem apart_set {l : List Ch} (h : Apart l) (i : Nat) (hi : i < l.length) (c : Ch) (hc : l[i].f0 = c.f0) : Apart (l.set i c) := by
  have e : ∀ (j : Nat) (hj : j < l.length), ((l.set i c)[j]'(by rw [List.length_set]; exact hj)).f0 = l[j].f0 := by
    intro j hj
    rw [List.getElem_set]
    split
    · rename_i h; subst h; exact hc.symm
    · rfl
  intro a b ha hb hba
  rw [List.length_set] at ha hb
  rw [e a ha, e b hb]
  exact h a b ha hb hba
theorem apart_snoc {l : List Ch} (h : Apart l) (c : Ch) (hc : ∀ x ∈ l, x.f0 ≠ c.f0) : Apart (l ++ [c]) := by
  intro a b ha hb hba
  rw [List.length_append, List.length_singleton] at ha hb
  rw [List.getElem_append_left (by omega : b < l.length)]
  by_cases hal : a < l.length
  · rw [List.getElem_append_left hal]
    exact h a b hal (by omega) hba
  · rw [List.getElem_append_right (by omega)]
    have : a - l.length = 0 := by omega
    simp only [this, List.getElem_singleton]
    exact hc _ (List.getElem_mem _)
theorem apart_tail {c : Ch} {l : List Ch} (h : Apart (c :: l)) : Apart l := fun i j hi hj hji => h (i + 1) (j + 1) (by simpa using hi) (by simpa using hj) (by omega)
/-- What holds ahead of each change. -/
structure LastP (room : Int) (k : Nat) (q : List Ch) (told now : List Se) : Prop where
  few : (q.length : Int) ≤ room
  apart : Apart q
  ones : ∀ x ∈ q, oneB x = true
  srt : Srt told
  over : overQ told q = now
  len : told.length + q.length ≤ 40 + k
theorem LastP.start (room : Int) (hr : 1 ≤ room) (t : List Se) (ht : t.length ≤ 40) (hs : Srt t) : LastP room 0 [] t t :=
  ⟨by simp; omega, fun i j hi => by simp at hi, by simp, hs, rfl, by simpa using ht⟩
theorem LastP.push {room : Int} {k : Nat} {q : List Ch} {told now : List Se} (h : LastP room k q told now) (c : Ch) (hc : oneB c = true) :
    ((PU q false c room).2 = true ∧ (PU q false c room).1 = []) ∨ ((PU q false c room).2 = false ∧ LastP room (k + 1) (PU q false c room).1 told (setC now c)) := by
  rcases idx_at c.f0 q with hi | ⟨m, hm, hi, h2⟩
  · by_cases hl : (q.length : Int) < room
    · rw [PU_new q c room hi hl]
      have hn : ∀ y ∈ q, y.f0 ≠ c.f0 := by
        rcases idx_no (is c.f0) q 0 (by omega) with ⟨_, g⟩ | ⟨k, _, g, _⟩
        · intro y hy e
          have := g y hy
          rw [is_iff.2 e] at this
          cases this
        · rw [g] at hi; omega
      refine Or.inr ⟨rfl, by simp; omega, apart_snoc h.apart c hn, ?_, h.srt, ?_, by have := h.len; simp; omega⟩
      · intro x hx
        rcases List.mem_append.1 hx with hx | hx
        · exact h.ones x hx
        · rw [List.mem_singleton.1 hx]; exact hc
      · show overQ told (q ++ [c]) = _
        rw [overQ_app, h.over]; rfl
    · refine Or.inl ?_
      unfold PU
      rw [if_neg (by simp), hi, if_neg (by omega), if_neg hl]
      exact ⟨rfl, rfl⟩
  · rw [PU_in q c room m hi]
    refine Or.inr ⟨rfl, ?_, apart_set h.apart m hm c h2, ?_, h.srt, ?_, ?_⟩
    · show ((q.set m c).length : Int) ≤ room
      rw [List.length_set]; exact h.few
    · intro x hx
      rcases List.mem_or_eq_of_mem_set hx with hx | hx
      · exact h.ones x hx
      · rw [hx]; exact hc
    · show overQ told (q.set m c) = _
      rw [over_put told q c m hm h.srt h.apart h2, h.over]
    · show told.length + (q.set m c).length ≤ _
      rw [List.length_set]; have := h.len; omega
theorem LastP.pop {room : Int} {k : Nat} {c : Ch} {q : List Ch} {told now : List Se} (h : LastP room k (c :: q) told now) : LastP room k q (setC told c) now :=
  ⟨by have := h.few; simp at this; omega, apart_tail h.apart, fun x hx => h.ones x (List.mem_cons_of_mem _ hx), setC_srt _ _ h.srt, h.over, by have := h.len; have := setC_len told c; simp at *; omega⟩
theorem one_size {x : Ch} (h : oneB x = true) : x.f0.size ≤ 9223372036854775807 := by
  unfold oneB at h
  have h1 : isB x.f0 = true := by cases q : isB x.f0 <;> simp_all
  unfold isB at h1
  have h2 : decide (0 < x.f0.size ∧ x.f0.size ≤ 16) = true := by cases q : decide (0 < x.f0.size ∧ x.f0.size ≤ 16) <;> simp_all
  have := of_decide_eq_true h2
  omega
theorem LastP.may {room : Int} {k : Nat} {q : List Ch} {told now : List Se} (h : LastP room k q told now) (hr : room ≤ 16) : queue_May.f 200 q false room = some true :=
  may_f 200 q false room (by have := h.few; omega) (fun x hx => one_size (h.ones x hx)) h.few (fun e => by cases e) h.ones h.apart (by have := h.few; omega)
theorem set_b (t : List Se) (c : Ch) (ht : t.length < 1000000) : digest_Set.f t c.f0 c.f1 c.f2.f0 c.f2.f1 c.f2.f2 c.f2.f3 = some (setC t c) := by
  show XSet.digest_Set.f _ _ _ _ _ _ _ = _
  unfold XSet.digest_Set.f
  rw [if_pos ht]
  rfl
end Go.Proofs.Ythcmelchgnekpaa.XV17
/- law17's QueueLast, walked: whatever is pushed and popped, what was told, with what waits over it, is what all changes make. -/
namespace Go.Proofs.Ythcmelchgnekpaa.XHand
open Go.RowKit Go.Proofs.YthcmelchgnekpaaW.PrintWords Go.Proofs.YthcmelchgnekpaaW.PrintLast Go.Proofs.YthcmelchgnekpaaW.PrintMore Go.Proofs.Ythcmelchgnekpaa.XQuiet Go.Proofs.Ythcmelchgnekpaa.XMem Go.Proofs.Ythcmelchgnekpaa.PA Go.Proofs.Ythcmelchgnekpaa.XV17
open Go.Proofs.Ythcmelchgnekpaa.XLive17 hiding Ch Se
set_option linter.unusedVariables false
set_option linter.unusedSimpArgs false
theorem changes60_im {w : World} {v : Value} {l : List Ch} {m : Int} {r : Bool} (h : Im kCh w v l) (hf : rollcallref17_Changes.f 61 l m = some r) :
    Calls Try.prog 25 #[v, .int .i64 m] w fun e w' => e = .returned (.bool r) ∧ Below w.heap.size w w' := by
  obtain ⟨A, c, rfl, hc, hC⟩ := h.slice
  exact (rollcallref17_Changes.calls 61 A c l m r w hC hc hf).mono fun _ _ ⟨h1, h2⟩ => ⟨h1, h2.below⟩
theorem set_im {w : World} {v : Value} {t : List Se} {a0 : ByteArray} {a1 : Bool} {a2 a3 a4 : Int} {a5 : ByteArray} {r : List Se} (h : Im kSe w v t) (hf : digest_Set.f t a0 a1 a2 a3 a4 a5 = some r) :
    Calls Try.prog 29 #[v, .agg #[.string a0, .bool a1, .int .i64 a2, .int .i64 a3, .int .i64 a4, .string a5]] w fun e w' => ∃ v', e = .returned v' ∧ Im kSe w' v' r ∧ Below w.heap.size w w' := by
  obtain ⟨A, c, rfl, hc, hC⟩ := h.slice
  exact (XSet.digest_Set.calls A c t a0 a1 a2 a3 a4 a5 r w hC hc hf).mono fun e w' ⟨v0, he, hR, hb⟩ => ⟨v0, he, Im.of_R hR, hb⟩
/-- A queue's own cells hold no rows of a table. -/
theorem im_farS {w : World} {p t n c : Nat} {A : Option Addr} {b : Bool} {v : Value} {l : List Se} (h : Im kSe w v l) (hp : w.heap[p]? = some (.cells #[.slice A n c, .bool b] t (0, 0))) (i : Nat) (x : Value) : Im kSe (w.setCell ⟨p, i, none⟩ x) v l := by
  obtain ⟨B, d, rfl, hc, hC⟩ := h.slice
  have hC' : kSe.C (w.setCell ⟨p, i, none⟩ x) B l.length l := by
    refine Kd.C_foot_ne (fun {_ _ _ _} hK => by obtain rfl := k52_open hK; exact k52_mk _ _) hC (fun ad ha hn hg => ?_) _ ((KeepBut.refl w p none).set_ i x)
    obtain ⟨ad', he, h0, _⟩ := at_T52 hC 0 (by omega) (by omega)
    rw [ha] at he
    injection he with he
    subst he
    obtain ⟨bl, of, fr⟩ := ad
    simp only at hg
    subst hg
    rw [show Int.toNat 0 * 5 = 0 from rfl] at h0
    cases fr with
    | some q => simp [Addr.add, World.cell?, hp] at h0
    | none =>
      have h1 := blk_cell hp of
      simp only [Addr.add, if_true] at h0
      rw [h1] at h0
      rcases of with _ | _ | of <;> simp at h0
  exact ⟨B, d, rfl, hc, Kd.F_mono (Kd.C_F k52_heap hC') (fun _ _ => trivial)⟩
/-- A queue's own cells are written: what is read elsewhere is as it was. -/
theorem put_box {w w0 : World} {p n c n' c' : Nat} {A A' : Option Addr} {b b' : Bool} (hb : Below w0.heap.size w0 w) (hp0 : w0.heap.size ≤ p) (hp : w.heap[p]? = some (.cells #[.slice A n c, .bool b] 24 (0, 0))) {v : Value} (hv : v = .slice A' n' c') :
    ((w.setCell ⟨p, 0, none⟩ v).setCell ⟨p, 1, none⟩ (.bool b')).heap[p]? = some (.cells #[.slice A' n' c', .bool b'] 24 (0, 0)) ∧ Below w0.heap.size w0 ((w.setCell ⟨p, 0, none⟩ v).setCell ⟨p, 1, none⟩ (.bool b')) ∧ (∀ u l, Im kCh w u l → Im kCh ((w.setCell ⟨p, 0, none⟩ v).setCell ⟨p, 1, none⟩ (.bool b')) u l) ∧ (∀ u l, Im kSe w u l → Im kSe ((w.setCell ⟨p, 0, none⟩ v).setCell ⟨p, 1, none⟩ (.bool b')) u l) := by
  subst hv
  have h1 := blk_set hp 0 (.slice A' n' c')
  exact ⟨blk_set h1 1 _, below_set (below_set hb hp0) hp0, fun u l h => im_far (im_far h hp 0 _) h1 1 _, fun u l h => im_farS (im_farS h hp 0 _) h1 1 _⟩
/-- The outer loop's ground. -/
structure Ring (w0 : World) (p : Nat) (room : Int) (k : Nat) (vt vn : Value) (wr : World) (q : List Ch) (told now : List Se) (A : Option Addr) (c : Nat) : Prop where
  st : LastP room k q told now
  bel : Below w0.heap.size w0 wr
  box : wr.heap[p]? = some (.cells #[.slice A q.length c, .bool false] 24 (0, 0))
  hq : Im kCh wr (.slice A q.length c) q
  ht : Im kSe wr vt told
  hn : Im kSe wr vn now
set_option maxRecDepth 100000 in
set_option maxHeartbeats 8000000 in
theorem queueLast_walk (A0 : Option Addr) (c0 : Nat) (t : List Se) (A1 : Option Addr) (c1 : Nat) (l : List Ch) (A2 : Option Addr) (c2 : Nat) (pops : List Int) (w : World) (hr0 : Kd.C kSe w A0 t.length t) (hc0 : t.length ≤ c0) (hr1 : Kd.C kCh w A1 l.length l) (hc1 : l.length ≤ c1) (hr2 : Kd.C (Kd.int .i64) w A2 pops.length pops) (hc2 : pops.length ≤ c2) (m0 : t.length ≤ maxLen) (o0 : ∀ x ∈ t, Ok52 x) (m1 : l.length ≤ maxLen) (o1 : ∀ x ∈ l, Ok33 x) (m2 : pops.length ≤ maxLen) (o2 : ∀ y ∈ pops, (Lit.int .i64 y).wf = true) :
    Calls Try.prog 6 #[.slice A0 t.length c0, .slice A1 l.length c1, .slice A2 pops.length c2] w fun e w' => e = .returned (.bool true) ∧ Below w.heap.size w w' := by
  have ht := Im.of_C k52_heap hr0 hc0
  have hi := Im.of_C k33_heap hr1 hc1
  have HR1 := Aside0.mk hr1
  have HR2 := Aside0.mk hr2
  have ml : l.length ≤ 9223372036854775807 := m1
  have mp : pops.length ≤ 9223372036854775807 := m2
  have HO := Aside0.mk (fun (j : Nat) (hj : j < l.length) => (o1 l[j] (List.getElem_mem hj)).1)
  clear hr0 hr1 hr2 m0 o0 m1 o1 m2 o2 hc0 hc1 hc2
  obtain ⟨b2, hb2, hl2⟩ := fewS_f 60 t (by omega)
  have F2 := Aside0.mk hb2
  have H2 := Aside0.mk hl2
  clear hb2 hl2
  obtain ⟨b3, hb3, hl3⟩ := mayT_f 200 t (by omega)
  have F3 := Aside0.mk hb3
  have H3 := Aside0.mk hl3
  clear hb3 hl3
  obtain ⟨b4, hb4, hl4⟩ := changes_f 61 l 60 (by omega) (by omega)
  have F4 := Aside0.mk hb4
  have H4 := Aside0.mk hl4
  clear hb4 hl4
  go_enter Try.func6, Try.ntmps6
  have HB : Below w.heap.size w w := Below.refl _ _
  by_cases hpl : pops.length = l.length + 1
  rotate_left
  · clear HR1 HR2 HO F2 H2 F3 H3 F4 H4 hi ht
    by_cases hbig : l.length ≤ 9223372036854775806
    · have hpl' : ¬ (pops.length : Int) = (l.length : Int) + 1 := by omega
      have hbig' : (l.length : Int) ≤ 9223372036854775806 := by omega
      clear hpl hbig
      go_wp2_with fail
      refine (XLive17.live_walk w).mono ?_
      rintro e wl ⟨rfl, bl⟩
      go_wp2
      go_ret
      exact ⟨rfl, below_step HB bl⟩
    · obtain hl : l.length = 9223372036854775807 := by omega
      have hpl' : ¬ (pops.length : Int) = wrap64 9223372036854775808 := by rw [show wrap64 9223372036854775808 = -9223372036854775808 from by unfold wrap64; omega]; omega
      rw [hl]
      clear hpl hbig ml hl
      go_wp2_with fail
      refine (XLive17.live_walk w).mono ?_
      rintro e wl ⟨rfl, bl⟩
      go_wp2
      go_ret
      exact ⟨rfl, below_step HB bl⟩
  have hpl' : (pops.length : Int) = (l.length : Int) + 1 := by omega
  have hbig' : (l.length : Int) ≤ 9223372036854775806 := by omega
  clear mp
  go_wp2_with fail
  refine (fewS_im ht F2.out).mono ?_
  rintro e w2 ⟨rfl, hb⟩
  replace HB := below_step HB hb
  replace hi := hi.below hb
  replace ht := ht.below hb
  clear hb
  cases b2 with
  | false =>
    go_wp2_with fail
    refine (XLive17.live_walk w2).mono ?_
    rintro e wl ⟨rfl, bl⟩
    go_wp2
    go_ret
    exact ⟨rfl, below_step HB bl⟩
  | true =>
    have ht40 := H2.out rfl
    clear F2 H2
    go_wp2_with fail
    refine (mayT_im ht F3.out).mono ?_
    rintro e w3 ⟨rfl, hb⟩
    replace HB := below_step HB hb
    replace hi := hi.below hb
    replace ht := ht.below hb
    clear hb
    cases b3 with
    | false =>
      go_wp2_with fail
      refine (XLive17.live_walk w3).mono ?_
      rintro e wl ⟨rfl, bl⟩
      go_wp2
      go_ret
      exact ⟨rfl, below_step HB bl⟩
    | true =>
      have hsrt := Aside0.mk (H3.out rfl).2
      clear F3 H3
      go_wp2_with fail
      refine (changes60_im hi F4.out).mono ?_
      rintro e w4 ⟨rfl, hb⟩
      replace HB := below_step HB hb
      replace hi := hi.below hb
      replace ht := ht.below hb
      clear hb
      cases b4 with
      | false =>
        go_wp2_with fail
        refine (XLive17.live_walk w4).mono ?_
        rintro e wl ⟨rfl, bl⟩
        go_wp2
        go_ret
        exact ⟨rfl, below_step HB bl⟩
      | true =>
        have hl60 := H4.out rfl
        clear F4 H4
        obtain ⟨ad2, rfl, hroom⟩ := Kd.at_int (Kd.C_below HR2.out HB) (l.length : Int) (by omega) (by omega)
        rw [Int.toNat_natCast] at hroom
        generalize rd pops (l.length : Int) = room at hroom
        clear ml
        by_cases hr1 : room < 1
        · clear HR1 HR2 HO hsrt hl60 ht40
          go_wp2_with fail
          refine (XLive17.live_walk w4).mono ?_
          rintro e wl ⟨rfl, bl⟩
          go_wp2
          go_ret
          exact ⟨rfl, below_step HB bl⟩
        by_cases hr16 : 16 < room
        · clear HR1 HR2 HO hsrt hl60 ht40
          go_wp2_with fail
          refine (XLive17.live_walk w4).mono ?_
          rintro e wl ⟨rfl, bl⟩
          go_wp2
          go_ret
          exact ⟨rfl, below_step HB bl⟩
        have hr1' : 1 ≤ room := by omega
        have hr16' : room ≤ 16 := by omega
        clear hr1 hr16
        go_upto_region 7 with (fail)
        generalize hg : World.alloc _ _ = w5
        have hb := Go.Proofs.Ythcmelchgnekpaa.XMem.al_below hg
        have hnew := Go.Proofs.Ythcmelchgnekpaa.XMem.al_new hg
        have hp : w.heap.size ≤ w4.heap.size := HB.size
        replace HB := below_step HB hb
        replace ht := ht.below hb
        clear hg hroom hi hb
        generalize w4.heap.size = p at hnew hp ⊢
        have HRing := Aside0.mk (⟨LastP.start room hr1' t ht40 hsrt.out, HB, hnew, Im.nil kCh w5, ht, ht⟩ : Ring w p room 0 (.slice A0 t.length c0) (.slice A0 t.length c0) w5 [] t t none 0)
        clear HB hnew ht hsrt ht40
        go_wp2
        go_loopw [9, 10, 11] (fun x y i wr => ∃ (k : Nat) (q : List Ch) (told now : List Se) (A : Option Addr) (c : Nat), i = .int .i64 k ∧ k ≤ l.length ∧ Aside0 (Ring w p room k x y wr q told now A c)) (fun _ _ i _ => l.length - (intOf i).toNat)
        case atStart => exact ⟨0, [], t, t, none, 0, rfl, Nat.zero_le _, HRing⟩
        case round =>
          obtain ⟨k, q, told, now, A, c, rfl, hk, hring⟩ := hrel
          clear HRing
          have k0 : (0 : Int) ≤ (k : Int) := by omega
          have k1 : (k : Int) ≤ 60 := by omega
          by_cases hlt : k < l.length
          rotate_left
          · obtain rfl : k = l.length := by omega
            obtain ⟨wz, rfl⟩ : ∃ wo : World, wo = wr := ⟨_, rfl⟩
            have k2 : (l.length : Int) ≤ (l.length : Int) := by omega
            have st := hring.out.st
            have HB := hring.out.bel
            have hq := hring.out.hq
            have htold := hring.out.ht
            have hnow := hring.out.hn
            have P := hring.out.box
            have q0 := (blk_cell P 0).trans rfl
            have q1 := (blk_cell P 1).trans rfl
            have HM := Aside0.mk (st.may hr16')
            have HE := Aside0.mk (empty_b q false)
            have hlen := st.len
            have hover := st.over
            have hfew := st.few
            clear st hring hlt HR1 HR2 HO P
            go_wp2_with fail
            refine (mayk_im hq HM.out).mono ?_
            rintro e z1 ⟨rfl, hb⟩
            replace HB := below_step HB hb
            replace hq := hq.below hb
            replace htold := htold.below hb
            replace hnow := hnow.below hb
            replace q0 := pw_cell_below hb q0
            replace q1 := pw_cell_below hb q1
            clear hb
            by_cases hz : q.length = 0
            · rw [decide_eq_true hz] at HE
              obtain rfl : q = [] := List.length_eq_zero_iff.1 hz
              obtain rfl : told = now := hover
              have HS := Aside0.mk (sameS_f 200 told (by simp at hlen; omega) (by simp at hlen; omega))
              go_wp2_with fail
              refine (empty_im hq HE.out).mono ?_
              rintro e z2 ⟨rfl, hb⟩
              replace HB := below_step HB hb
              replace hq := hq.below hb
              replace htold := htold.below hb
              replace hnow := hnow.below hb
              replace q0 := pw_cell_below hb q0
              replace q1 := pw_cell_below hb q1
              clear hb
              go_wp2_with fail
              refine (sameS_im htold hnow HS.out).mono ?_
              rintro e z3 ⟨rfl, hb⟩
              replace HB := below_step HB hb
              replace hq := hq.below hb
              replace htold := htold.below hb
              replace hnow := hnow.below hb
              replace q0 := pw_cell_below hb q0
              replace q1 := pw_cell_below hb q1
              clear hb
              go_wp2_with fail
              refine (XLive17.live_walk z3).mono ?_
              rintro e wl ⟨rfl, bl⟩
              go_wp2
              go_ret
              exact ⟨rfl, below_step HB bl⟩
            · rw [decide_eq_false hz] at HE
              go_wp2_with fail
              refine (empty_im hq HE.out).mono ?_
              rintro e z2 ⟨rfl, hb⟩
              replace HB := below_step HB hb
              replace hq := hq.below hb
              replace htold := htold.below hb
              replace hnow := hnow.below hb
              replace q0 := pw_cell_below hb q0
              replace q1 := pw_cell_below hb q1
              clear hb
              go_wp2_with fail
              refine (XLive17.live_walk z2).mono ?_
              rintro e wl ⟨rfl, bl⟩
              go_wp2
              go_ret
              exact ⟨rfl, below_step HB bl⟩
          have k2 : (k : Int) < (l.length : Int) := by omega
          obtain ⟨ad, he, h0, h1, h2, h3, h4, h5⟩ := at_T33 (Kd.C_below HR1.out hring.out.bel) (k : Int) (by omega) (by omega)
          subst he
          rw [Int.toNat_natCast] at h0 h1 h2 h3 h4 h5
          rw [rd_at l k hlt] at h0 h1 h2 h3 h4 h5
          obtain ⟨ad3, he, hpk⟩ := Kd.at_int (Kd.C_below HR2.out hring.out.bel) (k : Int) (by omega) (by omega)
          injection he with he
          subst he
          rw [Int.toNat_natCast] at hpk
          have hone := refOne_f 200 l[k] (by omega)
          generalize hx0 : l[k] = x0 at h0 h1 h2 h3 h4 h5 hone
          generalize hm0 : rd pops (k : Int) = m at hpk
          have HOne := Aside0.mk (fun e : oneB x0 = true => hring.out.st.push x0 e)
          generalize hqb : oneB x0 = qb at hone
          obtain ⟨wz, rfl⟩ : ∃ wo : World, wo = wr := ⟨_, rfl⟩
          go_wp2_with fail
          refine (rollcallref17_One.calls 200 _ _ _ _ _ _ qb _ hone).mono ?_
          rintro e z1 ⟨rfl, hb⟩
          have HB := below_step hring.out.bel hb
          have P := blk_below hring.out.box hb
          have hq := hring.out.hq.below hb
          have htold := hring.out.ht.below hb
          have hnow := hring.out.hn.below hb
          replace h0 := pw_cell_below hb h0
          replace h1 := pw_cell_below hb h1
          replace h2 := pw_cell_below hb h2
          replace h3 := pw_cell_below hb h3
          replace h4 := pw_cell_below hb h4
          replace h5 := pw_cell_below hb h5
          replace hpk := pw_cell_below hb hpk
          clear hb hone
          cases qb with
          | false =>
            go_wp2_with fail
            refine (XLive17.live_walk z1).mono ?_
            rintro e wl ⟨rfl, bl⟩
            go_wp2
            go_ret
            exact ⟨rfl, below_step HB bl⟩
          | true =>
            by_cases hm : 20 < m
            · clear HR1 HR2 HO HOne
              go_wp2_with fail
              refine (XLive17.live_walk z1).mono ?_
              rintro e wl ⟨rfl, bl⟩
              go_wp2
              go_ret
              exact ⟨rfl, below_step HB bl⟩
            have hm' : m ≤ 20 := by omega
            clear hm
            have hpush := HOne.out hqb
            clear HOne hqb
            have hlen := hring.out.st.len
            have hfew := hring.out.st.few
            have hover := hring.out.st.over
            have hnl : now.length ≤ 200 := by rw [← hover]; have := overQ_len q told; omega
            clear hring hover
            have HP := Aside0.mk (push_f q false x0 room (by omega))
            have HSt := Aside0.mk (set_b now x0 (by omega))
            rcases hpu : PU q false x0 room with ⟨q', lat⟩
            rw [hpu] at HP hpush
            clear hpu
            have HPu := Aside0.mk hpush
            clear hpush
            have s0 := (blk_cell P 0).trans rfl
            have s1 := (blk_cell P 1).trans rfl
            go_wp2_with fail
            go_still_tail 6, (by kernel_rfl)
            change wpList _ _ _ _ _ z1.drew
            have hb : Below z1.heap.size z1 z1.drew := below_drew1 (Below.refl _ _)
            generalize z1.drew = z2 at hb ⊢
            clear s0 s1
            replace HB := below_step HB hb
            replace P := blk_below P hb
            replace htold := htold.below hb
            replace hnow := hnow.below hb
            replace h0 := pw_cell_below hb h0
            replace h1 := pw_cell_below hb h1
            replace h2 := pw_cell_below hb h2
            replace h3 := pw_cell_below hb h3
            replace h4 := pw_cell_below hb h4
            replace h5 := pw_cell_below hb h5
            replace hpk := pw_cell_below hb hpk
            replace hq := hq.below hb
            clear hb
            go_wp2_with fail
            refine (push_im hq q'.length HP.out rfl).mono ?_
            rintro e z3 ⟨A', c', rfl, hqn, hb⟩
            replace HB := below_step HB hb
            replace P := blk_below P hb
            replace htold := htold.below hb
            replace hnow := hnow.below hb
            replace h0 := pw_cell_below hb h0
            replace h1 := pw_cell_below hb h1
            replace h2 := pw_cell_below hb h2
            replace h3 := pw_cell_below hb h3
            replace h4 := pw_cell_below hb h4
            replace h5 := pw_cell_below hb h5
            replace hpk := pw_cell_below hb hpk
            clear hb hq HP hlen hfew
            have k50 := (blk_cell P 0).trans rfl
            have k51 := (blk_cell P 1).trans rfl
            have z50 := blk_frozen P 0
            have z51 := blk_frozen P 1
            obtain ⟨P', HB', sk, ss⟩ := put_box (b' := lat) HB hp P (rfl : Value.slice A' q'.length c' = _)
            replace hqn := sk _ _ hqn
            replace htold := ss _ _ htold
            replace hnow := ss _ _ hnow
            clear sk ss
            go_upto_region 15 with (fail)
            generalize hw : (z3.setCell ⟨p, 0, none⟩ (Value.slice A' q'.length c')).setCell ⟨p, 1, none⟩ (Value.bool lat) = z4 at P' HB' hqn htold hnow ⊢
            clear hw P HB h0 h1 h2 h3 h4 h5 hpk k50 k51 z50 z51
            obtain ⟨ad', he, h0, h1, h2, h3, h4, h5⟩ := at_T33 (Kd.C_below HR1.out HB') (k : Int) (by omega) (by omega)
            injection he with he
            subst he
            rw [Int.toNat_natCast] at h0 h1 h2 h3 h4 h5
            rw [rd_at l k hlt, hx0] at h0 h1 h2 h3 h4 h5
            go_wp2_with fail
            refine (set_im hnow HSt.out).mono ?_
            rintro e z5 ⟨vn, rfl, hnown, hb⟩
            have HB := below_step HB' hb
            have P := blk_below P' hb
            replace hqn := hqn.below hb
            replace htold := htold.below hb
            clear hb hnow P' HB' HSt h0 h1 h2 h3 h4 h5
            have s0 := (blk_cell P 0).trans rfl
            have s1 := (blk_cell P 1).trans rfl
            rcases HPu.out with ⟨rfl, rfl⟩ | ⟨rfl, st⟩
            · clear HPu HR1 HR2 HO P
              go_wp2_with fail
              refine (XLive17.live_walk z5).mono ?_
              rintro e wl ⟨rfl, bl⟩
              go_wp2
              go_ret
              exact ⟨rfl, below_step HB bl⟩
            generalize hnw : setC now x0 = nw at st hnown
            have HI := Aside0.mk (⟨st, HB, P, hqn, htold, hnown⟩ : Ring w p room (k + 1) u9 vn z5 q' told nw A' c')
            clear HPu st HB P hqn htold hnown hnw
            go_wp2
            clear s0 s1
            go_loopw [9, 12] (fun a j wr => ∃ (jn : Nat) (q1 : List Ch) (told1 : List Se) (B : Option Addr) (d : Nat), j = .int .i64 jn ∧ jn ≤ 20 ∧ Aside0 (Ring w p room (k + 1) a vn wr q1 told1 nw B d)) (fun _ j _ => 20 - (intOf j).toNat)
            case atStart => exact ⟨0, q', told, A', c', rfl, by omega, HI⟩
            case round =>
              obtain ⟨j, q1, told1, B, d, rfl, hj, hr⟩ := hrel
              clear HI
              obtain ⟨wi, rfl⟩ : ∃ wo : World, wo = wr := ⟨_, rfl⟩
              have j0 : (0 : Int) ≤ (j : Int) := by omega
              have j1 : (j : Int) ≤ 20 := by omega
              obtain ⟨ad', he, hpk⟩ := Kd.at_int (Kd.C_below HR2.out hr.out.bel) (k : Int) (by omega) (by omega)
              injection he with he
              subst he
              rw [Int.toNat_natCast, hm0] at hpk
              have st := hr.out.st
              have HB := hr.out.bel
              have P := hr.out.box
              have hq := hr.out.hq
              have ht1 := hr.out.ht
              have hn1 := hr.out.hn
              have s0 := (blk_cell P 0).trans rfl
              have s1 := (blk_cell P 1).trans rfl
              by_cases hjm : (j : Int) < m
              rotate_left
              · have hjm' : m ≤ (j : Int) := by omega
                clear hr HR1 HR2 HO hjm
                have hlen := st.len
                have hfew := st.few
                have hov := over_b 200 told1 q1 false (by omega) (by omega) (by omega)
                rw [st.over] at hov
                have hnl := overQ_len q1 told1
                rw [st.over] at hnl
                have HV := Aside0.mk hov
                have HSa := Aside0.mk (sameS_f 200 nw (by omega) (by omega))
                have ST := Aside0.mk st
                clear hov hnl hfew hlen st
                go_wp2_with fail
                refine (overk_im ht1 hq HV.out).mono ?_
                rintro e y1 ⟨vo, rfl, hvo, hb⟩
                clear s0 s1 hpk
                replace HB := below_step HB hb
                replace P := blk_below P hb
                replace hq := hq.below hb
                replace ht1 := ht1.below hb
                replace hn1 := hn1.below hb
                clear hb
                go_wp2_with fail
                refine (sameS_im hvo hn1 HSa.out).mono ?_
                rintro e y2 ⟨rfl, hb⟩
                replace HB := below_step HB hb
                replace P := blk_below P hb
                replace hq := hq.below hb
                replace ht1 := ht1.below hb
                replace hn1 := hn1.below hb
                clear hb
                have HN := Aside0.mk (⟨ST.out, HB, P, hq, ht1, hn1⟩ : Ring w p room (k + 1) u9 vn y2 q1 told1 nw B d)
                clear hvo HB P hq ht1 hn1 ST
                go_wp2
                go_roundw
                case rel => exact ⟨k + 1, q1, told1, nw, B, d, by go_num, by omega, HN⟩
                case measure => simp [intOf]; omega
              clear hr
              rcases q1 with _ | ⟨c, q2⟩
              · have hpo := pop_b [] false
                have HPo := Aside0.mk hpo
                clear hpo
                have ST := Aside0.mk st
                clear st
                go_wp2_with fail
                refine (pop_im hq [].length HPo.out rfl).mono ?_
                rintro e y1 ⟨B7, d7, rfl, hq7, hb⟩
                clear s0 s1 HPo hq hpk
                replace ht1 := ht1.below hb
                replace hn1 := hn1.below hb
                replace HB := below_step HB hb
                replace P := blk_below P hb
                clear hb
                go_upto_region 22 with (fail)
                generalize hg : World.alloc _ _ = y2
                obtain ⟨_, hM, hb⟩ := Mem.new2 hg (Below.refl _ _) (Mem.nil _)
                replace ht1 := ht1.below hb
                replace hn1 := hn1.below hb
                replace hq7 := hq7.below hb
                replace HB := below_step HB hb
                replace P := blk_below P hb
                clear hb hg
                generalize y1.heap.size + 1 = p14 at hM ⊢
                generalize y1.heap.size = p13 at hM ⊢
                have r0 := hM.cell 1 0 rfl rfl
                have r1 := hM.cell 1 1 rfl rfl
                have r2 := hM.cell 1 2 rfl rfl
                have r3 := hM.cell 1 3 rfl rfl
                have r4 := hM.cell 1 4 rfl rfl
                have r5 := hM.cell 1 5 rfl rfl
                have t0 := hM.cell 0 0 rfl rfl
                have t1 := hM.cell 0 1 rfl rfl
                have s0 := (blk_cell P 0).trans rfl
                clear hM
                have s1 := (blk_cell P 1).trans rfl
                have z50 := blk_frozen P 0
                have z51 := blk_frozen P 1
                obtain ⟨P', HB', sk, ss⟩ := put_box (b' := false) HB hp P (rfl : Value.slice B7 [].length d7 = _)
                replace hq7 := sk _ _ hq7
                replace ht1 := ss _ _ ht1
                replace hn1 := ss _ _ hn1
                clear sk ss
                go_upto_region 20 with (fail)
                have HN := Aside0.mk (⟨ST.out, HB', P', hq7, ht1, hn1⟩ : Ring w p room (k + 1) u9 vn _ [] told1 nw B7 d7)
                generalize (y2.setCell ⟨p, 0, none⟩ (Value.slice B7 [].length d7)).setCell ⟨p, 1, none⟩ (Value.bool false) = y4 at HN ⊢
                clear HB' P' hq7 ht1 hn1 ST s0 s1 z50 z51 t0 t1 HB P
                go_wp2
                go_roundw
                case rel => exact ⟨j + 1, [], told1, B7, d7, by go_num, by omega, HN⟩
                case measure => simp [intOf]; omega
              · have hpo := pop_b (c :: q2) false
                have HPo := Aside0.mk hpo
                have hpos : 0 < (c :: q2).length := by simp
                generalize (c :: q2).length = n1 at hpos P s0 s1 hq
                have hpos2 : (0 : Int) < (n1 : Int) := by omega
                have hpos3 : decide (0 < n1) = true := decide_eq_true hpos
                have HSe := Aside0.mk (set_b told1 c (by have := st.len; omega))
                clear hpo
                have ST := Aside0.mk st.pop
                clear st
                go_wp2_with fail
                refine (pop_im hq q2.length HPo.out rfl).mono ?_
                rintro e y1 ⟨B7, d7, rfl, hq7, hb⟩
                clear s0 s1 HPo hq hpk
                replace ht1 := ht1.below hb
                replace hn1 := hn1.below hb
                replace HB := below_step HB hb
                replace P := blk_below P hb
                clear hb
                go_upto_region 22 with (fail)
                generalize hg : World.alloc _ _ = y2
                obtain ⟨_, hM, hb⟩ := Mem.new2 hg (Below.refl _ _) (Mem.nil _)
                replace ht1 := ht1.below hb
                replace hn1 := hn1.below hb
                replace hq7 := hq7.below hb
                replace HB := below_step HB hb
                replace P := blk_below P hb
                clear hb hg
                generalize y1.heap.size + 1 = p14 at hM ⊢
                generalize y1.heap.size = p13 at hM ⊢
                have r0 := hM.cell 1 0 rfl rfl
                have r1 := hM.cell 1 1 rfl rfl
                have r2 := hM.cell 1 2 rfl rfl
                have r3 := hM.cell 1 3 rfl rfl
                have r4 := hM.cell 1 4 rfl rfl
                have r5 := hM.cell 1 5 rfl rfl
                have t0 := hM.cell 0 0 rfl rfl
                have t1 := hM.cell 0 1 rfl rfl
                have s0 := (blk_cell P 0).trans rfl
                go_wp2_with fail
                refine (set_im ht1 HSe.out).mono ?_
                rintro e y3 ⟨vt, rfl, hvt, hb⟩
                clear s0 r0 r1 r2 r3 r4 r5 HSe
                replace ht1 := ht1.below hb
                replace hn1 := hn1.below hb
                replace hq7 := hq7.below hb
                replace HB := below_step HB hb
                replace P := blk_below P hb
                replace t0 := pw_cell_below hb t0
                replace t1 := pw_cell_below hb t1
                clear hb ht1 hM
                have ht1 := hvt
                clear hvt
                have s1 := (blk_cell P 1).trans rfl
                have z50 := blk_frozen P 0
                have z51 := blk_frozen P 1
                have s0 := (blk_cell P 0).trans rfl
                obtain ⟨P', HB', sk, ss⟩ := put_box (b' := false) HB hp P (rfl : Value.slice B7 q2.length d7 = _)
                replace hq7 := sk _ _ hq7
                replace ht1 := ss _ _ ht1
                replace hn1 := ss _ _ hn1
                clear sk ss
                go_upto_region 20 with (fail)
                have HN := Aside0.mk (⟨ST.out, HB', P', hq7, ht1, hn1⟩ : Ring w p room (k + 1) vt vn _ q2 (setC told1 c) nw B7 d7)
                generalize (y3.setCell ⟨p, 0, none⟩ (Value.slice B7 q2.length d7)).setCell ⟨p, 1, none⟩ (Value.bool false) = y4 at HN ⊢
                clear HB' P' hq7 ht1 hn1 ST s0 s1 z50 z51 t0 t1 HB P
                go_wp2
                go_roundw
                case rel => exact ⟨j + 1, q2, setC told1 c, B7, d7, by go_num, by omega, HN⟩
                case measure => simp [intOf]; omega
end Go.Proofs.Ythcmelchgnekpaa.XHand
