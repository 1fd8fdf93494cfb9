/- The law QueueMay, of plain lists: of a queue that may be comes one that may be; what is pushed is found, or the queue is latched; all others are as they were. -/
import Derived.Test.YthcmelchgnekpaaPAx14
import Derived.Test.YthcmelchgnekpaaXV17
namespace Go.Proofs.Ythcmelchgnekpaa.Pure
open Go.RowKit Go.Proofs.Ythcmelchgnekpaa.PA Go.Proofs.YthcmelchgnekpaaW.PrintWords Go.Proofs.YthcmelchgnekpaaW.PrintLast Go.Proofs.Ythcmelchgnekpaa.XGen Go.Proofs.Ythcmelchgnekpaa.XV17
open Go.Proofs.Ythcmelchgnekpaa.XPlace (idx is)
set_option linter.unusedVariables false
set_option linter.unusedSimpArgs false
theorem apart_set {l : List Ch} (h : Apart l) (i : Nat) (hi : i < l.length) (c : Ch) (hc : l[i].f0 = c.f0) : Apart (l.set i c) := by
  have e : ∀ (j : Nat) (hj : j < l.length), ((l.set i c)[j]'(by rw [List.length_set]; exact hj)).f0 = l[j].f0 := by
    intro j hj
    rw [List.getElem_set]
    split
    · rename_i h; subst h; exact hc.symm
    · rfl
  intro a b ha hb hba
  rw [List.length_set] at ha hb
  rw [e a ha, e b hb]
  exact h a b ha hb hba
theorem apart_snoc {l : List Ch} (h : Apart l) (c : Ch) (hc : ∀ x ∈ l, x.f0 ≠ c.f0) : Apart (l ++ [c]) := by
  intro a b ha hb hba
  rw [List.length_append, List.length_singleton] at ha hb
  rw [List.getElem_append_left (by omega : b < l.length)]
  by_cases hal : a < l.length
  · rw [List.getElem_append_left hal]
    exact h a b hal (by omega) hba
  · rw [List.getElem_append_right (by omega)]
    have : a - l.length = 0 := by omega
    simp only [this, List.getElem_singleton]
    exact hc _ (List.getElem_mem _)
theorem find_at (l : List Ch) (lat : Bool) (n : ByteArray) (i : Nat) (hi : i < l.length) (h : idx (is n) l 0 = (i : Int)) : queue_Find.f l lat n = some (l[i].f0, l[i].f1, l[i].f2.f0, l[i].f2.f1, l[i].f2.f2, l[i].f2.f3, true) := by
  unfold queue_Find.f
  rw [place_f, h]
  simp only [Option.bind_some]
  rw [if_pos (by simp), if_pos (by omega), if_pos (by omega), rd_at l i hi]
theorem find_no (l : List Ch) (lat : Bool) (n : ByteArray) (h : idx (is n) l 0 = -1) : queue_Find.f l lat n = some (⟨#[]⟩, false, 0, 0, 0, ⟨#[]⟩, false) := by
  unfold queue_Find.f
  rw [place_f, h]
  rfl
theorem find_any (l : List Ch) (lat : Bool) (n : ByteArray) : ∃ r, queue_Find.f l lat n = some r := by
  rcases idx_no (is n) l 0 (by omega) with ⟨h, _⟩ | ⟨m, hm, h, _⟩
  · exact ⟨_, find_no l lat n h⟩
  · exact ⟨_, find_at l lat n m hm (by rw [h]; omega)⟩
theorem loopL (l p : List Ch) (c : Ch) (lat la : Bool) (hl : l.length ≤ 1000000) (hp : l.length ≤ p.length) (h1 : ∀ (j : Nat) (hj : j < l.length), (p[j]'(by omega)).f0 = l[j].f0) (h2 : ∀ (j : Nat) (hj : j < l.length), l[j].f0 ≠ c.f0 → p[j]'(by omega) = l[j]) :
    ∀ (d k j : Nat), j + d = l.length → d + 100 < k → rollcalllaw17_QueueMay.l0 k (j : Int) l lat c.f0 c.f1 c.f2.f0 c.f2.f1 c.f2.f2 c.f2.f3 p la = some true := by
  intro d
  induction d with
  | zero =>
    intro k j hj hk
    obtain ⟨k, rfl⟩ : ∃ m, k = m + 1 := ⟨k - 1, by omega⟩
    rw [rollcalllaw17_QueueMay.l0, if_neg (by omega), live_f k (by omega)]
    rfl
  | succ d ih =>
    intro k j hj hk
    obtain ⟨k, rfl⟩ : ∃ m, k = m + 1 := ⟨k - 1, by omega⟩
    have hj' : j < l.length := by omega
    rw [rollcalllaw17_QueueMay.l0, if_pos (by omega), if_pos (by omega), if_pos (by omega), rd_at l j hj', rd_at p j (by omega), if_pos (by rw [h1 j hj']), wrap_succ j (by omega)]
    by_cases e : l[j].f0.toList = c.f0.toList
    · rw [if_pos e]
      exact ih k (j + 1) (by omega) (by omega)
    · rw [if_neg e, h2 j hj' (fun h => e (by rw [h])), if_neg (by simp)]
      exact ih k (j + 1) (by omega) (by omega)
theorem QueueMay : rollcalllaw17_QueueMay.Pure := by
  intro l lat c0 c1 c2 c3 c4 c5 room _ hok hc0 _ _ _ _ _
  obtain ⟨c, hc⟩ : ∃ c : Ch, c = ⟨c0, c1, ⟨c2, c3, c4, c5⟩⟩ := ⟨_, rfl⟩
  refine ⟨501, ?_⟩
  have hsl : ∀ x ∈ l, x.f0.size ≤ 9223372036854775807 := fun x hx => (hok x hx).1
  have hsc : c.f0.size ≤ 9223372036854775807 := by rw [hc]; exact hc0
  have key : ∀ q : Bool, (q = false → l.length ≤ 30 ∧ 1 ≤ room ∧ (l.length : Int) ≤ room ∧ (lat = true → l = []) ∧ (∀ x ∈ l, oneB x = true) ∧ Apart l ∧ oneB c = true) → rollcalllaw17_QueueMay.j0 501 room q l lat c0 c1 c2 c3 c4 c5 = some true := by
    intro q hq
    rw [show (501 : Nat) = 500 + 1 from rfl, rollcalllaw17_QueueMay.j0, live_f 500 (by omega)]
    cases q with
    | true => rw [if_pos rfl]; rfl
    | false =>
      obtain ⟨h30, hr1, hlen, hlat, hone, hap, hoc⟩ := hq rfl
      have e0 : c0 = c.f0 ∧ c1 = c.f1 ∧ c2 = c.f2.f0 ∧ c3 = c.f2.f1 ∧ c4 = c.f2.f2 ∧ c5 = c.f2.f3 := by rw [hc]; exact ⟨rfl, rfl, rfl, rfl, rfl, rfl⟩
      obtain ⟨rfl, rfl, rfl, rfl, rfl, rfl⟩ := e0
      rw [if_neg (by simp), push_f l lat c room (by omega)]
      simp only [Option.bind_some]
      unfold PU
      cases lat with
      | true =>
        have hnil := hlat rfl
        subst hnil
        rw [if_pos rfl, may_f 500 [] true room (by simp) (by simp) hlen (fun _ => rfl) (by simp) (fun i j hi => by simp at hi) (by simp)]
        obtain ⟨r, hr⟩ := find_any ([] : List Ch) true c.f0
        rw [hr]
        rfl
      | false =>
        rw [if_neg (by simp)]
        rcases idx_no (is c.f0) l 0 (by omega) with ⟨hno, hall⟩ | ⟨i, hi, hix, hfst, hhit⟩
        · have hne : ∀ x ∈ l, x.f0 ≠ c.f0 := fun x hx e => by have := hall x hx; rw [is_iff.2 e] at this; cases this
          rw [hno, if_neg (by omega)]
          by_cases hroom : (l.length : Int) < room
          · rw [if_pos hroom, may_f 500 (l ++ [c]) false room (by simp; omega) (fun x hx => by rcases List.mem_append.1 hx with h | h; exact hsl x h; simp at h; rw [h]; exact hsc) (by simp; omega) (fun h => by cases h) (fun x hx => by rcases List.mem_append.1 hx with h | h; exact hone x h; simp at h; rw [h]; exact hoc) (apart_snoc hap c hne) (by simp; omega)]
            have hf := find_at (l ++ [c]) false c.f0 l.length (by simp) (idx_first _ _ _ (by simp) (fun j hj hjl => by rw [List.getElem_append_left hjl]; exact hall _ (List.getElem_mem _)) (by rw [List.getElem_append_right (Nat.le_refl _)]; simp [is]))
            have hcc : (l ++ [c])[l.length]'(by simp) = c := by rw [List.getElem_append_right (Nat.le_refl _)]; simp
            rw [hcc] at hf
            simp only [Option.bind_some]
            rw [if_pos trivial, if_neg (by simp), hf]
            simp only [Option.bind_some]
            rw [if_pos trivial, if_neg (by simp), if_neg (by simp), if_neg (by simp; omega)]
            have hd : decide (((l ++ [c]).length : Int) > wrap64 ((l.length : Int) + 1)) = false := by
              rw [wrap_id _ (by omega) (by omega)]; simp
            rw [hd, show (500 : Nat) = 499 + 1 from rfl, rollcalllaw17_QueueMay.j1, if_neg (by simp)]
            refine loopL l (l ++ [c]) c false false (by omega) (by simp) (fun j hj => by rw [List.getElem_append_left hj]) (fun j hj _ => by rw [List.getElem_append_left hj]) l.length 499 0 (by omega) (by omega)
          · rw [if_neg hroom, may_f 500 [] true room (by simp) (by simp) (by simp; omega) (fun _ => rfl) (by simp) (fun i j hi => by simp at hi) (by simp), find_no l false c.f0 hno]
            simp only [Option.bind_some]
            rw [if_pos trivial, if_pos trivial, if_pos (by simp), if_neg (by simp), if_neg (by simp), if_pos (by omega)]
        · have hci : l[i].f0 = c.f0 := is_iff.1 hhit
          rw [hix, if_pos (by omega), show ((0 : Int) + (i : Int)).toNat = i by omega]
          rw [may_f 500 (l.set i c) false room (by simp; omega) (fun x hx => by rcases List.mem_or_eq_of_mem_set hx with h | h; exact hsl x h; rw [h]; exact hsc) (by simp; omega) (fun h => by cases h) (fun x hx => by rcases List.mem_or_eq_of_mem_set hx with h | h; exact hone x h; rw [h]; exact hoc) (apart_set hap i hi c hci) (by simp; omega)]
          have hf := find_at (l.set i c) false c.f0 i (by simp; omega) (idx_first _ _ _ (by simp; omega) (fun j hj hji => by rw [List.getElem_set_ne (by omega)]; exact hfst j _ hji) (by simp [is]))
          have hcc : (l.set i c)[i]'(by simp; omega) = c := by simp
          rw [hcc] at hf
          simp only [Option.bind_some]
          rw [if_pos trivial, if_neg (by simp), hf]
          simp only [Option.bind_some]
          rw [if_pos trivial, if_neg (by simp), if_neg (by simp), if_neg (by simp)]
          have hd : decide (((l.set i c).length : Int) > wrap64 ((l.length : Int) + 1)) = false := by
            rw [wrap_id _ (by omega) (by omega)]; simp; omega
          rw [hd, show (500 : Nat) = 499 + 1 from rfl, rollcalllaw17_QueueMay.j1, if_neg (by simp)]
          refine loopL l (l.set i c) c false false (by omega) (by simp) (fun j hj => ?_) (fun j hj hne => ?_) l.length 499 0 (by omega) (by omega)
          · rw [List.getElem_set]
            split
            · rename_i h; subst h; exact hci.symm
            · rfl
          · rw [List.getElem_set_ne (fun h => by subst h; exact hne hci)]
  have ht : rollcalllaw17_QueueMay.j0 501 room true l lat c0 c1 c2 c3 c4 c5 = some true := key true (fun h => by cases h)
  unfold rollcalllaw17_QueueMay.f
  by_cases h1 : room < 1
  · rw [if_pos h1, ht]
  rw [if_neg h1]
  by_cases h2 : room > 16
  · rw [if_pos h2, ht]
  rw [if_neg h2]
  obtain ⟨q, hq, hfew⟩ := few_f 501 l lat (by omega)
  rw [hq]
  simp only [Option.bind_some]
  cases q with
  | false => rw [if_neg (by simp), ht]
  | true =>
    have h30 := hfew rfl
    rw [if_pos rfl]
    obtain ⟨q2, hq2, hmay⟩ := refMayQ_f 501 l lat room (by omega) (by omega)
    rw [hq2]
    simp only [Option.bind_some]
    cases q2 with
    | false => rw [if_neg (by simp), ht]
    | true =>
      rw [if_pos rfl]
      obtain ⟨q3, hq3, _⟩ := changes_f 501 [(⟨c0, c1, ⟨c2, c3, c4, c5⟩⟩ : Ch)] 1 (by omega) (by omega)
      rw [hq3]
      simp only [Option.bind_some]
      cases q3 with
      | false => rw [if_neg (by simp), ht]
      | true =>
        have e1 := refOne_f 501 c (by omega)
        rw [hc] at e1
        simp only at e1
        rw [if_pos rfl, e1]
        simp only [Option.bind_some]
        refine key _ (fun h => ?_)
        obtain ⟨h5, h6, h7, h8⟩ := hmay rfl
        exact ⟨h30, by omega, h5, h6, h7, h8, by rw [hc]; simpa using h⟩
end Go.Proofs.Ythcmelchgnekpaa.Pure
