/- law10: the last rank of each id, without memory. -/
import Derived.Test.YtejhkadalahcjaaXGood10
namespace Go.Proofs.Ytejhkadalahcjaa.XHeap
open Go.RowKit Go.Proofs.YtejhkadalahcjaaW.PrintWords Go.Proofs.YtejhkadalahcjaaW.PrintLast Go.Proofs.YtejhkadalahcjaaW.PrintMore Go.Proofs.Ytejhkadalahcjaa.XBetter Go.Proofs.Ytejhkadalahcjaa.XMap Go.Proofs.Ytejhkadalahcjaa.PA
set_option linter.unusedVariables false
set_option linter.unusedSimpArgs false
theorem mem_rest {l : List Slot} (h : Fine l) {i : Nat} (hi : i < l.length) (s : Slot) : s ∈ rest l i ↔ s ∈ l ∧ s.f0 ≠ (at_ l i).f0 := by
  have hc := at_perm l hi
  have hnd : ((at_ l i :: rest l i).map (·.f0)).Nodup := (hc.map (·.f0)).nodup_iff.1 h.nd
  rw [List.map_cons, List.nodup_cons] at hnd
  constructor
  · intro hs
    exact ⟨hc.mem_iff.2 (List.mem_cons_of_mem _ hs), fun e => hnd.1 (e ▸ List.mem_map_of_mem (f := (·.f0)) hs)⟩
  · rintro ⟨hs, hne⟩
    rcases List.mem_cons.1 (hc.mem_iff.1 hs) with e | hs
    · exact absurd (by rw [e]) hne
    · exact hs
theorem ix_none_mem {l : List Slot} {x : Int} (h : ix l x = none) (s : Slot) (hs : s ∈ l) : s.f0 ≠ x := by
  intro e
  unfold ix at h
  cases hf : l.findIdx? (fun t => decide (t.f0 = x)) with
  | some j => rw [hf] at h; cases h
  | none =>
    rw [List.findIdx?_eq_none_iff] at hf
    have := hf s hs
    simp [e] at this
theorem mem_put {l : List Slot} (h : Good l) {t : Slot} (ht : i64ok t.f0) (hl : l.length < 4096) (s : Slot) : s ∈ putL l t ↔ (s.f0 = t.f0 ∧ s = t) ∨ (s.f0 ≠ t.f0 ∧ s ∈ l) := by
  rw [(h.same.put ht hl).perm.mem_iff]
  unfold rputL
  cases hix : ix l t.f0 with
  | none =>
    have hno := ix_none_mem hix
    simp only [List.mem_append, List.mem_singleton]
    constructor
    · rintro (hs | rfl)
      · exact .inr ⟨hno s hs, hs⟩
      · exact .inl ⟨rfl, rfl⟩
    · rintro (⟨_, rfl⟩ | ⟨_, hs⟩)
      · exact .inr rfl
      · exact .inl hs
  | some i =>
    obtain ⟨j, rfl, hj, he⟩ := ix_some hix
    simp only [Int.toNat_natCast]
    rw [(set_perm l hj t).mem_iff, List.mem_cons, mem_rest h.fine hj, he]
    constructor
    · rintro (rfl | ⟨hs, hne⟩)
      · exact .inl ⟨rfl, rfl⟩
      · exact .inr ⟨hne, hs⟩
    · rintro (⟨_, rfl⟩ | ⟨hne, hs⟩)
      · exact .inl rfl
      · exact .inr ⟨hs, hne⟩
theorem mem_drop {l : List Slot} (h : Good l) (id : Int) (s : Slot) : s ∈ dropL l id ↔ s ∈ l ∧ s.f0 ≠ id := by
  rw [(h.same.drop id).perm.mem_iff]
  unfold rdropL
  cases hix : ix l id with
  | none => exact ⟨fun hs => ⟨hs, ix_none_mem hix s hs⟩, fun hs => hs.1⟩
  | some i =>
    obtain ⟨j, rfl, hj, rfl⟩ := ix_some hix
    simp only [Int.toNat_natCast]
    exact mem_rest h.fine hj s
def opVal (o : OpT) : Option Slot := if o.f0 = 1 then none else some (slotOf o)
/-- What was last called of an id. -/
def lastOf : List OpT → Int → Option (Option Slot)
  | [], _ => none
  | o :: r, id => (lastOf r id).or (if o.f1 = id then some (opVal o) else none)
theorem lastOf_snoc (l : List OpT) (o : OpT) (id : Int) : lastOf (l ++ [o]) id = if o.f1 = id then some (opVal o) else lastOf l id := by
  induction l with
  | nil =>
    simp only [List.nil_append, lastOf, Option.none_or]
  | cons a l ih =>
    simp only [List.cons_append, lastOf, ih]
    split
    · rfl
    · rfl
theorem some_mem {ops : List OpT} (hok : ∀ k, k < ops.length → i64ok (opAt ops k).f1) (hlen : ops.length ≤ 100) (k : Nat) (hk : k ≤ ops.length) (s : Slot) : s ∈ someTo ops k ↔ lastOf (ops.take k) s.f0 = some (some s) := by
  induction k with
  | zero => simp [someTo, lastOf]
  | succ k ih =>
    have hg := good_some hok hlen k (by omega)
    have hl := someTo_length ops k (by omega)
    have ho : ops.take (k + 1) = ops.take k ++ [opAt ops k] := by
      rw [List.take_succ_eq_append_getElem (by omega)]
      unfold opAt
      rw [List.getD_eq_getElem?_getD, List.getElem?_eq_getElem (by omega)]
      rfl
    rw [someTo_succ ops k (by omega), ho, lastOf_snoc]
    have hid := hok k (by omega)
    generalize opAt ops k = o at hid
    unfold opL
    have ih' := ih (by omega)
    by_cases hd : o.f0 = 1
    · rw [if_pos hd, mem_drop hg, ih']
      unfold opVal
      rw [if_pos hd]
      by_cases c : o.f1 = s.f0
      · rw [if_pos c]
        simp [c]
      · rw [if_neg c]
        exact ⟨fun h => h.1, fun h => ⟨h, fun e => c e.symm⟩⟩
    · rw [if_neg hd, mem_put hg hid (by omega), ih']
      unfold opVal
      rw [if_neg hd]
      show (s.f0 = o.f1 ∧ s = slotOf o) ∨ (s.f0 ≠ o.f1 ∧ _) ↔ _
      by_cases c : o.f1 = s.f0
      · rw [if_pos c]
        simp only [Option.some.injEq]
        constructor
        · rintro (⟨_, h⟩ | ⟨h, _⟩)
          · exact h.symm
          · exact absurd c.symm h
        · intro h
          exact .inl ⟨c.symm, h.symm⟩
      · rw [if_neg c]
        constructor
        · rintro (⟨h, _⟩ | ⟨_, h⟩)
          · exact absurd h.symm c
          · exact h
        · intro h
          exact .inr ⟨fun e => c e.symm, h⟩
/-- Those that are put, from the last one on. -/
def lastPut : List OpT → List Slot
  | [] => []
  | o :: r => if (lastOf r o.f1).isNone = true ∧ o.f0 ≠ 1 then putL (lastPut r) (slotOf o) else lastPut r
theorem lastPut_length (r : List OpT) : (lastPut r).length ≤ r.length := by
  induction r with
  | nil => exact Nat.le_refl _
  | cons o r ih =>
    unfold lastPut
    split
    · have := putL_length (lastPut r) (slotOf o)
      simp only [List.length_cons]
      omega
    · simp only [List.length_cons]
      omega
theorem lastPut_ok (r : List OpT) (hok : ∀ o ∈ r, i64ok o.f1) (hlen : r.length ≤ 100) : Good (lastPut r) ∧ ∀ s, s ∈ lastPut r ↔ lastOf r s.f0 = some (some s) := by
  induction r with
  | nil => exact ⟨good_nil, fun s => by simp [lastPut, lastOf]⟩
  | cons o r ih =>
    simp only [List.length_cons] at hlen
    obtain ⟨h1, h2⟩ := ih (fun x hx => hok x (List.mem_cons_of_mem _ hx)) (by omega)
    have hid : i64ok (slotOf o).f0 := hok o (List.mem_cons_self ..)
    have hl : (lastPut r).length < 4096 := by have := lastPut_length r; omega
    have e1 : lastPut (o :: r) = if (lastOf r o.f1).isNone = true ∧ o.f0 ≠ 1 then putL (lastPut r) (slotOf o) else lastPut r := rfl
    have e2 : ∀ id, lastOf (o :: r) id = (lastOf r id).or (if o.f1 = id then some (opVal o) else none) := fun _ => rfl
    rw [e1]
    simp only [e2]
    by_cases c : (lastOf r o.f1).isNone = true
    · have c' : lastOf r o.f1 = none := by simpa using c
      by_cases d : o.f0 = 1
      · rw [if_neg (fun h => h.2 d)]
        refine ⟨h1, fun s => ?_⟩
        rw [h2 s]
        by_cases e : o.f1 = s.f0
        · rw [if_pos e, ← e, c']
          simp [opVal, d]
        · rw [if_neg e, Option.or_none]
      · rw [if_pos ⟨c, d⟩]
        refine ⟨h1.put hid hl, fun s => ?_⟩
        rw [mem_put h1 hid hl, h2 s]
        show (s.f0 = o.f1 ∧ s = slotOf o) ∨ (s.f0 ≠ o.f1 ∧ _) ↔ _
        by_cases e : o.f1 = s.f0
        · rw [if_pos e, ← e, c']
          simp [opVal, d, eq_comm]
        · rw [if_neg e, Option.or_none]
          constructor
          · rintro (⟨h, _⟩ | ⟨_, h⟩)
            · exact absurd h.symm e
            · exact h
          · intro h
            exact .inr ⟨fun q => e q.symm, h⟩
    · rw [if_neg (fun h => c h.1)]
      refine ⟨h1, fun s => ?_⟩
      rw [h2 s]
      by_cases e : o.f1 = s.f0
      · rw [if_pos e]
        cases hs : lastOf r s.f0 with
        | none => rw [e, hs] at c; exact absurd rfl c
        | some x => simp
      · rw [if_neg e, Option.or_none]
/-- Both ways the same one is on top, and there are as many. -/
theorem last_same {ops : List OpT} (hok : ∀ k, k < ops.length → i64ok (opAt ops k).f1) (hlen : ops.length ≤ 100) : at_ (someTo ops ops.length) 0 = at_ (lastPut ops) 0 ∧ (someTo ops ops.length).length = (lastPut ops).length := by
  have g1 := good_some hok hlen ops.length (Nat.le_refl _)
  obtain ⟨g2, m2⟩ := lastPut_ok ops (fun o ho => by
    obtain ⟨k, hk, rfl⟩ := List.getElem_of_mem ho
    have := hok k hk
    unfold opAt at this
    rwa [List.getD_eq_getElem?_getD, List.getElem?_eq_getElem hk] at this) hlen
  have nodup : ∀ {l : List Slot}, Fine l → l.Nodup := fun {l} h => List.Pairwise.of_map (fun s : Slot => s.f0) (fun a b h e => h (by rw [e])) h.nd
  have hp : (someTo ops ops.length).Perm (lastPut ops) := (List.perm_ext_iff_of_nodup (nodup g1.fine) (nodup g2.fine)).2 (fun s => by
    rw [some_mem hok hlen ops.length (Nat.le_refl _), m2 s, List.take_length])
  refine ⟨?_, hp.length_eq⟩
  by_cases c : 0 < (someTo ops ops.length).length
  · have c2 : 0 < (lastPut ops).length := by rw [← hp.length_eq]; exact c
    rw [top_same g1.ord hp c, ← top_same g2.ord (List.Perm.refl _) c2]
  · have e1 : someTo ops ops.length = [] := List.eq_nil_of_length_eq_zero (by omega)
    have e2 : lastPut ops = [] := List.eq_nil_of_length_eq_zero (by rw [← hp.length_eq]; omega)
    rw [e1, e2]
end Go.Proofs.Ytejhkadalahcjaa.XHeap
