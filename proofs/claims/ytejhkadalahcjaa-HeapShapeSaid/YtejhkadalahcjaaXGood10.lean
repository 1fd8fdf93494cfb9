/- law10: heaps that are in order; a heap beside what else is written. -/
import Derived.Test.YtejhkadalahcjaaXSome10
namespace Go.Proofs.Ytejhkadalahcjaa.XHeap
open Go.RowKit Go.Proofs.YtejhkadalahcjaaW.PrintWords Go.Proofs.YtejhkadalahcjaaW.PrintLast Go.Proofs.YtejhkadalahcjaaW.PrintMore Go.Proofs.Ytejhkadalahcjaa.XBetter Go.Proofs.Ytejhkadalahcjaa.XMap Go.Proofs.Ytejhkadalahcjaa.PA
set_option linter.unusedVariables false
set_option linter.unusedSimpArgs false
theorem R_ownStep {α : Type} {d : Kd α} (hE : d.E = []) {w w' : World} {e base : Nat} {v : Value} {xs : List α} (h : d.R e w base (fun _ => True) v xs) (hm : ∀ k, v.ownBlock = some k → w'.heap[k]? = w.heap[k]?) : d.R e w' base (fun _ => True) v xs := by
  obtain ⟨h0, inner, hown, hr⟩ := h
  refine ⟨h0, inner, own_move hown hm, hr.imp_ (fun p c hp => ?_)⟩
  have hb := d.M_bound hp
  refine d.M_mono (fun k hk => ?_) (d.M_move (w1 := w') (fun k hk => ?_) hb)
  all_goals
    obtain ⟨_, _, _, q, hq, _⟩ := hk
    rw [hE] at hq
    simp at hq
theorem HA.far {w w' : World} {base a b p : Nat} {v : Value} {l : List Slot} (h : HA w base a b v l) (ha : p ≠ a) (hb : p ≠ b) (hv : some p ≠ v.ownBlock) (hw : ∀ i, i ≠ p → w'.heap[i]? = w.heap[i]?) : HA w' base a b v l :=
  ⟨⟨(hw a ha.symm).trans h.mem.hd, R_ownStep rfl h.mem.sl (fun k hk => hw k (fun e => hv (by rw [← e, hk]))), h.mem.mp.kept (hw b hb.symm), h.mem.ha, h.mem.hb⟩, h.fine⟩
theorem HA.ne_box {w : World} {base a b p t : Nat} {v : Value} {l : List Slot} {cells : Array Value} (h : HA w base a b v l) (hp : w.heap[p]? = some (Obj.cells cells t (0, 0))) (ht : t ≠ 62) : p ≠ a ∧ p ≠ b := by
  obtain ⟨es, ck, hb⟩ := h.mem.mp.block
  refine ⟨fun e => ?_, fun e => ?_⟩
  · subst e; rw [h.mem.hd] at hp; simp at hp; exact ht hp.2.symm
  · subst e; rw [hb] at hp; simp at hp
structure Good (l : List Slot) : Prop where
  ord : Ord l
  fine : Fine l
theorem Good.same {l : List Slot} (h : Good l) : Same l l := ⟨h.ord, List.Perm.refl _, h.fine⟩
theorem Good.put {l : List Slot} (h : Good l) {s : Slot} (hs : i64ok s.f0) (hl : l.length < 4096) : Good (putL l s) := ⟨(h.same.put hs hl).ord, (h.same.put hs hl).fine⟩
theorem Good.drop {l : List Slot} (h : Good l) (id : Int) : Good (dropL l id) := ⟨(h.same.drop id).ord, (h.same.drop id).fine⟩
theorem good_nil : Good [] := ⟨same_nil.ord, fine_nil⟩
theorem good_some {ops : List OpT} (hok : ∀ k, k < ops.length → i64ok (opAt ops k).f1) (hlen : ops.length ≤ 100) (k : Nat) (hk : k ≤ ops.length) : Good (someTo ops k) := by
  induction k with
  | zero => exact good_nil
  | succ k ih =>
    rw [someTo_succ ops k (by omega)]
    have h1 := ih (by omega)
    have h2 := someTo_length ops k (by omega)
    unfold opL
    split
    · exact h1.drop _
    · exact h1.put (hok k (by omega)) (by omega)
/-- The one on top dropped: what is left is worse, and one fewer. -/
theorem drop_top {l : List Slot} (h : Good l) (hl : 0 < l.length) : dropB l (at_ l 0).f0 = true ∧ (dropL l (at_ l 0).f0).length + 1 = l.length ∧ ∀ t, t ∈ dropL l (at_ l 0).f0 → bet (at_ l 0) t = true := by
  have hix := ix_at h.fine (i := 0) hl
  have hp := (h.same.drop (at_ l 0).f0).perm
  unfold rdropL at hp
  rw [hix] at hp
  have hp' : (dropL l (at_ l 0).f0).Perm (rest l 0) := hp
  have hc := at_perm l hl
  refine ⟨by unfold dropB; rw [hix]; rfl, ?_, fun t ht => ?_⟩
  · have h1 := hp'.length_eq
    have h2 := hc.length_eq
    rw [List.length_cons] at h2
    omega
  · have ht2 : t ∈ rest l 0 := hp'.mem_iff.1 ht
    have htl : t ∈ l := hc.mem_iff.2 (List.mem_cons_of_mem _ ht2)
    obtain ⟨i, hi, rfl⟩ := mem_at htl
    cases hb : bet (at_ l 0) (at_ l i) with
    | true => rfl
    | false =>
      have he := bet_eq hb (top_best h.ord i hi)
      have hnd : ((at_ l 0 :: rest l 0).map (·.f0)).Nodup := (hc.map (·.f0)).nodup_iff.1 h.fine.nd
      rw [List.map_cons, List.nodup_cons] at hnd
      exact absurd (List.mem_map_of_mem (f := (·.f0)) (he ▸ ht2)) hnd.1
theorem ops_ok {ops : List OpT} (hok : ∀ x ∈ ops, Ok43 x) (k : Nat) (hk : k < ops.length) : i64ok (opAt ops k).f1 := by
  have : opAt ops k ∈ ops := by
    unfold opAt
    rw [List.getD_eq_getElem?_getD, List.getElem?_eq_getElem hk]
    exact List.getElem_mem hk
  exact (hok _ this).2.1
end Go.Proofs.Ytejhkadalahcjaa.XHeap
