/- The reference's heap, walked: Drop. -/
import Derived.Test.YtejhkadalahcjaaXHeapRPut
namespace Go.Proofs.Ytejhkadalahcjaa.XHeap
open Go.RowKit Go.Proofs.YtejhkadalahcjaaW.PrintWords Go.Proofs.YtejhkadalahcjaaW.PrintLast Go.Proofs.YtejhkadalahcjaaW.PrintMore Go.Proofs.Ytejhkadalahcjaa.XBetter Go.Proofs.Ytejhkadalahcjaa.XMap Go.Proofs.Ytejhkadalahcjaa.PA
set_option linter.unusedVariables false
set_option linter.unusedSimpArgs false
theorem rdrop_not {w : World} {base a : Nat} {v : Value} {l : List Slot} (h : RefAt w base a v l) (hl : l.length ≤ 4096) (id : Int) (hix : ix l id = none) :
    Calls Try.prog 24 #[.pointer (some ⟨a, 0, none⟩), .int .i64 id] w fun e w' => e = .returned (.bool false) ∧ w' = w := by
  have hpl : pl l id = -1 := by unfold pl; rw [hix]; rfl
  have hp := place_calls h hl id
  rw [hpl] at hp
  clear hix hpl
  go_enter Try.func24, Try.ntmps24
  go_wp2_with fail
  refine hp.mono ?_
  rintro e w1 ⟨rfl, rfl⟩
  clear hp
  go_wp2
  go_ret
  exact ⟨rfl, rfl⟩
set_option maxHeartbeats 2000000 in
set_option maxRecDepth 100000 in
theorem rdrop_had {w : World} {base a : Nat} {v : Value} {l : List Slot} (h : RefAt w base a v l) (hl : l.length ≤ 4096) (id : Int) (j : Nat) (hj : j < l.length) (hix : ix l id = some (j : Int)) :
    Calls Try.prog 24 #[.pointer (some ⟨a, 0, none⟩), .int .i64 id] w fun e w' => e = .returned (.bool true) ∧ ∃ v', RefAt w' base a v' (l.take j ++ l.drop (j + 1)) ∧ Keep3 w w' a a v ∧ Grew w v v' := by
  have hpl : pl l id = (j : Int) := by unfold pl; rw [hix]; rfl
  have hp := place_calls h hl id
  rw [hpl] at hp
  clear hix hpl
  have hal := blk_lt h.hd
  have hbz : base ≤ w.heap.size := Nat.le_of_lt (Nat.lt_of_le_of_lt h.ha hal)
  obtain ⟨g, c, rfl, n1, n2, n3⟩ := h.form (by omega)
  have hcap : l.length ≤ c := by have := (Kd.R_reads' h.sl).2.1; exact this
  have hC : Kd.C kR w (some ⟨g, 0, none⟩) (l.map back).length (l.map back) := (Kd.R_reads' h.sl).2.2
  obtain ⟨iS, hiS, _, hzS, _⟩ := info_parts infoR
  have hcut := cut_to (P := Try.prog) 26 37 .i64 Try.underlying26 hiS (some ⟨g, 0, none⟩) l.length c j (by omega) (by omega) hcap
  rw [Int.toNat_natCast] at hcut
  have hcut2 := cut_from (P := Try.prog) 26 37 .i64 Try.underlying26 hiS 4 hzS (some ⟨g, 0, none⟩) l.length c ((j : Int) + 1) (by omega) (by omega)
  have hj1 : ((j : Int) + 1).toNat = j + 1 := by omega
  rw [hj1] at hcut2
  have hD := Kd.C_drop (m := j + 1) (c := c) hC (by rw [List.length_map]; omega) (by rw [List.length_map]; omega)
  have hT := Kd.C_take (m := j) hC (by rw [List.length_map]; omega)
  have hsz : kR.sz = 4 := rfl
  rw [hsz] at hD
  generalize hA2 : (if c = j + 1 then (some ⟨g, 0, none⟩ : Option Addr) else (some ⟨g, 0, none⟩ : Option Addr).map (·.add ((j + 1) * 4))) = A2 at hcut2 hD
  clear hA2 hsz hzS
  have HJ := Aside0.mk hj1
  clear hj1
  have b0 : (0 : Int) ≤ (j : Int) := by omega
  have b1 : (j : Int) < 4096 := by omega
  have hTl : ((l.map back).take j).length = j := by rw [List.length_take, List.length_map]; omega
  have hDl : ((l.map back).drop (j + 1)).length = l.length - (j + 1) := by rw [List.length_drop, List.length_map]
  rw [hTl] at hT
  rw [hDl] at hD
  clear hTl hDl
  have h0 := h.c0
  have hB0 := Below.refl w.heap.size w
  have HB := Aside0.mk hB0
  clear hB0
  go_enter Try.func24, Try.ntmps24
  go_wp2_with fail
  refine hp.mono ?_
  rintro e w1 ⟨rfl, rfl⟩
  clear hp
  go_wp2_with (first | ((with_reducible refine gate_dst (N := 12) rfl ?_); refine Kd.R_lit kR (w0 := w1) w1.heap.size 37 ?hg (N := 12) ?hd (xs := ([] : List RSlot)) (inner := []) (ok := fun _ => True) (okp := fun _ => True) ?hr ?hp (fun _ hq => hq) trivial (Below.refl _ _) (Nat.le_refl _) (by simp) ?_; (case hd => rfl); (case hg => rfl); (case hr => first | (go_simp; done) | (go_simp; rfl)); (case hp => exact (Reps.none _ _)); intro va wa hoa hba hga_ hna_; have h0a := (h.of_below hba).c0) | ((with_reducible refine gate_builtin (b := .append) (xs := #[.tmp 12, .tmp 18]) rfl ?_); at_builtin; refine Kd.R_append_rows kR (w0 := w1) w1.heap.size rfl (.tmp 12) (.tmp 18) 26 37 (.agg #[.int .i64 0, .int .i64 0, .int .i64 0, .int .i64 0]) 32 rfl Try.underlying26 infoR rfl (by decide) (by omega) va ([] : List RSlot) ((l.map back).take j) _ _ _ (fun _ => True) (fun _ => False) rfl rfl hoa (Kd.C_below hT hba) (fun _ _ hq => hq) (fun _ hq => hq.elim) (fun _ _ => trivial) hba hba.size (by simp only [List.length_nil, Nat.zero_add]; omega) ?_; intro vb wb hob hbb hgb_ hnb_; rw [List.nil_append] at hob; have h0b := (h.of_below hbb).c0) | ((with_reducible refine gate_builtin (b := .append) (xs := #[.tmp 21, .tmp 28]) rfl ?_); at_builtin; refine Kd.R_append_rows kR (w0 := w1) w1.heap.size rfl (.tmp 21) (.tmp 28) 26 37 (.agg #[.int .i64 0, .int .i64 0, .int .i64 0, .int .i64 0]) 32 rfl Try.underlying26 infoR rfl (by decide) (by omega) vb ((l.map back).take j) ((l.map back).drop (j + 1)) _ _ _ (fun _ => True) (fun _ => False) rfl rfl hob (Kd.C_below hD hbb) (fun _ _ hq => hq) (fun _ hq => hq.elim) (fun _ _ => trivial) hbb hbb.size (by rw [List.length_take, List.length_map]; omega) ?_; intro vc wc hoc hbc hgc_ hnc_; obtain ⟨Ac, cc, rfl⟩ := Kd.R_slice hoc; have hdc := blk_below h.hd hbc; have cac : wc.cell? ⟨a, 0, none⟩ = some (.slice (some ⟨g, 0, none⟩) l.length c) := (blk_cell hdc 0).trans rfl; have cfc := blk_frozen hdc 0))
  have hmm : (l.map back).take j ++ (l.map back).drop (j + 1) = (l.take j ++ l.drop (j + 1)).map back := by simp [List.map_take, List.map_drop]
  have h2 := (h.of_below hbc).reslice (w1 := wc) (l1 := l.take j ++ l.drop (j + 1)) (Kd.R_lower (by rw [← hmm]; exact hoc) hbz) rfl
  have hlen : (List.take j (List.map back l) ++ List.drop (j + 1) (List.map back l)).length = min j l.length + (l.length - (j + 1)) := by simp
  rw [hlen] at h2 hnc_
  have hgr : ∃ q, (Value.slice Ac (min j l.length + (l.length - (j + 1))) cc).ownBlock = some q ∧ w1.heap.size ≤ q := by
    obtain ⟨ba, hba1, hba2⟩ := hna_
    rcases hnc_ with e | ⟨q, e, hq⟩
    · rcases hnb_ with e' | ⟨q, e', hq⟩
      · exact ⟨ba, by rw [e, e', hba1], hba2⟩
      · exact ⟨q, by rw [e, e'], Nat.le_trans hba.size hq⟩
    · exact ⟨q, e, Nat.le_trans hbb.size hq⟩
  clear hoc hlen hnc_ hnb_ hna_ hgc_ hgb_ hga_ hoa hob cac cfc hmm
  go_ret
  refine ⟨rfl, _, h2, ?_, .inr hgr⟩
  refine ⟨hbc.os, hbc.tape, hbc.output, by simpa [World.setCell] using hbc.size, fun i hi hia hib hiv => ?_⟩
  exact (Below.heap_setCell wc ⟨a, 0, none⟩ _ i hia).trans (hbc.block i hi)
end Go.Proofs.Ytejhkadalahcjaa.XHeap
