/- heap.Heap, walked: Slots; a nil heap. -/
import Derived.Test.YtejhkadalahcjaaXHeapEasy
import Derived.Test.YtejhkadalahcjaaXCloneSlot
namespace Go.Proofs.Ytejhkadalahcjaa.XHeap
open Go.RowKit Go.Proofs.YtejhkadalahcjaaW.PrintWords Go.Proofs.YtejhkadalahcjaaW.PrintLast Go.Proofs.YtejhkadalahcjaaW.PrintMore Go.Proofs.Ytejhkadalahcjaa.XBetter Go.Proofs.Ytejhkadalahcjaa.XMap Go.Proofs.Ytejhkadalahcjaa.PA
set_option linter.unusedVariables false
set_option linter.unusedSimpArgs false
theorem slots_calls {w : World} {base a b : Nat} {v : Value} {l : List Slot} (h : HA w base a b v l) : Calls Try.prog 19 #[.pointer (some ⟨a, 0, none⟩)] w fun e w' => ∃ v1, e = .returned v1 ∧ kSlot.R 33 w' w.heap.size (fun _ => True) v1 l ∧ Below w.heap.size w w' := by
  have h0 := h.mem.c0
  obtain ⟨A, c, rfl, hc, hC⟩ := Kd.R_reads h.mem.sl
  have hf : XCloneSlot.slices_Clone.f l = some l := by
    unfold XCloneSlot.slices_Clone.f
    rw [if_pos (by have := h.fine.len; omega)]
  go_enter Try.func19, Try.ntmps19
  go_wp2_with fail
  refine (XCloneSlot.slices_Clone.calls _ _ _ _ _ hC hc hf).mono ?_
  rintro e w1 ⟨v1, rfl, hR, hb⟩
  go_wp2
  go_ret
  exact ⟨_, rfl, hR, hb⟩
theorem nil_len (w : World) : Calls Try.prog 15 #[.pointer none] w fun e w' => e = .returned (.int .i64 0) ∧ w' = w := by
  go_enter Try.func15, Try.ntmps15
  go_wp2
  go_ret
  exact ⟨rfl, rfl⟩
theorem nil_slots (w : World) : Calls Try.prog 19 #[.pointer none] w fun e w' => e = .returned (.slice none 0 0) ∧ w' = w := by
  go_enter Try.func19, Try.ntmps19
  go_wp2
  go_ret
  exact ⟨rfl, rfl⟩
theorem nil_drop (id : Int) (w : World) : Calls Try.prog 21 #[.pointer none, .int .i64 id] w fun e w' => e = .returned (.bool false) ∧ w' = w := by
  go_enter Try.func21, Try.ntmps21
  go_wp2
  go_ret
  exact ⟨rfl, rfl⟩
theorem nil_put (id r0 r1 r2 : Int) (w : World) : Calls Try.prog 22 #[.pointer none, .int .i64 id, .agg #[.int .i64 r0, .int .i64 r1, .int .i64 r2]] w fun e w' => e = .returned (.bool false) ∧ Below w.heap.size w w' := by
  go_enter Try.func22, Try.ntmps22
  go_wp2
  go_ret
  exact ⟨rfl, below_alloc (Below.refl _ _) _⟩
theorem nil_top (w : World) : Calls Try.prog 11 #[.pointer none] w fun e w' => e = .returned (.tuple #[.agg #[.int .i64 0, .int .i64 0, .int .i64 0, .int .i64 0], .bool false]) ∧ Below w.heap.size w w' := by
  go_enter Try.func11, Try.ntmps11
  go_wp2
  exact bodyPost_ret (v := .tuple #[.agg #[.int .i64 0, .int .i64 0, .int .i64 0, .int .i64 0], .bool false]) (by simp [results, Try.results11, go_sem]) rfl ⟨rfl, below_alloc (Below.refl _ _) _⟩
theorem nil_get (id : Int) (w : World) : Calls Try.prog 20 #[.pointer none, .int .i64 id] w fun e w' => e = .returned (.tuple #[.agg #[.int .i64 0, .int .i64 0, .int .i64 0], .bool false]) ∧ Below w.heap.size w w' := by
  go_enter Try.func20, Try.ntmps20
  go_wp2
  exact bodyPost_ret (v := .tuple #[.agg #[.int .i64 0, .int .i64 0, .int .i64 0], .bool false]) (by simp [results, Try.results20, go_sem]) rfl ⟨rfl, below_alloc (Below.refl _ _) _⟩
/-- Put, whether the id is there or not. -/
def putB (l : List Slot) (s : Slot) : Bool := (ix l s.f0).isNone
theorem put_calls {w : World} {base a b : Nat} {v : Value} {l : List Slot} (h : HA w base a b v l) (s : Slot) (hs : i64ok s.f0) (hl : l.length < 4096) :
    Calls Try.prog 22 #[.pointer (some ⟨a, 0, none⟩), .int .i64 s.f0, .agg #[.int .i64 s.f1.f0, .int .i64 s.f1.f1, .int .i64 s.f1.f2]] w fun e w' => e = .returned (.bool (putB l s)) ∧ ∃ v', HA w' base a b v' (putL l s) ∧ Keep3 w w' a b v ∧ Grew w v v' := by
  unfold putB putL
  cases hix : ix l s.f0 with
  | none => exact put_new h s hs hix hl
  | some i =>
    obtain ⟨j, rfl, hj, he⟩ := ix_some hix
    refine (put_had h s hs j hj he.symm).mono ?_
    rintro e w' ⟨rfl, h1, h2⟩
    refine ⟨rfl, v, ?_, h2, .inl rfl⟩
    simpa [putAt] using h1
def dropB (l : List Slot) (id : Int) : Bool := (ix l id).isSome
theorem drop_calls {w : World} {base a b : Nat} {v : Value} {l : List Slot} (h : HA w base a b v l) (id : Int) (hid : i64ok id) :
    Calls Try.prog 21 #[.pointer (some ⟨a, 0, none⟩), .int .i64 id] w fun e w' => e = .returned (.bool (dropB l id)) ∧ ∃ v', HA w' base a b v' (dropL l id) ∧ Keep3 w w' a b v ∧ Grew w v v' := by
  unfold dropB dropL
  cases hix : ix l id with
  | none =>
    refine (drop_not h id hid hix).mono ?_
    rintro e w' ⟨rfl, rfl⟩
    exact ⟨rfl, v, h, Keep3.refl _ _ _ _, .inl rfl⟩
  | some i =>
    obtain ⟨j, rfl, hj, rfl⟩ := ix_some hix
    obtain ⟨m, hm⟩ : ∃ m, l.length = m + 1 := ⟨l.length - 1, by omega⟩
    refine (drop_had h j m hm (by omega)).mono ?_
    rintro e w' ⟨rfl, v', h1, h2⟩
    refine ⟨rfl, v', ?_, h2⟩
    simpa [dropAt, hm] using h1
end Go.Proofs.Ytejhkadalahcjaa.XHeap
