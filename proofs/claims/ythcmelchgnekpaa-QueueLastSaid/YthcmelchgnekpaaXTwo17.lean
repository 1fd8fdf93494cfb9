-- Several texts in one (wip/tools/mergex.py).
import Derived.Test.YthcmelchgnekpaaXIm17
import Derived.Test.YthcmelchgnekpaaPAx13

/- Tables in order: what is set for unlike contacts may be set in either order; what is set anew for one contact stands alone. -/
namespace Go.Proofs.Ythcmelchgnekpaa.XV17
open Go.RowKit Go.Proofs.Ythcmelchgnekpaa.PA Go.Proofs.YthcmelchgnekpaaW.PrintWords Go.Proofs.YthcmelchgnekpaaW.PrintLast Go.Proofs.Ythcmelchgnekpaa.XGen
open Go.Proofs.Ythcmelchgnekpaa.XPlace (idx is)
open Go.Proofs.Ythcmelchgnekpaa.XSet (atL setL)
open Go.Proofs.Ythcmelchgnekpaa.XIns (insL insL_len)
open Go.Proofs.Ythcmelchgnekpaa.XLess (lessB)
set_option linter.unusedVariables false
set_option linter.unusedSimpArgs false
theorem wrap_pred (j : Nat) (h : 0 < j) (h2 : j < 1000000000) : wrap64 ((j : Int) - 1) = ((j - 1 : Nat) : Int) := by
  rw [show ((j : Int) - 1) = ((j - 1 : Nat) : Int) by omega]
  unfold wrap64; omega
theorem bl_irr : ∀ a : List UInt8, Op.bytesLess a a = false
  | [] => rfl
  | x :: a => by rw [Op.bytesLess]; simp [bl_irr a]
theorem bl_trans : ∀ a b c : List UInt8, Op.bytesLess a b = true → Op.bytesLess b c = true → Op.bytesLess a c = true
  | [], [], _, h, _ => by simp [Op.bytesLess] at h
  | _ :: _, [], _, h, _ => by simp [Op.bytesLess] at h
  | [], _ :: _, [], _, h => by simp [Op.bytesLess] at h
  | _ :: _, _ :: _, [], _, h => by simp [Op.bytesLess] at h
  | [], _ :: _, _ :: _, _, _ => by simp [Op.bytesLess]
  | x :: a, y :: b, z :: c, h, g => by
    rw [Op.bytesLess] at h g ⊢
    simp only [Bool.or_eq_true, Bool.and_eq_true, decide_eq_true_eq, beq_iff_eq] at h g ⊢
    have ih := bl_trans a b c
    rcases h with h | ⟨h, h'⟩ <;> rcases g with g | ⟨g, g'⟩
    · exact Or.inl (UInt8.lt_trans h g)
    · subst g; exact Or.inl h
    · subst h; exact Or.inl g
    · subst h; subst g; exact Or.inr ⟨rfl, ih h' g'⟩
theorem bl_tri : ∀ a b : List UInt8, Op.bytesLess a b = false → Op.bytesLess b a = false → a = b
  | [], [], _, _ => rfl
  | [], _ :: _, h, _ => by simp [Op.bytesLess] at h
  | _ :: _, [], _, h => by simp [Op.bytesLess] at h
  | x :: a, y :: b, h, g => by
    rw [Op.bytesLess] at h g
    simp only [Bool.or_eq_false_iff, Bool.and_eq_false_iff, decide_eq_false_iff_not, beq_eq_false_iff_ne] at h g
    have e : x = y := by
      have h1 : ¬ x.toNat < y.toNat := fun q => h.1 q
      have h2 : ¬ y.toNat < x.toNat := fun q => g.1 q
      exact UInt8.toNat_inj.1 (by omega)
    subst e
    have := bl_tri a b (h.2.resolve_left (fun q => q rfl)) (g.2.resolve_left (fun q => q rfl))
    rw [this]
theorem less_iff (a b : ByteArray) : lessB a b = true ↔ a.size < b.size ∨ (a.size = b.size ∧ Op.bytesLess a.data.toList b.data.toList = true) := by
  unfold lessB XLess.ordI XLess.orI XLess.cmpI XLess.byBytes
  rw [less_bytes]
  by_cases c : (a.size : Int) < (b.size : Int)
  · rw [if_pos c]; simp; omega
  · rw [if_neg c]
    by_cases d : (a.size : Int) = (b.size : Int)
    · rw [if_neg (by omega)]; simp; omega
    · rw [if_pos (by omega)]; simp; omega
theorem lessB_irr (a : ByteArray) : lessB a a = false := by
  cases h : lessB a a with
  | false => rfl
  | true => rcases (less_iff a a).1 h with h | ⟨_, h⟩
            · omega
            · rw [bl_irr] at h; cases h
theorem lessB_trans {a b c : ByteArray} (h : lessB a b = true) (g : lessB b c = true) : lessB a c = true := by
  rw [less_iff] at *
  rcases h with h | ⟨h, h'⟩ <;> rcases g with g | ⟨g, g'⟩
  · exact Or.inl (by omega)
  · exact Or.inl (by omega)
  · exact Or.inl (by omega)
  · exact Or.inr ⟨by omega, bl_trans _ _ _ h' g'⟩
theorem lessB_tri {a b : ByteArray} (h : lessB a b = false) (g : a ≠ b) : lessB b a = true := by
  cases q : lessB b a with
  | true => rfl
  | false =>
    have h1 := (not_congr (less_iff a b)).1 (by simp [h])
    have h2 := (not_congr (less_iff b a)).1 (by simp [q])
    have e : a.size = b.size := by omega
    refine absurd ?_ g
    have := bl_tri a.data.toList b.data.toList (by cases z : Op.bytesLess a.data.toList b.data.toList <;> simp_all) (by cases z : Op.bytesLess b.data.toList a.data.toList <;> simp_all)
    exact ByteArray.ext (Array.toList_inj.1 this)
def Srt (t : List Se) : Prop := t.Pairwise fun x y => lessB x.f0 y.f0 = true
theorem srt_ext : ∀ {s t : List Se}, Srt s → Srt t → (∀ x, x ∈ s ↔ x ∈ t) → s = t
  | [], [], _, _, _ => rfl
  | [], y :: t, _, _, h => absurd ((h y).2 List.mem_cons_self) (List.not_mem_nil)
  | x :: s, [], _, _, h => absurd ((h x).1 List.mem_cons_self) (List.not_mem_nil)
  | x :: s, y :: t, hs, ht, h => by
    have hs' := List.pairwise_cons.1 hs
    have ht' := List.pairwise_cons.1 ht
    have e : x = y := by
      rcases List.mem_cons.1 ((h x).1 List.mem_cons_self) with e | e
      · exact e
      · rcases List.mem_cons.1 ((h y).2 List.mem_cons_self) with g | g
        · exact g.symm
        · have := lessB_trans (hs'.1 y g) (ht'.1 x e)
          rw [lessB_irr] at this; cases this
    subst e
    refine congrArg _ (srt_ext hs'.2 ht'.2 fun z => ⟨fun hz => ?_, fun hz => ?_⟩)
    · rcases List.mem_cons.1 ((h z).1 (List.mem_cons_of_mem _ hz)) with e | e
      · subst e; have := hs'.1 _ hz; rw [lessB_irr] at this; cases this
      · exact e
    · rcases List.mem_cons.1 ((h z).2 (List.mem_cons_of_mem _ hz)) with e | e
      · subst e; have := ht'.1 _ hz; rw [lessB_irr] at this; cases this
      · exact e
theorem atL_le (n : ByteArray) (v : List Se) : ∀ (u : List Se) (i : Nat), (∀ x ∈ u, lessB x.f0 n = true) → atL n (u ++ v) i i = atL n v (i + u.length) (i + u.length)
  | [], i, _ => rfl
  | x :: u, i, h => by
    show atL n (u ++ v) (i + 1) (if lessB x.f0 n = true then i + 1 else i) = _
    rw [if_pos (h x List.mem_cons_self), atL_le n v u (i + 1) fun y hy => h y (List.mem_cons_of_mem _ hy)]
    simp only [List.length_cons]
    rw [show i + 1 + u.length = i + (u.length + 1) by omega]
theorem atL_ge (n : ByteArray) : ∀ (v : List Se) (i a : Nat), (∀ x ∈ v, lessB x.f0 n = false) → atL n v i a = a
  | [], _, _, _ => rfl
  | x :: v, i, a, h => by
    show atL n v (i + 1) (if lessB x.f0 n = true then i + 1 else a) = _
    rw [if_neg (by rw [h x List.mem_cons_self]; simp), atL_ge n v (i + 1) a fun y hy => h y (List.mem_cons_of_mem _ hy)]
theorem srt_split (n : ByteArray) : ∀ l : List Se, Srt l → ∃ u v, l = u ++ v ∧ (∀ x ∈ u, lessB x.f0 n = true) ∧ (∀ x ∈ v, lessB x.f0 n = false)
  | [], _ => ⟨[], [], rfl, by simp, by simp⟩
  | x :: l, h => by
    have h' := List.pairwise_cons.1 h
    cases c : lessB x.f0 n with
    | true =>
      obtain ⟨u, v, e, hu, hv⟩ := srt_split n l h'.2
      refine ⟨x :: u, v, by rw [e]; rfl, ?_, hv⟩
      intro y hy
      rcases List.mem_cons.1 hy with q | q
      · rw [q]; exact c
      · exact hu y q
    | false =>
      refine ⟨[], x :: l, rfl, by simp, ?_⟩
      intro y hy
      rcases List.mem_cons.1 hy with q | q
      · rw [q]; exact c
      · cases d : lessB y.f0 n with
        | false => rfl
        | true => rw [lessB_trans (h'.1 y q) d] at c; cases c
theorem ins_at (n : ByteArray) (u v : List Se) (x : Se) (hu : ∀ x ∈ u, lessB x.f0 n = true) (hv : ∀ x ∈ v, lessB x.f0 n = false) : insL (u ++ v) (atL n (u ++ v) 0 0) x = u ++ x :: v := by
  rw [atL_le n v u 0 hu, atL_ge n v _ _ hv]
  simp [insL]
theorem isT_iff (n : ByteArray) (x : Se) : XDel.is n x = true ↔ x.f0 = n := by simp [XDel.is, toList_inj]
def rowC (c : Ch) : Se := ⟨c.f0, ⟨c.f2.f0, c.f2.f1, c.f2.f2, c.f2.f3⟩⟩
theorem setC_mem (t : List Se) (c : Ch) (x : Se) : x ∈ setC t c ↔ (x ∈ t ∧ x.f0 ≠ c.f0) ∨ (c.f1 = true ∧ x = rowC c) := by
  unfold setC setL
  have hf : ∀ y, y ∈ (t.filter fun x => !XDel.is c.f0 x) ↔ y ∈ t ∧ y.f0 ≠ c.f0 := fun y => by
    rw [List.mem_filter]
    have := isT_iff c.f0 y
    cases q : XDel.is c.f0 y <;> simp [q] at this ⊢ <;> simp [this]
  have hi : ∀ (l : List Se) (i : Nat) (z : Se), x ∈ insL l i z ↔ x ∈ l ∨ x = z := fun l i z => by
    unfold insL
    rw [List.mem_append, List.mem_cons]
    have : x ∈ l ↔ x ∈ l.take i ∨ x ∈ l.drop i := by rw [← List.mem_append, List.take_append_drop]
    rw [this]
    constructor
    · rintro (h | h | h)
      · exact Or.inl (Or.inl h)
      · exact Or.inr h
      · exact Or.inl (Or.inr h)
    · rintro ((h | h) | h)
      · exact Or.inl h
      · exact Or.inr (Or.inr h)
      · exact Or.inr (Or.inl h)
  cases c.f1 with
  | true => rw [if_pos rfl, hi, hf]; simp [rowC]
  | false => rw [if_neg (by simp), hf]; simp
theorem setC_srt (t : List Se) (c : Ch) (h : Srt t) : Srt (setC t c) := by
  have hr : Srt (t.filter fun x => !XDel.is c.f0 x) := List.Pairwise.sublist List.filter_sublist h
  have hn : ∀ y ∈ (t.filter fun x => !XDel.is c.f0 x), y.f0 ≠ c.f0 := fun y hy => by
    have := (List.mem_filter.1 hy).2
    intro e
    rw [(isT_iff c.f0 y).2 e] at this
    cases this
  unfold setC setL
  split
  · obtain ⟨u, v, e, hu, hv⟩ := srt_split c.f0 _ hr
    rw [e] at hr hn ⊢
    rw [ins_at _ _ _ _ hu hv]
    have hp := List.pairwise_append.1 hr
    refine List.pairwise_append.2 ⟨hp.1, List.pairwise_cons.2 ⟨fun y hy => ?_, hp.2.1⟩, fun a ha b hb => ?_⟩
    · exact lessB_tri (hv y hy) (hn y (List.mem_append.2 (Or.inr hy)))
    · rcases List.mem_cons.1 hb with q | q
      · rw [q]; exact hu a ha
      · exact hp.2.2 a ha b q
  · exact hr
theorem setC_comm (t : List Se) (a b : Ch) (h : Srt t) (hn : a.f0 ≠ b.f0) : setC (setC t a) b = setC (setC t b) a := by
  refine srt_ext (setC_srt _ _ (setC_srt _ _ h)) (setC_srt _ _ (setC_srt _ _ h)) fun x => ?_
  simp only [setC_mem]
  constructor
  · rintro (⟨⟨q, r⟩ | ⟨q, r⟩, s⟩ | ⟨q, r⟩)
    · exact Or.inl ⟨Or.inl ⟨q, s⟩, r⟩
    · exact Or.inr ⟨q, r⟩
    · exact Or.inl ⟨Or.inr ⟨q, r⟩, by rw [r]; exact fun e => hn e.symm⟩
  · rintro (⟨⟨q, r⟩ | ⟨q, r⟩, s⟩ | ⟨q, r⟩)
    · exact Or.inl ⟨Or.inl ⟨q, s⟩, r⟩
    · exact Or.inr ⟨q, r⟩
    · exact Or.inl ⟨Or.inr ⟨q, r⟩, by rw [r]; exact hn⟩
theorem setC_same (t : List Se) (a b : Ch) (h : Srt t) (hn : a.f0 = b.f0) : setC (setC t a) b = setC t b := by
  refine srt_ext (setC_srt _ _ (setC_srt _ _ h)) (setC_srt _ _ h) fun x => ?_
  simp only [setC_mem]
  constructor
  · rintro (⟨⟨q, r⟩ | ⟨q, r⟩, s⟩ | ⟨q, r⟩)
    · exact Or.inl ⟨q, s⟩
    · exact absurd (by rw [r]; exact hn) s
    · exact Or.inr ⟨q, r⟩
  · rintro (⟨q, r⟩ | ⟨q, r⟩)
    · exact Or.inl ⟨Or.inl ⟨q, by rw [hn]; exact r⟩, r⟩
    · exact Or.inr ⟨q, r⟩
theorem mayTL (t : List Se) (ht : t.length ≤ 1000) : ∀ (d k j : Nat), j + d = t.length → d + 60 < k → ∃ b, rollcallref05_May.l0 k t (j : Int) = some b ∧ (b = true → ∀ (i : Nat) (hi : i < t.length), j ≤ i → 0 < i → lessB (t[i - 1]'(by omega)).f0 t[i].f0 = true) := by
  intro d
  induction d with
  | zero =>
    intro k j hj hk
    obtain ⟨k, rfl⟩ : ∃ m, k = m + 1 := ⟨k - 1, by omega⟩
    rw [rollcallref05_May.l0, if_neg (by omega)]
    exact ⟨_, rfl, fun _ i hi hji _ => by omega⟩
  | succ d ih =>
    intro k j hj hk
    obtain ⟨k, rfl⟩ : ∃ m, k = m + 1 := ⟨k - 1, by omega⟩
    rw [rollcallref05_May.l0, if_pos (by omega), if_pos (by omega), rdS_at t j (by omega), refIs_f k _ (by omega), refMay_f k _ _ _ _ (by omega)]
    simp only [Option.bind_some]
    obtain ⟨b, hb, hB⟩ := ih k (j + 1) (by omega) (by omega)
    split
    · split
      · by_cases c : (j : Int) > 0
        · rw [if_pos c, wrap_pred j (by omega) (by omega), if_pos (by omega), if_pos (by omega), rdS_at t (j - 1) (by omega), refLess_b]
          simp only [Option.bind_some]
          split
          · rename_i hl
            rw [wrap_succ j (by omega), hb]
            refine ⟨b, rfl, fun hbt i hi hji h0 => ?_⟩
            by_cases e : i = j
            · subst e; exact hl
            · exact hB hbt i hi (by omega) h0
          · exact ⟨_, rfl, fun h => by cases h⟩
        · rw [if_neg c, wrap_succ j (by omega), hb]
          refine ⟨b, rfl, fun hbt i hi hji h0 => hB hbt i hi (by omega) h0⟩
      · exact ⟨_, rfl, fun h => by cases h⟩
    · exact ⟨_, rfl, fun h => by cases h⟩
theorem srt_of (t : List Se) (h : ∀ (i : Nat) (hi : i < t.length), 0 < i → lessB (t[i - 1]'(by omega)).f0 t[i].f0 = true) : Srt t := by
  refine List.pairwise_iff_getElem.2 fun i j hi hj hij => ?_
  induction j with
  | zero => omega
  | succ j ih =>
    have h1 := h (j + 1) hj (by omega)
    by_cases e : i = j
    · subst e; exact h1
    · exact lessB_trans (ih (by omega) (by omega)) h1
theorem mayT_f (k : Nat) (t : List Se) (hk : 200 ≤ k) : ∃ b, rollcallref05_May.f k t = some b ∧ (b = true → t.length ≤ 32 ∧ Srt t) := by
  unfold rollcallref05_May.f
  by_cases c : (t.length : Int) > 32
  · rw [if_pos c]; exact ⟨_, rfl, fun h => by cases h⟩
  · rw [if_neg c]
    obtain ⟨b, hb, hB⟩ := mayTL t (by omega) t.length k 0 (by omega) (by omega)
    exact ⟨b, hb, fun hbt => ⟨by omega, srt_of t fun i hi h0 => hB hbt i hi (by omega) h0⟩⟩
theorem overQ_srt (l : List Ch) : ∀ t : List Se, Srt t → Srt (overQ t l) := by
  induction l with
  | nil => intro t h; exact h
  | cons c l ih => intro t h; exact ih _ (setC_srt t c h)
end Go.Proofs.Ythcmelchgnekpaa.XV17
/- Two changes pushed in either order, in plain lists. -/
namespace Go.Proofs.Ythcmelchgnekpaa.XV17
open Go.RowKit Go.Proofs.Ythcmelchgnekpaa.PA Go.Proofs.YthcmelchgnekpaaW.PrintWords Go.Proofs.YthcmelchgnekpaaW.PrintLast Go.Proofs.Ythcmelchgnekpaa.XGen
open Go.Proofs.Ythcmelchgnekpaa.XPlace (idx is)
set_option linter.unusedVariables false
set_option linter.unusedSimpArgs false
theorem is_ne {n : ByteArray} {x : Ch} (h : x.f0 ≠ n) : is n x = false := by
  cases q : is n x with
  | false => rfl
  | true => exact absurd (is_iff.1 q) h
theorem is_own (x : Ch) : is x.f0 x = true := is_iff.2 rfl
theorem idx_app_no (p : Ch → Bool) (x : Ch) (hx : p x = false) : ∀ (l : List Ch) (i : Int), idx p (l ++ [x]) i = idx p l i
  | [], i => by simp [idx, hx]
  | y :: l, i => by rw [List.cons_append, idx, idx, idx_app_no p x hx l]
theorem idx_set_as (p : Ch → Bool) (x : Ch) : ∀ (l : List Ch) (k : Nat) (h : k < l.length) (i : Int), p x = p l[k] → idx p (l.set k x) i = idx p l i
  | y :: l, 0, _, i, e => by rw [List.set_cons_zero, idx, idx, e]; rfl
  | y :: l, k + 1, h, i, e => by rw [List.set_cons_succ, idx, idx, idx_set_as p x l k (by simpa using h) (i + 1) (by simpa using e)]
theorem PU_lat (l : List Ch) (c : Ch) (room : Int) : PU l true c room = (l, true) := by unfold PU; rw [if_pos rfl]
theorem PU_in (l : List Ch) (c : Ch) (room : Int) (k : Nat) (h : idx (is c.f0) l 0 = (k : Int)) : PU l false c room = (l.set k c, false) := by
  unfold PU
  rw [if_neg (by simp), h, if_pos (by omega), Int.toNat_natCast]
theorem PU_new (l : List Ch) (c : Ch) (room : Int) (h : idx (is c.f0) l 0 = -1) (hl : (l.length : Int) < room) : PU l false c room = (l ++ [c], false) := by
  unfold PU
  rw [if_neg (by simp), h, if_neg (by omega), if_pos hl]
theorem idx_at (n : ByteArray) (l : List Ch) : idx (is n) l 0 = -1 ∨ ∃ (k : Nat) (h : k < l.length), idx (is n) l 0 = (k : Int) ∧ l[k].f0 = n := by
  rcases idx_no (is n) l 0 (by omega) with ⟨h, _⟩ | ⟨k, h, h2, _, h3⟩
  · exact Or.inl h
  · exact Or.inr ⟨k, h, by rw [h2]; omega, is_iff.1 h3⟩
theorem idx_new (x : Ch) (l : List Ch) (h : idx (is x.f0) l 0 = -1) : idx (is x.f0) (l ++ [x]) 0 = (l.length : Int) := by
  have hn : ∀ y ∈ l, is x.f0 y = false := by
    rcases idx_no (is x.f0) l 0 (by omega) with ⟨_, g⟩ | ⟨k, _, g, _⟩
    · exact g
    · rw [g] at h; omega
  exact idx_first _ _ l.length (by simp) (fun j hj hjl => by rw [List.getElem_append_left hjl]; exact hn _ (List.getElem_mem hjl)) (by simp [is])
theorem push_twice (l : List Ch) (lat : Bool) (x : Ch) (hl : l.length ≤ 14) : PU (PU l lat x 16).1 (PU l lat x 16).2 x 16 = PU l lat x 16 := by
  cases lat with
  | true => rw [PU_lat]; exact PU_lat _ _ _
  | false =>
    rcases idx_at x.f0 l with h | ⟨k, hk, h, h2⟩
    · rw [PU_new l x 16 h (by omega)]
      show PU (l ++ [x]) false x 16 = _
      rw [PU_in _ x 16 l.length (idx_new x l h)]
      simp
    · rw [PU_in l x 16 k h]
      show PU (l.set k x) false x 16 = _
      rw [PU_in _ x 16 k (by rw [idx_set_as _ x l k hk 0 (by rw [is_own, is_iff.2 h2]), h])]
      simp
theorem push_two (t : List Se) (l : List Ch) (x y : Ch) (hl : l.length ≤ 14) (ht : Srt t) (hn : x.f0 ≠ y.f0) :
    (PU (PU l false x 16).1 (PU l false x 16).2 y 16).1.length = (PU (PU l false y 16).1 (PU l false y 16).2 x 16).1.length ∧
    overQ t (PU (PU l false x 16).1 (PU l false x 16).2 y 16).1 = overQ t (PU (PU l false y 16).1 (PU l false y 16).2 x 16).1 := by
  have nx : is y.f0 x = false := is_ne hn
  have ny : is x.f0 y = false := is_ne hn.symm
  rcases idx_at x.f0 l with h | ⟨k, hk, h, h2⟩ <;> rcases idx_at y.f0 l with g | ⟨m, hm, g, g2⟩
  · rw [PU_new l x 16 h (by omega), PU_new l y 16 g (by omega)]
    show (PU (l ++ [x]) false y 16).1.length = (PU (l ++ [y]) false x 16).1.length ∧ overQ t (PU (l ++ [x]) false y 16).1 = overQ t (PU (l ++ [y]) false x 16).1
    rw [PU_new (l ++ [x]) y 16 (by rw [idx_app_no _ _ nx, g]) (by simp; omega), PU_new (l ++ [y]) x 16 (by rw [idx_app_no _ _ ny, h]) (by simp; omega)]
    refine ⟨by simp, ?_⟩
    show overQ t (l ++ [x] ++ [y]) = overQ t (l ++ [y] ++ [x])
    unfold overQ
    rw [List.foldl_append, List.foldl_append, List.foldl_append, List.foldl_append]
    exact setC_comm _ x y (overQ_srt l t ht) hn
  · rw [PU_new l x 16 h (by omega), PU_in l y 16 m g]
    show (PU (l ++ [x]) false y 16).1.length = (PU (l.set m y) false x 16).1.length ∧ overQ t (PU (l ++ [x]) false y 16).1 = overQ t (PU (l.set m y) false x 16).1
    rw [PU_in (l ++ [x]) y 16 m (by rw [idx_app_no _ _ nx, g]), PU_new (l.set m y) x 16 (by rw [idx_set_as _ y l m hm 0 (by rw [ny, is_ne (by rw [g2]; exact hn.symm)]), h]) (by simp; omega)]
    rw [show (l ++ [x]).set m y = l.set m y ++ [x] from List.set_append_left _ _ hm]
    exact ⟨rfl, rfl⟩
  · rw [PU_in l x 16 k h, PU_new l y 16 g (by omega)]
    show (PU (l.set k x) false y 16).1.length = (PU (l ++ [y]) false x 16).1.length ∧ overQ t (PU (l.set k x) false y 16).1 = overQ t (PU (l ++ [y]) false x 16).1
    rw [PU_in (l ++ [y]) x 16 k (by rw [idx_app_no _ _ ny, h]), PU_new (l.set k x) y 16 (by rw [idx_set_as _ x l k hk 0 (by rw [nx, is_ne (by rw [h2]; exact hn)]), g]) (by simp; omega)]
    rw [show (l ++ [y]).set k x = l.set k x ++ [y] from List.set_append_left _ _ hk]
    exact ⟨rfl, rfl⟩
  · rw [PU_in l x 16 k h, PU_in l y 16 m g]
    show (PU (l.set k x) false y 16).1.length = (PU (l.set m y) false x 16).1.length ∧ overQ t (PU (l.set k x) false y 16).1 = overQ t (PU (l.set m y) false x 16).1
    rw [PU_in (l.set k x) y 16 m (by rw [idx_set_as _ x l k hk 0 (by rw [nx, is_ne (by rw [h2]; exact hn)]), g]), PU_in (l.set m y) x 16 k (by rw [idx_set_as _ y l m hm 0 (by rw [ny, is_ne (by rw [g2]; exact hn.symm)]), h])]
    have hkm : k ≠ m := by intro e; subst e; rw [h2] at g2; exact hn g2
    rw [List.set_comm _ _ hkm]
    exact ⟨rfl, rfl⟩
theorem push_len (l : List Ch) (lat : Bool) (x y : Ch) (hl : l.length ≤ 14) :
    (PU (PU l lat x 16).1 (PU l lat x 16).2 y 16).1.length = (PU (PU l lat y 16).1 (PU l lat y 16).2 x 16).1.length := by
  cases lat with
  | true => simp only [PU_lat]
  | false =>
    by_cases hn : x.f0 = y.f0
    · rcases idx_at x.f0 l with h | ⟨k, hk, h, h2⟩
      · rw [PU_new l x 16 h (by omega), PU_new l y 16 (by rw [← hn]; exact h) (by omega)]
        show (PU (l ++ [x]) false y 16).1.length = (PU (l ++ [y]) false x 16).1.length
        rw [PU_in _ y 16 l.length (by rw [← hn]; exact idx_new x l h), PU_in _ x 16 l.length (by rw [hn]; exact idx_new y l (by rw [← hn]; exact h))]
        simp
      · rw [PU_in l x 16 k h, PU_in l y 16 k (by rw [← hn]; exact h)]
        show (PU (l.set k x) false y 16).1.length = (PU (l.set k y) false x 16).1.length
        rw [PU_in _ y 16 k (by rw [← hn, idx_set_as _ x l k hk 0 (by rw [is_own, is_iff.2 h2]), h]), PU_in _ x 16 k (by rw [idx_set_as _ y l k hk 0 (by rw [is_iff.2 hn.symm, is_iff.2 h2]), h])]
        simp
    · exact (push_two [] l x y hl List.Pairwise.nil hn).1
end Go.Proofs.Ythcmelchgnekpaa.XV17
