/- Numbers of seven bits a byte, in plain numbers: what the walk's function getGo tells of bytes that were laid by 'digs', and the other way round. -/
import Derived.Test.YtgchnnkbknaklaaXGet
import Derived.Laws.BitsAllLaws
namespace Go.Proofs.Ytgchnnkbknaklaa.XVar
open Go.RowKit Go.Proofs.YtgchnnkbknaklaaW.PrintWords Go.Proofs.YtgchnnkbknaklaaW.PrintLast Go.Proofs.YtgchnnkbknaklaaW.PrintMore Go.Proofs.Ytgchnnkbknaklaa.XGet
set_option linter.unusedVariables false
set_option linter.unusedSimpArgs false

/-- 128 to the power of j. -/
def pw : Nat → Int
  | 0 => 1
  | j + 1 => 128 * pw j
theorem pw_pos : ∀ j, 0 < pw j
  | 0 => by simp [pw]
  | j + 1 => by have := pw_pos j; simp only [pw]; omega
theorem wrap_u64 (n : Int) (h0 : 0 ≤ n) (h1 : n < 18446744073709551616) : IntKind.u64.wrap n = n := by
  simp [IntKind.wrap, IntKind.bits, IntKind.signed]
  omega
theorem wrap_id (n : Int) (h0 : -9223372036854775808 ≤ n) (h1 : n ≤ 9223372036854775807) : wrap64 n = n := by unfold wrap64; omega
theorem andNot128 (b : Int) (h0 : 0 ≤ b) (h1 : b ≤ 255) : bits .andNot .u8 b 128 = b % 128 := by
  have h : ∀ n : Fin 256, bits .andNot .u8 ((n.1 : Nat) : Int) 128 = ((n.1 : Nat) : Int) % 128 := by decide +kernel
  have h2 := h ⟨b.toNat, by omega⟩
  rwa [Int.toNat_of_nonneg h0] at h2
theorem or128 (b : Int) : bits .or .u8 (b % 256) 128 = 128 + b % 128 := by
  have h : ∀ n : Fin 256, bits .or .u8 ((n.1 : Nat) : Int) 128 = 128 + ((n.1 : Nat) : Int) % 128 := by decide +kernel
  have h2 := h ⟨(b % 256).toNat, by omega⟩
  rw [Int.toNat_of_nonneg (by omega)] at h2
  omega
theorem ten (j : Nat) (hj : j ≤ 9) : j = 0 ∨ j = 1 ∨ j = 2 ∨ j = 3 ∨ j = 4 ∨ j = 5 ∨ j = 6 ∨ j = 7 ∨ j = 8 ∨ j = 9 := by omega
theorem or_low (i : Nat) (x y : Int) (m : Int) (hm : m = (2 ^ i : Nat)) (hx : 0 ≤ x) (hx1 : x < m) (hx2 : x < 18446744073709551616) (hy : 0 ≤ y) (hy1 : y * m < 18446744073709551616) : bits .or .u64 x (y * m) = x + y * m := by
  subst hm
  obtain ⟨a, rfl⟩ := Int.eq_ofNat_of_zero_le hx
  obtain ⟨b, rfl⟩ := Int.eq_ofNat_of_zero_le hy
  have e : (b : Int) * ((2 ^ i : Nat) : Int) = ((b * 2 ^ i : Nat) : Int) := by simp
  rw [e] at hy1 ⊢
  have h1 : a < 2 ^ i := by exact_mod_cast hx1
  rw [u64_or_nat a (b * 2 ^ i) (by omega) (by omega), Nat.or_comm, nat_join i _ _ (Nat.mul_mod_left _ _) h1]
  omega
theorem stepN_eq (j : Nat) (hj : j ≤ 9) (a b : Int) (ha : 0 ≤ a) (ha' : a < pw j) (hb : 0 ≤ b) (hb' : b ≤ 255) (h9 : j = 9 → b % 128 ≤ 1) : stepN a b (j : Int) = a + b % 128 * pw j := by
  unfold stepN
  rw [andNot128 b hb hb', wrap_u64 (b % 128) (by omega) (by omega)]
  have key : ∀ (i : Nat) (m : Int), (7 * (j : Int)).toNat = i → (2 : Int) ^ i = m → pw j = m → m = (2 ^ i : Nat) → a < m → b % 128 * m < 18446744073709551616 → bits .or .u64 a (IntKind.u64.wrap (b % 128 * 2 ^ (7 * (j : Int)).toNat)) = a + b % 128 * pw j := by
    intro i m e1 e2 e3 e4 h1 h2
    have hm : 0 < m := by have := pw_pos j; omega
    rw [e1, e2, e3, wrap_u64 _ (Int.mul_nonneg (by omega) (by omega)) h2]
    refine or_low i a (b % 128) m e4 ha h1 ?_ (by omega) h2
    rcases ten j hj with rfl | rfl | rfl | rfl | rfl | rfl | rfl | rfl | rfl | rfl <;> (simp only [pw] at ha'; omega)
  rcases ten j hj with rfl | rfl | rfl | rfl | rfl | rfl | rfl | rfl | rfl | rfl
  · exact key 0 1 (by decide) (by decide) (by decide) (by decide) (by simp only [pw] at ha'; omega) (by omega)
  · exact key 7 128 (by decide) (by decide) (by decide) (by decide) (by simp only [pw] at ha'; omega) (by omega)
  · exact key 14 16384 (by decide) (by decide) (by decide) (by decide) (by simp only [pw] at ha'; omega) (by omega)
  · exact key 21 2097152 (by decide) (by decide) (by decide) (by decide) (by simp only [pw] at ha'; omega) (by omega)
  · exact key 28 268435456 (by decide) (by decide) (by decide) (by decide) (by simp only [pw] at ha'; omega) (by omega)
  · exact key 35 34359738368 (by decide) (by decide) (by decide) (by decide) (by simp only [pw] at ha'; omega) (by omega)
  · exact key 42 4398046511104 (by decide) (by decide) (by decide) (by decide) (by simp only [pw] at ha'; omega) (by omega)
  · exact key 49 562949953421312 (by decide) (by decide) (by decide) (by decide) (by simp only [pw] at ha'; omega) (by omega)
  · exact key 56 72057594037927936 (by decide) (by decide) (by decide) (by decide) (by simp only [pw] at ha'; omega) (by omega)
  · exact key 63 9223372036854775808 (by decide) (by decide) (by decide) (by decide) (by simp only [pw] at ha'; omega) (by have := h9 rfl; omega)

/-- A number's bytes. -/
def digs : Nat → Int → List Int
  | 0, _ => []
  | d + 1, n => if n ≥ 128 then (128 + n % 128) :: digs d (n / 128) else [n]
theorem digs_len : ∀ d n, (digs d n).length ≤ d
  | 0, _ => by simp [digs]
  | d + 1, n => by
    rw [digs]
    split
    · have := digs_len d (n / 128)
      simp only [List.length_cons]
      omega
    · simp
theorem digs_pos (d : Nat) (n : Int) : 1 ≤ (digs (d + 1) n).length := by
  rw [digs]
  split <;> simp
theorem digs_range : ∀ d n, 0 ≤ n → ∀ x ∈ digs d n, 0 ≤ x ∧ x ≤ 255
  | 0, _, _ => by simp [digs]
  | d + 1, n, h0 => by
    intro x hx
    rw [digs] at hx
    split at hx
    · rcases List.mem_cons.1 hx with rfl | hx
      · omega
      · exact digs_range d (n / 128) (by omega) x hx
    · rw [List.mem_singleton.1 hx]
      omega

/-- Bytes that stand at a place. -/
def Stands (s : ByteArray) (p : Int) (l : List Int) : Prop := p + l.length ≤ s.size ∧ ∀ (j : Nat) (h : j < l.length), bt s (p + j) = l[j]
theorem Stands.tail {s : ByteArray} {p : Int} {x : Int} {l : List Int} (h : Stands s p (x :: l)) : Stands s (p + 1) l := by
  refine ⟨by have := h.1; simp only [List.length_cons] at this; omega, fun j hj => ?_⟩
  have := h.2 (j + 1) (by simp only [List.length_cons]; omega)
  simp only [List.getElem_cons_succ] at this
  rw [← this]
  congr 1
  omega
theorem Stands.head {s : ByteArray} {p : Int} {x : Int} {l : List Int} (h : Stands s p (x :: l)) : bt s p = x := by
  have := h.2 0 (by simp)
  simpa using this
theorem Stands.lt {s : ByteArray} {p : Int} {x : Int} {l : List Int} (h : Stands s p (x :: l)) : p < s.size := by
  have := h.1
  simp only [List.length_cons] at this
  omega
theorem Stands.cons {s : ByteArray} {p : Int} {x : Int} {l : List Int} (h0 : bt s p = x) (h1 : p < s.size) (h : Stands s (p + 1) l) : Stands s p (x :: l) := by
  refine ⟨by have := h.1; simp only [List.length_cons]; omega, fun j hj => ?_⟩
  cases j with
  | zero => simpa using h0
  | succ j =>
    have := h.2 j (by simp only [List.length_cons] at hj; omega)
    simp only [List.getElem_cons_succ]
    rw [← this]
    congr 1
    omega

/-- What was put is got. -/
theorem get_of_put (s : ByteArray) (p : Int) : ∀ (d j : Nat) (a n : Int), j + d = 10 → j ≤ 9 → 0 ≤ a → a < pw j → 0 ≤ n → a + n * pw j < 18446744073709551616 → (n = 0 → j = 0) → Stands s (p + j) (digs d n) →
    getGo s p d (j : Int) a = (a + n * pw j, p + j + (digs d n).length, 0)
  | 0, j, a, n, hd, hj, _, _, _, _, _, _ => by omega
  | d + 1, j, a, n, hd, hj, ha0, ha1, hn0, hn1, hz, hs => by
    rw [getGo]
    rw [digs] at hs ⊢
    by_cases c : n ≥ 128
    · rw [if_pos c] at hs ⊢
      have hb := hs.head
      have hl := hs.lt
      have hp : ∀ q, pw 9 = q → q = 9223372036854775808 := by intro q hq; rw [← hq]; decide
      have h9 : j ≠ 9 := by
        rintro rfl
        rw [hp _ rfl] at hn1
        omega
      rw [if_neg (by omega), hb, if_neg (by omega), if_pos (by omega)]
      rw [stepN_eq j hj a (128 + n % 128) ha0 ha1 (by omega) (by omega) (fun h => absurd h h9)]
      have e : (128 + n % 128) % 128 = n % 128 := by omega
      rw [e]
      have hpw := pw_pos j
      have e2 : a + n % 128 * pw j + n / 128 * pw (j + 1) = a + n * pw j := by
        simp only [pw]
        rcases ten j hj with rfl | rfl | rfl | rfl | rfl | rfl | rfl | rfl | rfl | rfl <;> (simp only [pw]; omega)
      have ih := get_of_put s p d (j + 1) (a + n % 128 * pw j) (n / 128) (by omega) (by omega) (by rcases ten j hj with rfl | rfl | rfl | rfl | rfl | rfl | rfl | rfl | rfl | rfl <;> (simp only [pw]; omega))
        (by rcases ten j hj with rfl | rfl | rfl | rfl | rfl | rfl | rfl | rfl | rfl | rfl <;> (simp only [pw] at ha1 ⊢; omega)) (by omega) (by rw [e2]; exact hn1) (fun h => by omega)
        (by have := hs.tail; rw [show p + ((j + 1 : Nat) : Int) = p + j + 1 by omega]; exact this)
      rw [show ((j : Int) + 1) = ((j + 1 : Nat) : Int) by omega, ih, e2]
      simp only [List.length_cons, Prod.mk.injEq, true_and, and_true]
      omega
    · rw [if_neg c] at hs ⊢
      have hb := hs.head
      have hl := hs.lt
      have h1 : j = 9 → n % 128 ≤ 1 := by
        rintro rfl
        have : pw 9 = 9223372036854775808 := by decide
        rw [this] at hn1
        omega
      rw [if_neg (by omega), hb, if_neg (by intro h; have := h1 (by omega); omega), if_neg (by omega), if_neg (by intro h; have := hz h.1; omega)]
      rw [stepN_eq j hj a n ha0 ha1 (by omega) (by omega) h1, show n % 128 = n by omega]
      simp only [List.length_singleton, Prod.mk.injEq, true_and, and_true]
      omega

/-- What is got is what was put. -/
theorem put_of_get (s : ByteArray) (p : Int) : ∀ (d j : Nat) (a n q : Int), j + d = 10 → 0 ≤ a → a < pw j → p + j ≤ s.size → 0 ≤ p → getGo s p d (j : Int) a = (n, q, 0) →
    ∃ m : Int, 0 ≤ m ∧ n = a + m * pw j ∧ n < 18446744073709551616 ∧ (m = 0 → j = 0) ∧ q = p + j + (digs d m).length ∧ Stands s (p + j) (digs d m)
  | 0, j, a, n, q, hd, ha0, ha1, hp, hp0, h => by simp [getGo] at h
  | d + 1, j, a, n, q, hd, ha0, ha1, hp, hp0, h => by
    have hj : j ≤ 9 := by omega
    rw [getGo] at h
    have hb := bt_range s (p + j)
    by_cases c1 : p + (j : Int) = s.size
    · rw [if_pos c1] at h
      simp at h
    rw [if_neg c1] at h
    by_cases c2 : (j : Int) = 9 ∧ bt s (p + j) > 1
    · rw [if_pos c2] at h
      simp at h
    rw [if_neg c2] at h
    have h9 : j = 9 → bt s (p + j) % 128 ≤ 1 := fun e => by omega
    rw [stepN_eq j hj a _ ha0 ha1 hb.1 hb.2 h9] at h
    by_cases c3 : bt s (p + j) ≥ 128
    · rw [if_pos c3, show ((j : Int) + 1) = ((j + 1 : Nat) : Int) by omega] at h
      have hj8 : j ≤ 8 := by omega
      obtain ⟨m, hm0, hn, hlt, hz, hq, hs⟩ := put_of_get s p d (j + 1) _ n q (by omega) (by rcases ten j hj with rfl | rfl | rfl | rfl | rfl | rfl | rfl | rfl | rfl | rfl <;> (simp only [pw]; omega))
        (by rcases ten j hj with rfl | rfl | rfl | rfl | rfl | rfl | rfl | rfl | rfl | rfl <;> (simp only [pw] at ha1 ⊢; omega)) (by omega) hp0 h
      have hm1 : m ≠ 0 := fun e => by have := hz e; omega
      refine ⟨bt s (p + j) % 128 + 128 * m, by omega, ?_, hlt, fun e => by omega, ?_, ?_⟩
      · rw [hn]
        rcases ten j hj with rfl | rfl | rfl | rfl | rfl | rfl | rfl | rfl | rfl | rfl <;> (simp only [pw]; omega)
      · rw [digs, if_pos (by omega), show (bt s (p + j) % 128 + 128 * m) / 128 = m by omega, hq]
        simp only [List.length_cons]
        omega
      · rw [digs, if_pos (by omega), show (bt s (p + j) % 128 + 128 * m) / 128 = m by omega]
        refine Stands.cons (by omega) (by omega) ?_
        rw [show p + (j : Int) + 1 = p + ((j + 1 : Nat) : Int) by omega]
        exact hs
    · rw [if_neg c3] at h
      by_cases c4 : bt s (p + j) = 0 ∧ (j : Int) + 1 > 1
      · rw [if_pos c4] at h
        simp at h
      rw [if_neg c4] at h
      obtain ⟨h1, h2, _⟩ : a + bt s (p + j) % 128 * pw j = n ∧ p + ((j : Int) + 1) = q ∧ True := by simpa using h
      refine ⟨bt s (p + j), hb.1, ?_, ?_, fun e => by omega, ?_, ?_⟩
      · rw [← h1, show bt s (p + j) % 128 = bt s (p + j) by omega]
      · rw [← h1]
        rcases ten j hj with rfl | rfl | rfl | rfl | rfl | rfl | rfl | rfl | rfl | rfl <;> (simp only [pw] at ha1 ⊢; omega)
      · rw [digs, if_neg (by omega)]
        simp only [List.length_singleton]
        omega
      · rw [digs, if_neg (by omega)]
        refine Stands.cons rfl (by omega) ⟨by simp only [List.length_nil]; omega, fun j hj => by simp at hj⟩

/-- The answer's shape: with an error, nothing; else a place behind the one asked for, in the text. -/
theorem get_shape (s : ByteArray) (p : Int) : ∀ (d j : Nat) (a : Int), j + d = 10 → p + j ≤ s.size → (∃ e, getGo s p d (j : Int) a = (0, 0, e) ∧ (e = 2 ∨ e = 3)) ∨ ∃ n q, getGo s p d (j : Int) a = (n, q, 0) ∧ p + j < q ∧ q ≤ s.size
  | 0, j, a, _, _ => .inl ⟨3, rfl, by omega⟩
  | d + 1, j, a, hd, hp => by
    rw [getGo]
    by_cases c1 : p + (j : Int) = s.size
    · rw [if_pos c1]
      exact .inl ⟨2, rfl, by omega⟩
    rw [if_neg c1]
    by_cases c2 : (j : Int) = 9 ∧ bt s (p + j) > 1
    · rw [if_pos c2]
      exact .inl ⟨3, rfl, by omega⟩
    rw [if_neg c2]
    by_cases c3 : bt s (p + j) ≥ 128
    · rw [if_pos c3, show ((j : Int) + 1) = ((j + 1 : Nat) : Int) by omega]
      rcases get_shape s p d (j + 1) (stepN a (bt s (p + j)) j) (by omega) (by omega) with h | ⟨n, q, h, h1, h2⟩
      · exact .inl h
      · exact .inr ⟨n, q, h, by omega, h2⟩
    · rw [if_neg c3]
      by_cases c4 : bt s (p + j) = 0 ∧ (j : Int) + 1 > 1
      · rw [if_pos c4]
        exact .inl ⟨3, rfl, by omega⟩
      · rw [if_neg c4]
        exact .inr ⟨_, _, rfl, by omega, by omega⟩
end Go.Proofs.Ytgchnnkbknaklaa.XVar
