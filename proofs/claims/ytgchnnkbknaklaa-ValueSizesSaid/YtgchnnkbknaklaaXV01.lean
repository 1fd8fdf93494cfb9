/- What the printed functions of varint, and of its reference, answer, in plain numbers. -/
import Derived.Test.YtgchnnkbknaklaaPAx2
import Derived.Test.YtgchnnkbknaklaaPAx4
import Derived.Test.YtgchnnkbknaklaaPAx7
import Derived.Test.YtgchnnkbknaklaaPAx3
import Derived.Test.YtgchnnkbknaklaaPAx10
import Derived.Test.YtgchnnkbknaklaaXBytes
namespace Go.Proofs.Ytgchnnkbknaklaa.XV01
open Go.RowKit Go.Proofs.YtgchnnkbknaklaaW.PrintWords Go.Proofs.YtgchnnkbknaklaaW.PrintLast Go.Proofs.YtgchnnkbknaklaaW.PrintMore Go.Proofs.Ytgchnnkbknaklaa.PA Go.Proofs.Ytgchnnkbknaklaa.XVar Go.Proofs.Ytgchnnkbknaklaa.XBytes
set_option linter.unusedVariables false
set_option linter.unusedSimpArgs false

theorem putL : ∀ (d k : Nat) (n : Int) (xs : List Int), 0 ≤ n → n < pw (d + 1) → d < k → xs.length + d + 1 < 140737488355328 → varint_Put.l0 k n xs = some (strOfNums (xs ++ digs (d + 1) n))
  | d, 0, n, xs, _, _, hk, _ => by omega
  | d, k + 1, n, xs, h0, h1, hk, hl => by
    rw [varint_Put.l0, digs]
    by_cases c : n ≥ 128
    · rw [if_pos c, if_pos (by omega), if_pos c, or128]
      cases d with
      | zero =>
        simp only [pw] at h1
        omega
      | succ d =>
        rw [putL d k (n / 128) _ (by omega) (by simp only [pw] at h1 ⊢; omega) (by omega) (by simp only [List.length_append, List.length_singleton]; omega), List.append_assoc, List.singleton_append]
    · rw [if_neg c, if_pos (by omega), if_neg c, show n % 256 = n by omega]
theorem tdiv128 (n : Int) (h0 : 0 ≤ n) : Int.tdiv n 128 = n / 128 := Int.tdiv_eq_ediv_of_nonneg h0
theorem tmod128 (n : Int) (h0 : 0 ≤ n) : Int.tmod n 128 = n % 128 := Int.tmod_eq_emod_of_nonneg h0
theorem refPutL : ∀ (d k : Nat) (n : Int) (xs : List Int), 0 ≤ n → n < pw (d + 1) → n < 18446744073709551616 → d < k → xs.length + d + 1 < 140737488355328 → rollcallref01_Put.l0 k n xs = some (strOfNums (xs ++ digs (d + 1) n))
  | d, 0, n, xs, _, _, _, hk, _ => by omega
  | d, k + 1, n, xs, h0, h1, h2, hk, hl => by
    rw [rollcallref01_Put.l0, digs]
    by_cases c : n ≥ 128
    · rw [if_pos c, if_pos (by omega), if_pos c, tdiv128 n h0, tmod128 n h0, wrap_u64 (n / 128) (by omega) (by omega), wrap_u64 (128 + n % 128) (by omega) (by omega), show (128 + n % 128) % 256 = 128 + n % 128 by omega]
      cases d with
      | zero =>
        simp only [pw] at h1
        omega
      | succ d =>
        rw [refPutL d k (n / 128) _ (by omega) (by simp only [pw] at h1 ⊢; omega) (by omega) (by omega) (by simp only [List.length_append, List.length_singleton]; omega), List.append_assoc, List.singleton_append]
    · rw [if_neg c, if_pos (by omega), if_neg c, show n % 256 = n by omega]
/-- A number's bytes, as a text. -/
def P (n : Int) : ByteArray := strOfNums (digs 10 n)
theorem pw10 : pw 10 = 1180591620717411303424 := by decide
theorem put_f (k : Nat) (n : Int) (h0 : 0 ≤ n) (h1 : n < 18446744073709551616) (hk : 10 ≤ k) : varint_Put.f k n = some (P n) := by
  unfold varint_Put.f P
  rw [putL 9 k n [] h0 (by rw [pw10]; omega) (by omega) (by simp)]
  rfl
theorem refPut_f (k : Nat) (n : Int) (h0 : 0 ≤ n) (h1 : n < 18446744073709551616) (hk : 10 ≤ k) : rollcallref01_Put.f k n = some (P n) := by
  unfold rollcallref01_Put.f P
  rw [refPutL 9 k n [] h0 (by rw [pw10]; omega) h1 (by omega) (by simp)]
  rfl
theorem P_size (n : Int) : (P n).size = (digs 10 n).length := strOfNums_size _
theorem P_le (n : Int) : (P n).size ≤ 10 := by rw [P_size]; exact digs_len 10 n
theorem P_pos (n : Int) : 1 ≤ (P n).size := by rw [P_size]; exact digs_pos 9 n
theorem refSize_f (k : Nat) (n : Int) (h0 : 0 ≤ n) (h1 : n < 18446744073709551616) (hk : 10 ≤ k) : rollcallref01_Size.f k n = some ((P n).size : Int) := by
  unfold rollcallref01_Size.f
  rw [refPut_f k n h0 h1 hk]
  rfl
theorem text_f (k : Nat) (s : ByteArray) (hs : s.size ≤ 140737488351232) (hk : 10 ≤ k) : varint_Text.f k s = some (P s.size ++ s) := by
  unfold varint_Text.f
  rw [wrap_u64 _ (by omega) (by omega), put_f k _ (by omega) (by omega) hk]
  simp only [Option.bind_some]
  rw [if_pos (by have := P_le s.size; omega)]
theorem refText_f (k : Nat) (s : ByteArray) (hs : s.size ≤ 140737488351232) (hk : 10 ≤ k) : rollcallref01_Text.f k s = some (P s.size ++ s) := by
  unfold rollcallref01_Text.f
  rw [wrap_u64 _ (by omega) (by omega), refPut_f k _ (by omega) (by omega) hk]
  simp only [Option.bind_some]
  rw [if_pos (by have := P_le s.size; omega)]

/-- The plain function of both: what is got. -/
def G (s : ByteArray) (p : Int) : Int × Int × Int := if p < 0 ∨ p > (s.size : Int) then (0, 0, 1) else XGet.getGo s p 10 0 0
theorem get_f (s : ByteArray) (p : Int) (hs : s.size ≤ 140737488351232) : varint_Get.f s p = some (G s p) := by
  show XGet.varint_Get.f s p = some (G s p)
  unfold XGet.varint_Get.f G
  rw [if_pos hs]
theorem refGetL (s : ByteArray) (p : Int) (hp0 : 0 ≤ p) (hs : s.size ≤ 140737488351232) : ∀ (d j k : Nat) (a : Int), j + d = 10 → j ≤ 9 → 0 ≤ a → a < pw j → p + j ≤ s.size → 2 * d < k →
    rollcallref01_Get.l0 k s p a (pw j) (j : Int) = some (XGet.getGo s p d (j : Int) a)
  | 0, j, k, a, hd, hj, _, _, _, _ => by omega
  | d + 1, j, k, a, hd, hj, ha0, ha1, hp, hk => by
    obtain ⟨k, rfl⟩ : ∃ m, k = m + 2 := ⟨k - 2, by omega⟩
    rw [rollcallref01_Get.l0, XGet.getGo, if_pos (by omega), wrap_id (p + j) (by omega) (by omega)]
    by_cases c1 : p + (j : Int) = s.size
    · rw [if_pos c1, if_pos (by omega)]
    rw [if_neg c1, if_neg (by omega), if_pos (by omega), if_pos (by omega)]
    have hb := bt_range s (p + j)
    rw [wrap_u64 (bt s (p + j)) (by omega) (by omega)]
    have key : ∀ q : Bool, (q = true ↔ ((j : Int) = 9 ∧ bt s (p + j) > 1)) → rollcallref01_Get.j2 (k + 1) s p a (pw j) (j : Int) (bt s (p + j)) q =
        some (if (j : Int) = 9 ∧ bt s (p + j) > 1 then (0, 0, 3) else if bt s (p + j) ≥ 128 then XGet.getGo s p d ((j : Int) + 1) (XGet.stepN a (bt s (p + j)) j) else if bt s (p + j) = 0 ∧ (j : Int) + 1 > 1 then (0, 0, 3) else (XGet.stepN a (bt s (p + j)) j, p + ((j : Int) + 1), 0)) := by
      intro q hq
      rw [rollcallref01_Get.j2]
      by_cases c2 : (j : Int) = 9 ∧ bt s (p + j) > 1
      · rw [if_pos (hq.2 c2), if_pos c2]
      rw [if_neg (fun h => c2 (hq.1 h)), if_neg c2]
      have h9 : j = 9 → bt s (p + j) % 128 ≤ 1 := fun e => by omega
      rw [stepN_eq j hj a _ ha0 ha1 hb.1 hb.2 h9, tmod128 _ hb.1]
      have e1 : IntKind.u64.wrap (bt s (p + j) % 128 * pw j) = bt s (p + j) % 128 * pw j := by
        rcases ten j hj with rfl | rfl | rfl | rfl | rfl | rfl | rfl | rfl | rfl | rfl <;> (simp only [pw]; exact wrap_u64 _ (by omega) (by omega))
      have e2 : IntKind.u64.wrap (a + bt s (p + j) % 128 * pw j) = a + bt s (p + j) % 128 * pw j := by
        rcases ten j hj with rfl | rfl | rfl | rfl | rfl | rfl | rfl | rfl | rfl | rfl <;> (simp only [pw] at ha1 ⊢; exact wrap_u64 _ (by omega) (by omega))
      rw [e1, e2, wrap_id (p + j) (by omega) (by omega), wrap_id (p + j + 1) (by omega) (by omega)]
      by_cases c3 : bt s (p + j) ≥ 128
      · rw [if_neg (by omega), if_pos c3, wrap_id ((j : Int) + 1) (by omega) (by omega)]
        have hj8 : j ≤ 8 := by omega
        have e3 : IntKind.u64.wrap (pw j * 128) = pw (j + 1) := by
          rcases ten j hj with rfl | rfl | rfl | rfl | rfl | rfl | rfl | rfl | rfl | rfl <;> first | omega | (simp only [pw]; exact wrap_u64 _ (by omega) (by omega))
        rw [e3, show ((j : Int) + 1) = ((j + 1 : Nat) : Int) by omega]
        refine refGetL s p hp0 hs d (j + 1) k _ (by omega) (by omega) ?_ ?_ (by omega) (by omega)
        · rcases ten j hj with rfl | rfl | rfl | rfl | rfl | rfl | rfl | rfl | rfl | rfl <;> (simp only [pw]; omega)
        · rcases ten j hj with rfl | rfl | rfl | rfl | rfl | rfl | rfl | rfl | rfl | rfl <;> (simp only [pw] at ha1 ⊢; omega)
      · rw [if_pos (by omega), if_neg c3]
        by_cases c4 : bt s (p + j) = 0
        · rw [if_pos c4]
          by_cases c5 : (j : Int) > 0
          · rw [if_pos c5, if_pos ⟨c4, by omega⟩]
          · rw [if_neg c5, if_neg (fun h => c5 (by omega)), Int.add_assoc]
        · rw [if_neg c4, if_neg (fun h => c4 h.1), Int.add_assoc]
    by_cases c2 : (j : Int) = 9
    · rw [if_pos c2, key _ (by simp [c2])]
    · rw [if_neg c2, key _ (by simp [c2])]
theorem refGet_f (k : Nat) (s : ByteArray) (p : Int) (hs : s.size ≤ 140737488351232) (hk : 30 ≤ k) : rollcallref01_Get.f k s p = some (G s p) := by
  obtain ⟨k, rfl⟩ : ∃ m, k = m + 1 := ⟨k - 1, by omega⟩
  have key : ∀ q : Bool, (q = true ↔ (p < 0 ∨ p > (s.size : Int))) → rollcallref01_Get.j0 (k + 1) s p q = some (G s p) := by
    intro q hq
    rw [rollcallref01_Get.j0]
    unfold G
    by_cases c : p < 0 ∨ p > (s.size : Int)
    · rw [if_pos (hq.2 c), if_pos c]
    · rw [if_neg (fun h => c (hq.1 h)), if_neg c]
      exact refGetL s p (by omega) hs 10 0 k 0 (by omega) (by omega) (by omega) (by simp [pw]) (by omega) (by omega)
  unfold rollcallref01_Get.f
  by_cases c : p < 0
  · rw [if_pos c, key true (by simp [c])]
  · rw [if_neg c, key _ (by simp [c])]
/-- The plain function of both: what is taken. -/
def T (s : ByteArray) (p m : Int) : ByteArray × Int × Int :=
  if (G s p).2.2 = 0 then
    if m < 0 ∨ (G s p).1 > m then (⟨#[]⟩, 0, 3) else if (G s p).1 > s.size - (G s p).2.1 then (⟨#[]⟩, 0, 2) else (s.extract (G s p).2.1.toNat ((G s p).2.1 + (G s p).1).toNat, (G s p).2.1 + (G s p).1, 0)
  else (⟨#[]⟩, 0, (G s p).2.2)
theorem G_shape (s : ByteArray) (p : Int) : (∃ e, G s p = (0, 0, e) ∧ (e = 1 ∨ e = 2 ∨ e = 3)) ∨ ∃ n q, G s p = (n, q, 0) ∧ 0 ≤ p ∧ p < q ∧ q ≤ s.size ∧ 0 ≤ n ∧ n < 18446744073709551616 ∧ q = p + (digs 10 n).length ∧ Stands s p (digs 10 n) := by
  unfold G
  by_cases c : p < 0 ∨ p > (s.size : Int)
  · rw [if_pos c]
    exact .inl ⟨1, rfl, by omega⟩
  · rw [if_neg c]
    rcases get_shape s p 10 0 0 (by omega) (by omega) with ⟨e, h, he⟩ | ⟨n, q, h, h1, h2⟩
    · exact .inl ⟨e, h, by omega⟩
    · obtain ⟨m, hm, hn, hlt, _, hq, hs⟩ := put_of_get s p 10 0 0 n q (by omega) (by omega) (by simp [pw]) (by omega) (by omega) h
      have e : n = m := by simp [pw] at hn; omega
      subst e
      refine .inr ⟨n, q, h, by omega, by omega, h2, hm, hlt, ?_, ?_⟩
      · simpa using hq
      · simpa using hs
theorem wrap_i64_u64 (n : Int) (h0 : 0 ≤ n) (h1 : n ≤ 9223372036854775807) : IntKind.u64.wrap n = n := wrap_u64 n h0 (by omega)
theorem take_f (k : Nat) (s : ByteArray) (p m : Int) (hs : s.size ≤ 140737488351232) (hm : m ≤ 9223372036854775807) (hk : 30 ≤ k) : varint_Take.f k s p m = some (T s p m) := by
  obtain ⟨k, rfl⟩ : ∃ m, k = m + 1 := ⟨k - 1, by omega⟩
  unfold varint_Take.f T
  rw [get_f s p hs]
  simp only [Option.bind_some]
  by_cases c : (G s p).2.2 = 0
  · rw [if_pos c, if_pos c]
    rcases G_shape s p with ⟨e, h, he⟩ | ⟨n, q, h, hp, h1, h2, h3, h4, _⟩
    · rw [h] at c
      simp only at c
      omega
    · rw [h]
      simp only
      have key : ∀ b : Bool, (b = true ↔ (m < 0 ∨ n > m)) → varint_Take.j0 (k + 1) s n q b = some (if m < 0 ∨ n > m then (⟨#[]⟩, 0, 3) else if n > s.size - q then (⟨#[]⟩, 0, 2) else (s.extract q.toNat (q + n).toNat, q + n, 0)) := by
        intro b hb
        rw [varint_Take.j0]
        by_cases c1 : m < 0 ∨ n > m
        · rw [if_pos (hb.2 c1), if_pos c1]
        · rw [if_neg (fun h => c1 (hb.1 h)), if_neg c1, wrap_id (s.size - q) (by omega) (by omega), wrap_u64 _ (by omega) (by omega)]
          by_cases c2 : n > s.size - q
          · rw [if_pos c2, if_pos c2]
          · rw [if_neg c2, if_neg c2, wrap_id n (by omega) (by omega), wrap_id (q + n) (by omega) (by omega), if_pos (by omega), if_pos (by omega), if_pos (by omega)]
      by_cases c1 : m < 0
      · rw [if_pos c1, key true (by simp [c1])]
      · rw [if_neg c1, key _ (by simp [c1]; rw [wrap_u64 m (by omega) (by omega)])]
  · rw [if_neg c, if_neg c]
theorem refTake_f (k : Nat) (s : ByteArray) (p m : Int) (hs : s.size ≤ 140737488351232) (hm : m ≤ 9223372036854775807) (hk : 30 ≤ k) : rollcallref01_Take.f k s p m = some (T s p m) := by
  obtain ⟨k, rfl⟩ : ∃ m, k = m + 1 := ⟨k - 1, by omega⟩
  unfold rollcallref01_Take.f T
  rw [refGet_f (k + 1) s p hs hk]
  simp only [Option.bind_some]
  by_cases c : (G s p).2.2 = 0
  · rw [if_pos c, if_pos c]
    rcases G_shape s p with ⟨e, h, he⟩ | ⟨n, q, h, hp, h1, h2, h3, h4, _⟩
    · rw [h] at c
      simp only at c
      omega
    · rw [h]
      simp only
      have key : ∀ b : Bool, (b = true ↔ (m < 0 ∨ n > m)) → rollcallref01_Take.j0 (k + 1) s n q b = some (if m < 0 ∨ n > m then (⟨#[]⟩, 0, 3) else if n > s.size - q then (⟨#[]⟩, 0, 2) else (s.extract q.toNat (q + n).toNat, q + n, 0)) := by
        intro b hb
        rw [rollcallref01_Take.j0]
        by_cases c1 : m < 0 ∨ n > m
        · rw [if_pos (hb.2 c1), if_pos c1]
        · rw [if_neg (fun h => c1 (hb.1 h)), if_neg c1, wrap_id (s.size - q) (by omega) (by omega), wrap_u64 _ (by omega) (by omega)]
          by_cases c2 : n > s.size - q
          · rw [if_pos c2, if_pos c2]
          · rw [if_neg c2, if_neg c2, wrap_id n (by omega) (by omega), wrap_id (q + n) (by omega) (by omega), if_pos (by omega), if_pos (by omega), if_pos (by omega)]
      by_cases c1 : m < 0
      · rw [if_pos c1, key true (by simp [c1])]
      · rw [if_neg c1, key _ (by simp [c1]; rw [wrap_u64 m (by omega) (by omega)])]
  · rw [if_neg c, if_neg c]
theorem G_put (s : ByteArray) (p n : Int) (hp : 0 ≤ p) (h0 : 0 ≤ n) (h1 : n < 18446744073709551616) (h : Stands s p (digs 10 n)) : G s p = (n, p + (P n).size, 0) := by
  unfold G
  have hl := h.1
  rw [if_neg (by omega), P_size]
  have := get_of_put s p 10 0 0 n (by omega) (by omega) (by omega) (by simp [pw]) h0 (by simpa [pw] using h1) (fun _ => rfl) (by simpa using h)
  simpa [pw] using this
theorem P_stands (n : Int) (h0 : 0 ≤ n) : Stands (P n) 0 (digs 10 n) := stands_nums _ (digs_range 10 n h0)
theorem P_in (a b : ByteArray) (n : Int) (h0 : 0 ≤ n) : Stands ((a ++ P n) ++ b) (a.size : Int) (digs 10 n) := by
  have := stands_more (stands_app (P_stands n h0) (Int.le_refl 0) a) (by omega) b
  rwa [Int.add_zero] at this
end Go.Proofs.Ytgchnnkbknaklaa.XV01
