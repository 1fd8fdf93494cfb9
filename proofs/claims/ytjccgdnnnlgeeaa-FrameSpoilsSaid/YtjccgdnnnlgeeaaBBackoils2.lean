-- Several texts in one, without what the law does not use (wip/tools/bundle.py).
import Derived.Test.YtjccgdnnnlgeeaaBBackoils1

section
/- Tables as bytes, in plain lists: what is put is taken, what is taken is what was put. -/
namespace Go.Proofs.Ytjccgdnnnlgeeaa.XFr
open Go.RowKit Go.Proofs.Ytjccgdnnnlgeeaa.PA Go.Proofs.YtjccgdnnnlgeeaaW.PrintWords Go.Proofs.YtjccgdnnnlgeeaaW.PrintLast Go.Proofs.Ytjccgdnnnlgeeaa.XVar Go.Proofs.Ytjccgdnnnlgeeaa.XBytes Go.Proofs.Ytjccgdnnnlgeeaa.XV01 Go.Proofs.Ytjccgdnnnlgeeaa.XCat Go.Proofs.Ytjccgdnnnlgeeaa.XV04
open Go.Proofs.Ytjccgdnnnlgeeaa.XPut (nameP isB_size)
open Go.Proofs.Ytjccgdnnnlgeeaa.XSum (rowB putB rowB_size putB_size Se kSe)
open Go.Proofs.Ytjccgdnnnlgeeaa.XIdent (isB)
open Go.Proofs.Ytjccgdnnnlgeeaa.XMay (mayB)
open Go.Proofs.Ytjccgdnnnlgeeaa.XV17 (mayT mayT_iff rowOk rdS_at Srt)
set_option linter.unusedVariables false
set_option linter.unusedSimpArgs false
theorem P_eq (n : Int) : XPut.P n = P n := rfl
theorem X_eq (s : ByteArray) : XPut.X s = X s := rfl
theorem PV_eq (a b c : Int) (d : ByteArray) : XPut.PV a b c d = PV a b c d := rfl
theorem cat_eq (l : List ByteArray) : XPut.cat l = cat l := by
 induction l with
 | nil => rfl
 | cons a r ih => rw [XPut.cat, cat, ih]
/-- A row's bytes. -/
def rB (x : Se) : ByteArray := X x.f0 ++ Vb x.f1.f0 x.f1.f1 x.f1.f2 x.f1.f3
theorem rB_ok {x : Se} (h : rowOk x = true) : rowB x = rB x := by
 unfold rowOk at h
 rw [Bool.and_eq_true] at h
 unfold rowB rB nameP
 rw [if_pos h.1, PV_eq]
 unfold PV
 rw [if_pos h.2]
 rfl
theorem rows_ok {l : List Se} (h : ∀ x ∈ l, rowOk x = true) : cat (l.map rowB) = cat (l.map rB) := by
 congr 1
 exact List.map_congr_left fun x hx => rB_ok (h x hx)
/-- A table's bytes. -/
def tB (l : List Se) : ByteArray := P (l.length : Int) ++ cat (l.map rB)
theorem tB_ok {l : List Se} (h : mayT l = true) : putB l = tB l := by
 unfold putB tB
 rw [P_eq, cat_eq, rows_ok ((mayT_iff l).1 h).2.1]
theorem ext_add (s : ByteArray) (p q r : Nat) (h1 : p ≤ q) (h2 : q ≤ r) : s.extract p q ++ s.extract q r = s.extract p r := by
 apply ba_ext
 rw [app_data, ext_data, ext_data, ext_data]
 rw [show r - p = (q - p) + (r - q) by omega, List.take_add, List.drop_drop, show p + (q - p) = q by omega]
/-- A name, taken. -/
def IT (s : ByteArray) (p : Int) : ByteArray × Int × Int :=
 if (T s p 16).2.2 = 0 then (if isB (T s p 16).1 = true then ((T s p 16).1, (T s p 16).2.1, 0) else (⟨#[]⟩, 0, 3)) else (⟨#[]⟩, 0, (T s p 16).2.2)
theorem isB_16 {n : ByteArray} (h : isB n = true) : n.size ≤ 16 := isB_size h
theorem T_small (s : ByteArray) (p m : Int) (hs : s.size ≤ 140737488351232) : (T s p m).1.size ≤ s.size := by
 rcases T_shape s p m with ⟨e, h, _⟩ | ⟨n, q', h, _⟩
 ·rw [h]; exact Nat.zero_le _
 ·rw [h]
  show (s.extract _ _).size ≤ _
  rw [ext_size]; omega
theorem it_f (k : Nat) (s : ByteArray) (p : Int) (hs : s.size ≤ 140737488351232) (hk : 30 ≤ k) : ident_Take.f k s p = some (IT s p) := by
 unfold ident_Take.f IT
 rw [take_f k s p 16 hs (by omega) hk]
 simp only [Option.bind_some]
 have e : ident_Is.f (T s p 16).1 = some (isB (T s p 16).1) := by
  show XIdent.ident_Is.f _ = _
  unfold XIdent.ident_Is.f
  rw [if_pos (by have := T_small s p 16 hs; omega)]
 rw [e]
 simp only [Option.bind_some]
 split
 ·split <;> rfl
 ·rfl
theorem IT_put (a b n : ByteArray) (h : isB n = true) : IT ((a ++ X n) ++ b) a.size = (n, (a.size : Int) + (X n).size, 0) := by
 have h16 := isB_16 h
 unfold IT
 rw [T_text a n b 16 (by omega) (by omega)]
 simp only
 rw [if_pos trivial, if_pos h]
theorem IT_shape (s : ByteArray) (p : Int) (hs : s.size ≤ 140737488351232) : (∃ e, IT s p = (⟨#[]⟩, 0, e) ∧ e ≠ 0) ∨ ∃ n q, IT s p = (n, q, 0) ∧ isB n = true ∧ 0 ≤ p ∧ p < q ∧ q ≤ s.size ∧ s.extract p.toNat q.toNat = X n := by
 unfold IT
 rcases T_shape s p 16 with ⟨e, h, he⟩ | ⟨n, q', h, h0, h1, h2, h3, h4, h5, hq, hst⟩
 ·rw [h]
  simp only
  rw [if_neg he]
  exact .inl ⟨e, rfl, he⟩
 ·rw [h]
  simp only
  rw [if_pos trivial]
  by_cases c : isB (s.extract q'.toNat (q' + n).toNat) = true
  ·rw [if_pos c]
   refine .inr ⟨_, _, rfl, c, h0, by omega, h2, ?_⟩
   have hc := cut_of_stands h0 hst
   rw [← hq] at hc
   have hz : ((s.extract q'.toNat (q' + n).toNat).size : Int) = n := by rw [ext_size]; omega
   unfold X
   rw [hz]
   show _ = strOfNums (digs 10 n) ++ _
   rw [← hc]
   exact (ext_add s _ _ _ (by omega) (by omega)).symm
  ·rw [if_neg c]
   exact .inl ⟨3, rfl, by omega⟩
/-- Rows, taken. -/
def takeRows (s : ByteArray) : Nat → Int → List Se → List Se × Int × Int
 | 0, p, out => (out, p, 0)
 | n + 1, p, out =>
  if (IT s p).2.2 = 0 then
   if (VT s (IT s p).2.1).2.2.2.2.2 = 0 then takeRows s n (VT s (IT s p).2.1).2.2.2.2.1 (out ++ [⟨(IT s p).1, ⟨(VT s (IT s p).2.1).1, (VT s (IT s p).2.1).2.1, (VT s (IT s p).2.1).2.2.1, (VT s (IT s p).2.1).2.2.2.1⟩⟩])
   else ([], 0, (VT s (IT s p).2.1).2.2.2.2.2)
  else ([], 0, (IT s p).2.2)
/-- A table, taken. -/
def TT (s : ByteArray) (p : Int) : List Se × Int × Int :=
 if (G s p).2.2 = 0 then
  if (G s p).1 > 32 then ([], 0, 3)
  else if (takeRows s (G s p).1.toNat (G s p).2.1 []).2.2 = 0 then (if mayT (takeRows s (G s p).1.toNat (G s p).2.1 []).1 = true then takeRows s (G s p).1.toNat (G s p).2.1 [] else ([], 0, 3)) else takeRows s (G s p).1.toNat (G s p).2.1 []
 else ([], 0, (G s p).2.2)
theorem rB_size (x : Se) : (rB x).size = (X x.f0).size + (Vb x.f1.f0 x.f1.f1 x.f1.f2 x.f1.f3).size := app_size ..
theorem takeRows_put : ∀ (l : List Se) (a b : ByteArray) (out : List Se), (∀ x ∈ l, rowOk x = true) → takeRows ((a ++ cat (l.map rB)) ++ b) l.length a.size out = (out ++ l, (a.size : Int) + (cat (l.map rB)).size, 0)
 | [], a, b, out, _ => by
  rw [List.length_nil, takeRows, List.append_nil]
  simp [cat]
  rfl
 | x :: l, a, b, out, h => by
  have hx := h x (List.mem_cons_self ..)
  unfold rowOk at hx
  rw [Bool.and_eq_true] at hx
  have e1 : ((a ++ cat ((x :: l).map rB)) ++ b) = ((a ++ X x.f0) ++ ((Vb x.f1.f0 x.f1.f1 x.f1.f2 x.f1.f3 ++ cat (l.map rB)) ++ b)) := by
   rw [List.map_cons, cat, rB]; simp only [app_assoc]
  have e2 : ((a ++ cat ((x :: l).map rB)) ++ b) = (((a ++ X x.f0) ++ Vb x.f1.f0 x.f1.f1 x.f1.f2 x.f1.f3) ++ (cat (l.map rB) ++ b)) := by
   rw [List.map_cons, cat, rB]; simp only [app_assoc]
  have e3 : ((a ++ cat ((x :: l).map rB)) ++ b) = (((a ++ rB x) ++ cat (l.map rB)) ++ b) := by
   rw [List.map_cons, cat]; simp only [app_assoc]
  have h1 : IT ((a ++ cat ((x :: l).map rB)) ++ b) a.size = (x.f0, (a.size : Int) + (X x.f0).size, 0) := by rw [e1]; exact IT_put a _ _ hx.1
  have h2 : VT ((a ++ cat ((x :: l).map rB)) ++ b) ((a.size : Int) + (X x.f0).size) = (x.f1.f0, x.f1.f1, x.f1.f2, x.f1.f3, (a.size : Int) + (rB x).size, 0) := by
   rw [e2]
   have := VT_put (a ++ X x.f0) (cat (l.map rB) ++ b) x.f1.f0 x.f1.f1 x.f1.f2 x.f1.f3 hx.2
   rw [app_size] at this
   rw [rB_size]
   have e : ((a.size + (X x.f0).size : Nat) : Int) = (a.size : Int) + (X x.f0).size := by omega
   rw [e] at this
   rw [this]
   simp only [Prod.mk.injEq, true_and, and_true]
   omega
  rw [List.length_cons, takeRows, h1]
  simp only
  rw [if_pos trivial, h2]
  simp only
  rw [if_pos trivial, e3]
  have h3 := takeRows_put l (a ++ rB x) b (out ++ [⟨x.f0, ⟨x.f1.f0, x.f1.f1, x.f1.f2, x.f1.f3⟩⟩]) (fun y hy => h y (List.mem_cons_of_mem _ hy))
  rw [app_size] at h3
  rw [show ((a.size + (rB x).size : Nat) : Int) = (a.size : Int) + (rB x).size by omega] at h3
  rw [h3, List.map_cons, cat, app_size, List.append_assoc, List.singleton_append]
  simp only [Prod.mk.injEq, true_and, and_true]
  omega
theorem takeRows_shape (s : ByteArray) (hs : s.size ≤ 140737488351232) : ∀ (n : Nat) (p : Int) (out : List Se), 0 ≤ p → p ≤ s.size → (∃ e, takeRows s n p out = ([], 0, e) ∧ e ≠ 0) ∨ ∃ l q, takeRows s n p out = (out ++ l, q, 0) ∧ l.length = n ∧ (∀ x ∈ l, rowOk x = true) ∧ p ≤ q ∧ q ≤ s.size ∧ s.extract p.toNat q.toNat = cat (l.map rB)
 | 0, p, out, h0, h1 => .inr ⟨[], p, by rw [takeRows, List.append_nil], rfl, fun x hx => (nomatch hx), Int.le_refl _, h1, by
   apply ba_ext
   rw [ext_data]
   simp [cat]⟩
 | n + 1, p, out, h0, h1 => by
  rw [takeRows]
  rcases IT_shape s p hs with ⟨e, h, he⟩ | ⟨nm, q, h, hn, _, hlt, hle, hX⟩
  ·rw [h]
   simp only
   rw [if_neg he]
   exact .inl ⟨e, rfl, he⟩
  rw [h]
  simp only
  rw [if_pos trivial]
  rcases VT_shape s q hs with ⟨e, g, he⟩ | ⟨a0, a1, a2, a3, r, g, hm, _, hlt2, hle2, hV⟩
  ·have g' : VT s q = (0, 0, 0, ⟨#[]⟩, 0, e) := g
   rw [g']
   simp only
   rw [if_neg he]
   exact .inl ⟨e, rfl, he⟩
  rw [g]
  simp only
  rw [if_pos trivial]
  rcases takeRows_shape s hs n r (out ++ [⟨nm, ⟨a0, a1, a2, a3⟩⟩]) (by omega) hle2 with ⟨e, k, he⟩ | ⟨l, t, k, hl, hr, h5, h6, hE⟩
  ·exact .inl ⟨e, k, he⟩
  ·refine .inr ⟨⟨nm, ⟨a0, a1, a2, a3⟩⟩ :: l, t, by rw [k, List.append_assoc, List.singleton_append], by simp [hl], ?_, by omega, h6, ?_⟩
   ·intro x hx
    rcases List.mem_cons.1 hx with rfl | hx
    ·show (isB nm && mayB a0 a1 a2 a3) = true
     rw [hn, hm]; rfl
    ·exact hr x hx
   ·rw [List.map_cons, cat, ← hE]
    show _ = (X nm ++ Vb a0 a1 a2 a3) ++ _
    rw [← hX, ← hV, ext_add s _ _ _ (by omega) (by omega), ext_add s _ _ _ (by omega) (by omega)]
theorem TT_put (t : List Se) (a b : ByteArray) (h : mayT t = true) : TT ((a ++ tB t) ++ b) a.size = (t, (a.size : Int) + (tB t).size, 0) := by
 obtain ⟨h1, h2, h3⟩ := (mayT_iff t).1 h
 have e1 : ((a ++ tB t) ++ b) = ((a ++ P (t.length : Int)) ++ (cat (t.map rB) ++ b)) := by unfold tB; simp only [app_assoc]
 have e2 : ((a ++ tB t) ++ b) = (((a ++ P (t.length : Int)) ++ cat (t.map rB)) ++ b) := by unfold tB; simp only [app_assoc]
 have hG : G ((a ++ tB t) ++ b) a.size = ((t.length : Int), (a.size : Int) + (P (t.length : Int)).size, 0) := G_put _ _ _ (by omega) (by omega) (by omega) (by rw [e1]; exact P_in a _ _ (by omega))
 have hR : takeRows ((a ++ tB t) ++ b) t.length ((a.size : Int) + (P (t.length : Int)).size) [] = (t, (a.size : Int) + (tB t).size, 0) := by
  rw [e2]
  have := takeRows_put t (a ++ P (t.length : Int)) b [] h2
  rw [app_size] at this
  rw [show ((a.size + (P (t.length : Int)).size : Nat) : Int) = (a.size : Int) + (P (t.length : Int)).size by omega] at this
  rw [this, List.nil_append]
  unfold tB
  rw [app_size]
  simp only [Prod.mk.injEq, true_and, and_true]
  omega
 unfold TT
 rw [hG]
 simp only
 rw [if_pos trivial, if_neg (by omega), Int.toNat_natCast, hR]
 simp only
 rw [if_pos trivial, if_pos h]
theorem TT_shape (s : ByteArray) (p : Int) (hs : s.size ≤ 140737488351232) : (∃ e, TT s p = ([], 0, e) ∧ e ≠ 0) ∨ ∃ t q, TT s p = (t, q, 0) ∧ mayT t = true ∧ 0 ≤ p ∧ p < q ∧ q ≤ s.size ∧ s.extract p.toNat q.toNat = tB t := by
 unfold TT
 rcases G_shape s p with ⟨e, h, he⟩ | ⟨n, q, h, hp, h1, h2, h3, h4, hq, hst⟩
 ·rw [h]
  simp only
  rw [if_neg (by omega)]
  exact .inl ⟨e, rfl, by omega⟩
 rw [h]
 simp only
 rw [if_pos trivial]
 by_cases c : n > 32
 ·rw [if_pos c]; exact .inl ⟨3, rfl, by omega⟩
 rw [if_neg c]
 rcases takeRows_shape s hs n.toNat q [] (by omega) h2 with ⟨e, k, he⟩ | ⟨l, t, k, hl, hr, h5, h6, hE⟩
 ·rw [k]
  simp only
  rw [if_neg he]
  exact .inl ⟨e, rfl, he⟩
 rw [k, List.nil_append]
 simp only
 rw [if_pos trivial]
 by_cases c2 : mayT l = true
 ·rw [if_pos c2]
  refine .inr ⟨l, t, rfl, c2, hp, by omega, h6, ?_⟩
  have hc := cut_of_stands hp hst
  rw [← hq] at hc
  unfold tB
  rw [← hE, hl, Int.toNat_of_nonneg h3]
  show _ = strOfNums (digs 10 n) ++ _
  rw [← hc, ext_add s _ _ _ (by omega) (by omega)]
 ·rw [if_neg c2]; exact .inl ⟨3, rfl, by omega⟩
/-! ### what the reference answers -/
def putT (t : List Se) : ByteArray × Bool := if mayT t = true then (tB t, true) else (⟨#[]⟩, false)
end Go.Proofs.Ytjccgdnnnlgeeaa.XFr
end

section
/- The sum by which spoilt bytes are told, in plain numbers: of unlike bytes of which at most four, one behind the other, differ, the sums are unlike. -/
namespace Go.Proofs.Ytjccgdnnnlgeeaa.XCrc
set_option linter.unusedVariables false
set_option linter.unusedSimpArgs false
/-- One bit. -/
def half (x : Nat) : Nat := if x % 2 = 1 then (x / 2) ^^^ 3988292384 else x / 2
def hn : Nat → Nat → Nat
 | 0, x => x
 | k + 1, x => hn k (half x)
/-- One byte. -/
def step (c b : Nat) : Nat := hn 8 (c ^^^ b)
/-- Some bytes. -/
def R (c : Nat) (l : List Nat) : Nat := l.foldl step c
theorem xor_div2 (x y : Nat) : (x ^^^ y) / 2 = x / 2 ^^^ y / 2 := by
 have := Nat.shiftRight_xor_distrib (a := x) (b := y) (i := 1)
 simpa [Nat.shiftRight_eq_div_pow] using this
theorem xor_mod2 (x y : Nat) : (x ^^^ y) % 2 = (x % 2 + y % 2) % 2 := by
 have h : ∀ n : Nat, n % 2 = (n.testBit 0).toNat := fun n => by
  rw [Nat.testBit_zero]
  rcases Nat.mod_two_eq_zero_or_one n with h | h <;> simp [h]
 rw [h (x ^^^ y), h x, h y, Nat.testBit_xor]
 cases x.testBit 0 <;> cases y.testBit 0 <;> rfl
theorem xor_swap (a b c d : Nat) : (a ^^^ b) ^^^ (c ^^^ d) = (a ^^^ c) ^^^ (b ^^^ d) := by
 rw [Nat.xor_assoc, Nat.xor_assoc, ← Nat.xor_assoc b c d, Nat.xor_comm b c, Nat.xor_assoc c b d]
theorem half_xor (x y : Nat) : half (x ^^^ y) = half x ^^^ half y := by
 unfold half
 rw [xor_mod2, xor_div2]
 rcases Nat.mod_two_eq_zero_or_one x with hx | hx <;> rcases Nat.mod_two_eq_zero_or_one y with hy | hy <;> simp only [hx, hy]
 ·simp
 ·simp [Nat.xor_assoc]
 ·simp only [if_true, if_neg (show ¬ (0 : Nat) = 1 by omega)]
  rw [Nat.xor_assoc, Nat.xor_comm (y / 2), ← Nat.xor_assoc]
 ·simp only [if_true]
  rw [if_neg (by decide), xor_swap, Nat.xor_self, Nat.xor_zero]
theorem half_lt {x : Nat} (h : x < 4294967296) : half x < 4294967296 := by
 unfold half
 split
 ·exact Nat.xor_lt_two_pow (n := 32) (by omega) (by decide)
 ·omega
theorem xor_eq_zero {a b : Nat} (h : a ^^^ b = 0) : a = b := by
 have : (a ^^^ b) ^^^ b = a := by rw [Nat.xor_assoc, Nat.xor_self, Nat.xor_zero]
 rw [h, Nat.zero_xor] at this
 exact this.symm
theorem half_zero {x : Nat} (hx : x < 4294967296) (h : half x = 0) : x = 0 := by
 unfold half at h
 split at h
 ·have := xor_eq_zero h
  omega
 ·omega
theorem hn_xor (k x y : Nat) : hn k (x ^^^ y) = hn k x ^^^ hn k y := by
 induction k generalizing x y with
 | zero => rfl
 | succ k ih => rw [hn, half_xor, ih]; rfl
theorem hn_lt (k : Nat) {x : Nat} (h : x < 4294967296) : hn k x < 4294967296 := by
 induction k generalizing x with
 | zero => exact h
 | succ k ih => exact ih (half_lt h)
theorem hn_zero (k : Nat) {x : Nat} (hx : x < 4294967296) (h : hn k x = 0) : x = 0 := by
 induction k generalizing x with
 | zero => exact h
 | succ k ih => exact half_zero hx (ih (half_lt hx) h)
theorem hn_inj (k : Nat) {x y : Nat} (hx : x < 4294967296) (hy : y < 4294967296) (h : hn k x = hn k y) : x = y := by
 apply xor_eq_zero
 refine hn_zero k (Nat.xor_lt_two_pow (n := 32) hx hy) ?_
 rw [hn_xor, h, Nat.xor_self]
theorem hn_add (j k x : Nat) : hn (j + k) x = hn k (hn j x) := by
 induction j generalizing x with
 | zero => rw [Nat.zero_add]; rfl
 | succ j ih => rw [show j + 1 + k = (j + k) + 1 by omega, hn, ih]; rfl
theorem half_two (x : Nat) : half (2 * x) = x := by
 unfold half
 rw [if_neg (by omega)]
 omega
theorem hn8 (x : Nat) : hn 8 (256 * x) = x := by
 have e : 256 * x = 2 * (2 * (2 * (2 * (2 * (2 * (2 * (2 * x))))))) := by omega
 rw [e]
 simp only [hn, half_two]
theorem low_xor (b y : Nat) (hb : b < 256) : b ^^^ 256 * y = b + 256 * y := by
 have h : 256 * y ||| b = 256 * y + b := by
  have := Nat.two_pow_add_eq_or_of_lt (i := 8) (b := b) hb y
  rw [← this]
 apply Nat.eq_of_testBit_eq
 intro i
 rw [show b + 256 * y = 256 * y + b by omega, ← h, Nat.testBit_xor, Nat.testBit_or]
 have hz : b.testBit i = false ∨ (256 * y).testBit i = false := by
  by_cases hi : i < 8
  ·right
   rw [show 256 * y = y * 2 ^ 8 by omega]
   rw [Nat.testBit_mul_two_pow]
   simp [show ¬ 8 ≤ i by omega]
  ·left
   exact Nat.testBit_lt_two_pow (Nat.lt_of_lt_of_le hb (by have := Nat.pow_le_pow_right (show 1 ≤ 2 by omega) (show 8 ≤ i by omega); simpa using this))
 rcases hz with hz | hz <;> simp [hz]
theorem hn8_word (c b y : Nat) (hb : b < 256) : hn 8 (c ^^^ (b + 256 * y)) = step c b ^^^ y := by
 unfold step
 rw [← low_xor b y hb, ← Nat.xor_assoc, hn_xor 8 (c ^^^ b), hn8]
/-- Bytes as one number. -/
def word : List Nat → Nat
 | [] => 0
 | b :: l => b + 256 * word l
theorem R_word : ∀ (m : List Nat) (c : Nat), (∀ b ∈ m, b < 256) → R c m = hn (8 * m.length) (c ^^^ word m)
 | [], c, _ => by simp [R, word, hn]
 | b :: m, c, h => by
  rw [show 8 * (b :: m).length = 8 + 8 * m.length by simp only [List.length_cons]; omega, hn_add, word, hn8_word c b _ (h b (List.mem_cons_self ..)), ← R_word m _ (fun x hx => h x (List.mem_cons_of_mem _ hx))]
  rfl
theorem word_lt : ∀ (m : List Nat), (∀ b ∈ m, b < 256) → word m < 256 ^ m.length
 | [], _ => by simp [word]
 | b :: m, h => by
  have h1 := word_lt m (fun x hx => h x (List.mem_cons_of_mem _ hx))
  have h2 := h b (List.mem_cons_self ..)
  rw [word, List.length_cons, Nat.pow_succ]
  omega
theorem word_inj : ∀ (m m' : List Nat), (∀ b ∈ m, b < 256) → (∀ b ∈ m', b < 256) → m.length = m'.length → word m = word m' → m = m'
 | [], [], _, _, _, _ => rfl
 | [], _ :: _, _, _, h, _ => by simp at h
 | _ :: _, [], _, _, h, _ => by simp at h
 | b :: m, b' :: m', h, h', hl, hw => by
  have h1 := h b (List.mem_cons_self ..)
  have h2 := h' b' (List.mem_cons_self ..)
  simp only [word] at hw
  have e1 : b = b' := by omega
  have e2 : word m = word m' := by omega
  rw [e1, word_inj m m' (fun x hx => h x (List.mem_cons_of_mem _ hx)) (fun x hx => h' x (List.mem_cons_of_mem _ hx)) (by simpa using hl) e2]
theorem step_lt {c b : Nat} (hc : c < 4294967296) (hb : b < 256) : step c b < 4294967296 := hn_lt 8 (Nat.xor_lt_two_pow (n := 32) hc (by omega))
theorem R_lt : ∀ (l : List Nat) {c : Nat}, c < 4294967296 → (∀ b ∈ l, b < 256) → R c l < 4294967296
 | [], c, hc, _ => hc
 | b :: l, c, hc, h => R_lt l (step_lt hc (h b (List.mem_cons_self ..))) (fun x hx => h x (List.mem_cons_of_mem _ hx))
theorem xor_left_inj {c x y : Nat} (h : c ^^^ x = c ^^^ y) : x = y := by
 have : c ^^^ (c ^^^ x) = c ^^^ (c ^^^ y) := by rw [h]
 rwa [← Nat.xor_assoc, ← Nat.xor_assoc, Nat.xor_self, Nat.zero_xor, Nat.zero_xor] at this
theorem step_inj {c c' b : Nat} (hc : c < 4294967296) (hc' : c' < 4294967296) (hb : b < 256) (h : step c b = step c' b) : c = c' := by
 have := hn_inj 8 (Nat.xor_lt_two_pow (n := 32) hc (by omega)) (Nat.xor_lt_two_pow (n := 32) hc' (by omega)) h
 rw [Nat.xor_comm c, Nat.xor_comm c'] at this
 exact xor_left_inj this
theorem R_inj : ∀ (l : List Nat) {c c' : Nat}, c < 4294967296 → c' < 4294967296 → (∀ b ∈ l, b < 256) → R c l = R c' l → c = c'
 | [], c, c', _, _, _, h => h
 | b :: l, c, c', hc, hc', hl, h => by
  have hb := hl b (List.mem_cons_self ..)
  exact step_inj hc hc' hb (R_inj l (step_lt hc hb) (step_lt hc' hb) (fun x hx => hl x (List.mem_cons_of_mem _ hx)) h)
theorem R_app (c : Nat) (l m : List Nat) : R c (l ++ m) = R (R c l) m := List.foldl_append ..
theorem pow_le4 {k : Nat} (hk : k ≤ 4) : 256 ^ k ≤ 4294967296 := by
 have := Nat.pow_le_pow_right (show 1 ≤ 256 by omega) hk
 simpa using this
/-- Up to four bytes differ. -/
theorem R_spoilt {c : Nat} (hc : c < 4294967296) (l m m' r : List Nat) (hl : ∀ b ∈ l, b < 256) (hm : ∀ b ∈ m, b < 256) (hm' : ∀ b ∈ m', b < 256) (hr : ∀ b ∈ r, b < 256) (hlen : m.length = m'.length) (h4 : m.length ≤ 4) (h : R c (l ++ m ++ r) = R c (l ++ m' ++ r)) : m = m' := by
 rw [R_app, R_app, R_app, R_app] at h
 have h1 := R_lt l hc hl
 have h2 := R_inj r (R_lt m h1 hm) (R_lt m' h1 hm') hr h
 rw [R_word m _ hm, R_word m' _ hm', ← hlen] at h2
 have hw := Nat.lt_of_lt_of_le (word_lt m hm) (pow_le4 h4)
 have hw' := Nat.lt_of_lt_of_le (word_lt m' hm') (pow_le4 (hlen ▸ h4))
 have h3 := hn_inj _ (Nat.xor_lt_two_pow (n := 32) h1 hw) (Nat.xor_lt_two_pow (n := 32) h1 hw') h2
 exact word_inj m m' hm hm' hlen (xor_left_inj h3)
/-- A sum's four bytes. -/
def le (y : Nat) : List Nat := [y % 256, y / 256 % 256, y / 65536 % 256, y / 16777216 % 256]
theorem le_lt (y : Nat) : ∀ b ∈ le y, b < 256 := by
 intro b hb
 simp only [le, List.mem_cons, List.not_mem_nil, or_false] at hb
 omega
theorem word_le {y : Nat} (h : y < 4294967296) : word (le y) = y := by
 simp only [le, word]
 omega
abbrev all : Nat := 4294967295
def sum (l : List Nat) : Nat := R all l ^^^ all
theorem sum_lt (l : List Nat) (hl : ∀ b ∈ l, b < 256) : sum l < 4294967296 := Nat.xor_lt_two_pow (n := 32) (R_lt l (by decide) hl) (by decide)
def seal_ (l : List Nat) : List Nat := l ++ le (sum l)
theorem seal_R (l : List Nat) (hl : ∀ b ∈ l, b < 256) : R all (seal_ l) = hn 32 all := by
 unfold seal_
 rw [R_app, R_word _ _ (le_lt _), word_le (sum_lt l hl)]
 show hn 32 _ = _
 congr 1
 unfold sum
 rw [← Nat.xor_assoc, Nat.xor_self, Nat.zero_xor]
theorem spoilt (t t' l m m' r : List Nat) (ht : ∀ b ∈ t, b < 256) (ht' : ∀ b ∈ t', b < 256) (h1 : seal_ t = l ++ m ++ r) (h2 : seal_ t' = l ++ m' ++ r) (hlen : m.length = m'.length) (h4 : m.length ≤ 4) : m = m' := by
 have hb : ∀ b ∈ seal_ t, b < 256 := fun b hb => by
  rcases List.mem_append.1 hb with hb | hb
  ·exact ht b hb
  ·exact le_lt _ b hb
 have hb' : ∀ b ∈ seal_ t', b < 256 := fun b hb => by
  rcases List.mem_append.1 hb with hb | hb
  ·exact ht' b hb
  ·exact le_lt _ b hb
 rw [h1] at hb
 rw [h2] at hb'
 refine R_spoilt (c := all) (by decide) l m m' r (fun b h => hb b (by simp [h])) (fun b h => hb b (by simp [h])) (fun b h => hb' b (by simp [h])) (fun b h => hb b (by simp [h])) hlen h4 ?_
 rw [← h1, ← h2, seal_R t ht, seal_R t' ht']
end Go.Proofs.Ytjccgdnnnlgeeaa.XCrc
end

section
/- crc, walked: one byte's step, a sum, a seal, and what is sealed. -/
namespace Go.Proofs.Ytjccgdnnnlgeeaa.XCrc
open Go.RowKit Go.Proofs.YtjccgdnnnlgeeaaW.PrintWords Go.Proofs.YtjccgdnnnlgeeaaW.PrintLast Go.Proofs.YtjccgdnnnlgeeaaW.PrintMore Go.Proofs.Ytjccgdnnnlgeeaa.XMem Go.Proofs.Ytjccgdnnnlgeeaa.PA
set_option linter.unusedVariables false
set_option linter.unusedSimpArgs false
theorem u32_wrap (n : Nat) (h : n < 4294967296) : IntKind.u32.wrap (n : Int) = (n : Int) := by rw [IntKind.wrap_u32]; omega
theorem u32_xor (a b : Nat) (ha : a < 4294967296) (hb : b < 4294967296) : Go.bits .xor .u32 (a : Int) (b : Int) = ((a ^^^ b : Nat) : Int) := by
 have ha' : a % 2 ^ IntKind.u32.bits = a := Nat.mod_eq_of_lt ha
 have hb' : b % 2 ^ IntKind.u32.bits = b := Nat.mod_eq_of_lt hb
 simp only [bits, BitVec.ofInt_natCast, BitVec.toNat_xor, BitVec.toNat_ofNat, ha', hb']
 exact u32_wrap _ (Nat.xor_lt_two_pow (n := 32) ha hb)
theorem u32_and (a b : Nat) (ha : a < 4294967296) (hb : b < 4294967296) : Go.bits .and .u32 (a : Int) (b : Int) = ((a &&& b : Nat) : Int) := (bits_nat .u32 32 (by decide) (fun n h0 h1 => by rw [IntKind.wrap_u32]; omega) a b (by omega) (by omega)).1
theorem half_I (x : Nat) (hx : x < 4294967296) : Go.bits .xor .u32 ((x : Int) / 2) (Go.bits .and .u32 3988292384 (-(Go.bits .and .u32 (x : Int) 1) % 4294967296)) = ((half x : Nat) : Int) := by
 have e1 : Go.bits .and .u32 (x : Int) 1 = ((x % 2 : Nat) : Int) := by
  have := u32_and x 1 hx (by decide)
  rw [Nat.and_one_is_mod] at this
  exact this
 have e2 : Go.bits .and .u32 3988292384 4294967295 = 3988292384 := by decide
 have e3 : Go.bits .and .u32 3988292384 0 = 0 := by decide
 have e4 : (x : Int) / 2 = ((x / 2 : Nat) : Int) := by omega
 rw [e1, e4]
 unfold half
 by_cases c : x % 2 = 1
 ·rw [c, if_pos rfl, show (-((1 : Nat) : Int)) % 4294967296 = 4294967295 from by decide, e2]
  exact u32_xor (x / 2) 3988292384 (by omega) (by decide)
 ·rw [if_neg c, show x % 2 = 0 by omega, show (-((0 : Nat) : Int)) % 4294967296 = 0 from by decide, e3]
  have := u32_xor (x / 2) 0 (by omega) (by decide)
  rw [Nat.xor_zero] at this
  exact this
theorem hn_succ (k x : Nat) : hn (k + 1) x = half (hn k x) := by rw [hn_add k 1]; rfl
set_option maxHeartbeats 4000000 in
set_option maxRecDepth 100000 in
theorem step_calls (c b : Nat) (hc : c < 4294967296) (hb : b < 256) (w : World) :
  Calls Try.prog 59 #[.int .u32 (c : Int), .int .u8 (b : Int)] w fun e w' => e = .returned (.int .u32 ((step c b : Nat) : Int)) ∧ w' = w := by
 have HX := Aside0.mk (u32_xor c b hc (by omega))
 have HW := Aside0.mk (u32_wrap b (by omega))
 have HC := Aside0.mk (show c ^^^ b < 4294967296 from Nat.xor_lt_two_pow (n := 32) hc (by omega))
 unfold step
 go_enter Try.func59, Try.ntmps59
 go_wp2
 go_loopw [5, 10] (fun h x wr => ∃ k : Nat, x = .int .i64 k ∧ k ≤ 8 ∧ h = .int .u32 ((hn k (c ^^^ b) : Nat) : Int) ∧ wr = w) (fun _ x _ => 8 - (intOf x).toNat)
 case atStart => exact ⟨0, rfl, Nat.zero_le _, by simp [HX.out, HW.out, hn], rfl⟩
 case round =>
  obtain ⟨k, rfl, hk, rfl, rfl⟩ := hrel
  have hlt := hn_lt k HC.out
  have hst := half_I _ hlt
  rw [← hn_succ] at hst
  have HST := Aside0.mk hst
  clear hst
  by_cases c8 : k < 8
  ·have k2 : (k : Int) < 8 := by omega
   generalize hn k (c ^^^ b) = x at HST hlt ⊢
   go_wp2
   go_roundw
   case rel => exact ⟨k + 1, by go_num, by omega, by rw [HST.out], trivial⟩
   case measure => simp [intOf]; omega
  ·obtain rfl : k = 8 := by omega
   go_wp2
   go_ret
   exact ⟨rfl, rfl⟩
/-- A text's bytes, as small numbers. -/
def nats (s : ByteArray) : List Nat := s.data.toList.map UInt8.toNat
theorem nats_lt (s : ByteArray) : ∀ b ∈ nats s, b < 256 := by
 intro b hb
 obtain ⟨x, _, rfl⟩ := List.mem_map.1 hb
 exact x.toNat_lt
theorem nats_len (s : ByteArray) : (nats s).length = s.size := by unfold nats; rw [List.length_map, Array.length_toList]; rfl
theorem bytes_nats (s : ByteArray) : bytesOf s = (nats s).map (fun n : Nat => (n : Int)) := by
 unfold bytesOf nats
 rw [List.map_map]
 rfl
theorem getD_lt {α : Type} (l : List α) (z : α) (i : Nat) (h : i < l.length) : l.getD i z = l[i] := by rw [List.getD_eq_getElem?_getD, List.getElem?_eq_getElem h]; rfl
set_option maxHeartbeats 4000000 in
set_option maxRecDepth 100000 in
theorem sum_calls (s : ByteArray) (hs : s.size ≤ 1000000) (w : World) :
  Calls Try.prog 40 #[.string s] w fun e w' => e = .returned (.int .u32 ((sum (nats s) : Nat) : Int)) ∧ Below w.heap.size w w' := by
 have HS := Aside0.mk (show Go.bits .xor .u32 ((R all (nats s) : Nat) : Int) 4294967295 = ((sum (nats s) : Nat) : Int) from u32_xor _ all (R_lt _ (by decide) (nats_lt s)) (by decide))
 generalize sum (nats s) = z at HS ⊢
 go_enter Try.func40, Try.ntmps40
 have kb := print_bytes (P := Try.prog) 9 40 5 Try.underlying9 Try.underlying40 Try.underlying5 s w
 have KR := Aside0.mk (show Kd.C (Kd.int .u8) (Lib.bytesWorld w 5 s) (some ⟨w.heap.size, 0, none⟩) s.size (bytesOf s) from Kd.C_of_reads (bytes_reads w 5 s (by omega)))
 have HB2 := Aside0.mk (bytes_below (Below.refl _ w) (Nat.le_refl _) 5 s)
 generalize Lib.bytesWorld w 5 s = W at kb KR HB2
 generalize grownCap w s.size 0 5 = cp at kb
 generalize hg : w.heap.size = g at kb KR HB2 ⊢
 have HG := Aside0.mk hg
 clear hg
 have hsi : (s.size : Int) ≤ 1000000 := by omega
 have HN := Aside0.mk (nats_len s)
 have HL := Aside0.mk (nats_lt s)
 rw [bytes_nats] at KR
 clear hs
 have HB0 := Aside0.mk (Below.refl W.heap.size W)
 go_wp2
 go_loopw [3, 10] (fun h x wr => ∃ k : Nat, x = .int .i64 k ∧ k ≤ s.size ∧ h = .int .u32 ((R all ((nats s).take k) : Nat) : Int) ∧ Aside0 (Below W.heap.size W wr)) (fun _ x _ => s.size - (intOf x).toNat)
 case atStart => exact ⟨0, rfl, Nat.zero_le _, rfl, HB0⟩
 case round =>
  clear HB0
  obtain ⟨k, rfl, hk, rfl, hbr⟩ := hrel
  have k0 : (0 : Int) ≤ (k : Int) := by omega
  have k1 : (k : Int) ≤ 1000000 := by omega
  by_cases hlt : k < s.size
  ·have k2 : (k : Int) < (s.size : Int) := by omega
   have hlt2 : k < (nats s).length := by have := HN.out; omega
   obtain ⟨ad, he, h0⟩ := Kd.at_int (Kd.C_below KR.out hbr.out) (k : Int) (by omega) (by omega)
   injection he with he
   subst he
   rw [Int.toNat_natCast, add_plain] at h0
   have e : rd ((nats s).map (fun n : Nat => (n : Int))) (k : Int) = (((nats s)[k] : Nat) : Int) := by
    unfold rd
    rw [Int.toNat_natCast, getD_lt _ _ k (by simpa using hlt2), List.getElem_map]
   rw [e] at h0
   have HST := Aside0.mk (show R all ((nats s).take (k + 1)) = step (R all ((nats s).take k)) (nats s)[k] by
    rw [List.take_succ_eq_append_getElem hlt2, R_app]; rfl)
   have hb := HL.out _ (List.getElem_mem hlt2)
   have hr := R_lt ((nats s).take k) (c := all) (by decide) (fun b h => HL.out b (List.mem_of_mem_take h))
   have HC := Aside0.mk (step_calls _ _ hr hb)
   clear e hb hr
   generalize (nats s)[k] = b at h0 HST HC
   generalize R all ((nats s).take k) = h at HST HC ⊢
   go_wp2_with (go_at_call 59; refine (HC.out _).mono ?_; rintro e w' ⟨rfl, rfl⟩)
   go_roundw
   case rel => exact ⟨k + 1, by go_num, by omega, by rw [HST.out], hbr⟩
   case measure => simp [intOf]; omega
  ·obtain rfl : k = s.size := by omega
   have k2 : (s.size : Int) ≤ (s.size : Int) := by omega
   have hz : (nats s).take s.size = nats s := by rw [← HN.out, List.take_length]
   rw [hz]
   obtain rfl := HG.out
   have HBz := below_step HB2.out hbr.out
   clear HG
   have HSS := HS.out
   go_wp2
   go_ret
   exact ⟨rfl, HBz⟩
/-! ### bytes that are written on: a slice that was made of a text -/
def Buf (B : Nat) (w : World) (v : Value) (l : List Int) : Prop :=
 ∃ b cap, v = .slice (some ⟨b, 0, none⟩) l.length cap ∧ B ≤ b ∧ b < w.heap.size ∧ l.length ≤ cap ∧ (∀ j, j < cap → (w.cell? ⟨b, j, none⟩).isSome = true ∧ w.frozen? ⟨b, j, none⟩ = false) ∧ ∀ (j : Nat) (h : j < l.length), w.cell? ⟨b, j, none⟩ = some (.int .u8 l[j])
theorem Buf.below {B : Nat} {w w1 : World} {v : Value} {l : List Int} (h : Buf B w v l) (hb : Below w.heap.size w w1) : Buf B w1 v l := by
 obtain ⟨b, cap, e, h1, h2, h3, h4, h5⟩ := h
 have hk := hb.block b h2
 refine ⟨b, cap, e, h1, Nat.lt_of_lt_of_le h2 hb.size, h3, fun j hj => ?_, fun j hj => ?_⟩
 ·have := h4 j hj
  simp only [World.cell?, World.frozen?, hk] at this ⊢
  exact this
 ·have := h5 j hj
  simp only [World.cell?, hk] at this ⊢
  exact this
theorem Buf.start (w : World) (s : ByteArray) : Buf w.heap.size (Lib.bytesWorld w 5 s) (.slice (some ⟨w.heap.size, 0, none⟩) s.size (grownCap w s.size 0 5)) (bytesOf s) := by
 have hg := grownCap_ge w s.size 0 5
 have hsz : (Lib.bytesCells w 5 s).size = grownCap w s.size 0 5 := by
  have : s.data.size = s.size := rfl
  simp [Lib.bytesCells, this]
  omega
 have hn := Lib.bytesWorld_at_new w 5 s
 refine ⟨w.heap.size, _, by rw [bytesOf_length], Nat.le_refl _, by rw [Lib.bytesWorld_size]; omega, by rw [bytesOf_length]; exact hg, fun j hj => ?_, fun j hj => ?_⟩
 ·simp only [World.cell?, World.frozen?, hn]
  constructor
  ·simp; omega
  ·simp; omega
 ·rw [Lib.bytesWorld_cell w _ s j (by rw [bytesOf_length] at hj; exact hj)]
  have h' : j < s.data.toList.length := by rw [bytesOf_length] at hj; rw [data_length]; exact hj
  simp [bytesOf, List.getD_eq_getElem?_getD, List.getElem?_eq_getElem h']
theorem Buf.append_ {ops : Array Oper} {rest : List Oper} {o : Oper} {a : Act} {Q : Exit → Act → World → Prop} {w0 W : World} {v : Value} {l : List Int} {p : Int} (s x : Operand) (S : Buf w0.heap.size W v l) (hgd : o.guard = none)
  (ho : o.op = .call { callee := .builtin .append, args := #[s, x], argTypes := #[40, 40] }) (hs : a.eval s = v) (hx : a.eval x = .slice (some ⟨W.heap.size, 0, none⟩) 1 1) (HB : Below w0.heap.size w0 W) (hl : l.length ≤ 1000000)
  (h : ∀ v1 w1, Buf w0.heap.size w1 v1 (l ++ [p]) → Below w0.heap.size w0 w1 → wpList Try.prog ops Q rest (a.put o.dst v1) w1) :
  wpList Try.prog ops Q (o :: rest) a (W.alloc (.cells #[.int .u8 p] 5)) := by
 have hb0 := below_alloc (Below.refl W.heap.size W) (Obj.cells #[Value.int .u8 p] 5)
 have S1 := S.below hb0
 have HB1 := below_step HB hb0
 obtain ⟨b, cap, rfl, h1, h2, h3, h4, h5⟩ := S1
 have hW : b < W.heap.size := by
  obtain ⟨b', cap', e, _, h2', _⟩ := S
  injection e with e
  injection e with e
  injection e with e
  subst e
  exact h2'
 obtain ⟨inf, hi, hi2⟩ := Option.map_eq_some_iff.1 info5
 simp only [Prod.mk.injEq] at hi2
 refine wpList_append_arg _ hgd s x 40 ho 5 inf (.int .u8 0) 1 1 Try.underlying40 hi hi2.1 hi2.2.1 hi2.2.2 rfl (by decide) b 0 l.length cap (l.map (Value.int .u8)) hs (by simp) ?lo ⟨W.heap.size, 0, none⟩ 1 1 [.int .u8 p] hx rfl ?c1 ?c2 ?spare ?maxLen ?bytes ?room ?grow
 case lo =>
  intro j u hj
  rw [List.getElem?_map] at hj
  rcases Nat.lt_or_ge j l.length with hlt | hge
  ·rw [List.getElem?_eq_getElem hlt] at hj
   simp only [Option.map_some, Option.some.injEq] at hj
   subst hj
   rw [Nat.zero_add]
   exact h5 j hlt
  ·rw [List.getElem?_eq_none hge] at hj; cases hj
 case c1 =>
  intro j u hj
  exact cell_one_new W (.int .u8 p) 5 j u hj
 case c2 => intro u hu; simp only [List.mem_cons, List.not_mem_nil, or_false] at hu; subst hu; rfl
 case spare =>
  intro hr j hj
  simp only [List.length_cons, List.length_nil] at hj
  obtain rfl : j = 0 := by omega
  rw [show 0 + l.length * 1 + 0 = l.length by omega]
  exact h4 l.length (by omega)
 case maxLen => simp only [maxLen]; omega
 case bytes => omega
 case room =>
  intro hr
  rw [show 0 + l.length * 1 = l.length by omega]
  refine h _ _ ⟨b, cap, by simp, h1, ?_, by simp; omega, fun j hj => ?_, fun j hj => ?_⟩ ?_
  ·simpa [World.setCells, World.setCell] using h2
  ·rw [World.frozen?_setCells]
   refine ⟨?_, (h4 j hj).2⟩
   by_cases e : j = l.length
   ·subst e
    have := World.cell?_setCells_in b [.int .u8 p] l.length (W.alloc (.cells #[.int .u8 p] 5)) (fun i hi' => by simp only [List.length_cons, List.length_nil] at hi'; obtain rfl : i = 0 := (by omega); rw [Nat.add_zero]; exact (h4 l.length (by omega)).1) 0 (by simp)
    rw [Nat.add_zero] at this
    rw [this]; rfl
   ·rw [World.cell?_setCells_out b _ _ _ _ (fun _ _ => by simp; omega)]
    exact (h4 j hj).1
  ·by_cases e : j = l.length
   ·subst e
    have := World.cell?_setCells_in b [.int .u8 p] l.length (W.alloc (.cells #[.int .u8 p] 5)) (fun i hi' => by simp only [List.length_cons, List.length_nil] at hi'; obtain rfl : i = 0 := (by omega); rw [Nat.add_zero]; exact (h4 l.length (by omega)).1) 0 (by simp)
    rw [Nat.add_zero] at this
    rw [this]; simp
   ·have hj' : j < l.length := by simp at hj; omega
    rw [World.cell?_setCells_out b _ _ _ _ (fun _ _ => by simp; omega), h5 j hj', List.getElem_append_left hj']
  ·exact below_set HB1 h1
 case grow =>
  intro hr v' w' hown hg
  have hsz := HB.size
  have hsz1 : (W.alloc (.cells #[.int .u8 p] 5)).heap.size = W.heap.size + 1 := by simp
  obtain ⟨hlen, ⟨_, h0⟩ | ⟨g, cp, cur, rfl, hgb, hgh, hn, hcm, hcs, hct⟩⟩ := hown
  ·omega
  refine h _ _ ⟨g, cp, by simp, by omega, blk_lt hgh, by simp; omega, fun j hj => ?_, fun j hj => ?_⟩ ?_
  ·simp only [World.cell?, World.frozen?, hgh]
   constructor
   ·simp; omega
   ·simp
  ·simp only [World.cell?, hgh]
   simp only [List.length_append, List.length_cons, List.length_nil] at hj
   have hj2 : j < cur.size := by omega
   have e1 : cur[j]? = (cur.toList.take ((l.length + 1) * 1))[j]? := by rw [List.getElem?_take_of_lt (by omega), Array.getElem?_toList]
   have e2 : (l.map (Value.int .u8) ++ [Value.int .u8 p])[j]? = some (.int .u8 (l ++ [p])[j]) := by
    rw [show l.map (Value.int .u8) ++ [Value.int .u8 p] = (l ++ [p]).map (Value.int .u8) by simp, List.getElem?_map, List.getElem?_eq_getElem (by simp; omega)]
    rfl
   simp only [e1, hct, e2]
   simp
  ·exact HB1.grown hg (Nat.le_trans hsz (by omega)) (fun k hk => by cases hk)
theorem Buf.C {B : Nat} {w : World} {A : Option Addr} {n c : Nat} {l : List Int} (h : Buf B w (.slice A n c) l) (hn : n = l.length) (hl : l.length ≤ 1000000) : Kd.C (Kd.int .u8) w A n l := by
 obtain ⟨b, cap, e, h1, h2, h3, h4, h5⟩ := h
 injection e with e1 e2 e3
 subst e1
 subst hn
 exact Kd.C_of_reads (d := (0 : Int)) ⟨rfl, by omega, fun _ => ⟨_, rfl, fun j hj => by rw [add_plain, h5 j hj]; simp [List.getD_eq_getElem?_getD, List.getElem?_eq_getElem hj]⟩⟩
theorem Buf.shape {B : Nat} {w : World} {v : Value} {l : List Int} (h : Buf B w v l) : ∃ b cap, v = .slice (some ⟨b, 0, none⟩) l.length cap := by
 obtain ⟨b, cap, e, _⟩ := h
 exact ⟨b, cap, e⟩
/-- A sum's bytes. -/
def sumBytes (s : ByteArray) : List Int := [(sum (nats s) : Int) % 256, (sum (nats s) : Int) / 256 % 256, (sum (nats s) : Int) / 65536 % 256, (sum (nats s) : Int) / 16777216 % 256]
/-- What is sealed. -/
def sealB (s : ByteArray) : ByteArray := s ++ strOfNums (sumBytes s)
theorem bytes_back (s : ByteArray) : strOfNums (bytesOf s) = s := by
 unfold strOfNums bytesOf
 rw [List.map_map]
 have : (s.data.toList.map ((fun n => UInt8.ofNat n.toNat) ∘ fun b => (b.toNat : Int))) = s.data.toList := by
  conv => rhs; rw [← List.map_id s.data.toList]
  apply List.map_congr_left
  intro b _
  simp
 rw [this]
theorem strs_app (a b : List Int) : strOfNums (a ++ b) = strOfNums a ++ strOfNums b := by
 apply XBytes.ba_ext
 rw [XBytes.app_data]
 simp [strOfNums]
set_option maxHeartbeats 4000000 in
set_option maxRecDepth 100000 in
theorem seal_calls (s : ByteArray) (hs : s.size ≤ 100000) (w : World) :
  Calls Try.prog 25 #[.string s] w fun e w' => e = .returned (.string (sealB s)) ∧ Below w.heap.size w w' := by
 have kb := print_bytes (P := Try.prog) 9 40 5 Try.underlying9 Try.underlying40 Try.underlying5 s w
 have S := Buf.start w s
 have HB := bytes_below (Below.refl _ w) (Nat.le_refl _) 5 s
 have HE : sealB s = strOfNums (bytesOf s ++ sumBytes s) := by rw [strs_app, bytes_back]; rfl
 unfold sumBytes at HE
 have hl := bytesOf_length s
 have HC := Aside0.mk (fun w => sum_calls s (by omega) w)
 generalize sum (nats s) = z at HE HC
 generalize sealB s = r at HE ⊢
 go_enter Try.func25, Try.ntmps25
 generalize Lib.bytesWorld w 5 s = W at kb S HB
 generalize grownCap w s.size 0 5 = cp at kb S
 generalize bytesOf s = l at S HE hl
 have S' := Aside0.mk S
 have HB' := Aside0.mk HB
 have HE' := Aside0.mk HE
 have HL' := Aside0.mk (show l.length ≤ 100000 by omega)
 clear S HB HE hl hs
 generalize (some ⟨w.heap.size, 0, none⟩ : Option Addr) = A at S' kb
 go_wp2_with (go_at_call 40; refine (HC.out _).mono ?_; rintro e w1 ⟨rfl, hb⟩; replace S' := Aside0.mk (S'.out.below hb); replace HB' := Aside0.mk (below_step HB'.out hb); clear hb)
 clear kb HC
 refine wp_loop_rounds 5 ?_
 rw [rounds_succ]
 go_wp2_with ((with_reducible refine gate_builtin (b := .append) (xs := #[.tmp 13, .tmp 19]) rfl ?_); at_builtin; refine Buf.append_ (w0 := w) (.tmp 13) (.tmp 19) S'.out rfl rfl rfl rfl HB'.out (by have := HL'.out; simp; omega) ?_; intro v1 w1 ho hb; replace S' := Aside0.mk ho; replace HB' := Aside0.mk hb; clear ho hb)
 rw [rounds_succ]
 go_wp2_with ((with_reducible refine gate_builtin (b := .append) (xs := #[.tmp 13, .tmp 19]) rfl ?_); at_builtin; refine Buf.append_ (w0 := w) (.tmp 13) (.tmp 19) S'.out rfl rfl rfl rfl HB'.out (by have := HL'.out; simp; omega) ?_; intro v1 w1 ho hb; replace S' := Aside0.mk ho; replace HB' := Aside0.mk hb; clear ho hb)
 rw [rounds_succ]
 go_wp2_with ((with_reducible refine gate_builtin (b := .append) (xs := #[.tmp 13, .tmp 19]) rfl ?_); at_builtin; refine Buf.append_ (w0 := w) (.tmp 13) (.tmp 19) S'.out rfl rfl rfl rfl HB'.out (by have := HL'.out; simp; omega) ?_; intro v1 w1 ho hb; replace S' := Aside0.mk ho; replace HB' := Aside0.mk hb; clear ho hb)
 rw [rounds_succ]
 go_wp2_with ((with_reducible refine gate_builtin (b := .append) (xs := #[.tmp 13, .tmp 19]) rfl ?_); at_builtin; refine Buf.append_ (w0 := w) (.tmp 13) (.tmp 19) S'.out rfl rfl rfl rfl HB'.out (by have := HL'.out; simp; omega) ?_; intro v1 w1 ho hb; replace S' := Aside0.mk ho; replace HB' := Aside0.mk hb; clear ho hb)
 rw [rounds_succ]
 obtain ⟨b, cp', rfl⟩ := S'.out.shape
 have hlen : (l ++ [(z : Int) % 256] ++ [(z : Int) / 256 % 256] ++ [(z : Int) / 65536 % 256] ++ [(z : Int) / 16777216 % 256]).length ≤ 1000000 := by have := HL'.out; simp; omega
 have hcs := Kd.C_string (P := Try.prog) Try.underlying40 Try.underlying5 Try.underlying9 (c := cp') (S'.out.C rfl hlen)
 have HE2 : strOfNums (l ++ [(z : Int) % 256] ++ [(z : Int) / 256 % 256] ++ [(z : Int) / 65536 % 256] ++ [(z : Int) / 16777216 % 256]) = r := by rw [HE'.out]; simp
 rw [HE2] at hcs
 clear hlen HE2 S' HE' HL'
 generalize (l ++ [(z : Int) % 256] ++ [(z : Int) / 256 % 256] ++ [(z : Int) / 65536 % 256] ++ [(z : Int) / 16777216 % 256]).length = nn at hcs ⊢
 go_wp2
 go_ret
 exact ⟨rfl, HB'.out⟩
/-- What is opened: the bytes ahead of the sum, and an error's number. -/
def openB (s : ByteArray) : ByteArray × Int :=
 if s.size < 4 then (⟨#[]⟩, 2) else if sealB (s.extract 0 (s.size - 4)) = s then (s.extract 0 (s.size - 4), 0) else (⟨#[]⟩, 4)
set_option maxHeartbeats 4000000 in
set_option maxRecDepth 100000 in
theorem open_calls (s : ByteArray) (hs : s.size ≤ 100000) (w : World) :
  Calls Try.prog 31 #[.string s] w fun e w' => e = .returned (.tuple #[.string (openB s).1, .int .i64 (openB s).2]) ∧ Below w.heap.size w w' := by
 have HB := Aside0.mk (Below.refl w.heap.size w)
 unfold openB
 by_cases c : s.size < 4
 ·rw [if_pos c]
  have c1 : (s.size : Int) < 4 := by omega
  go_enter Try.func31, Try.ntmps31
  go_wp2
  go_ret2
  exact ⟨rfl, HB.out⟩
 ·rw [if_neg c]
  have c1 : ¬ (s.size : Int) < 4 := by omega
  have c2 : IntKind.i64.wrap ((s.size : Int) - 4) = ((s.size - 4 : Nat) : Int) := by rw [IntKind.wrap_i64]; omega
  have c3 : ((s.size - 4 : Nat) : Int) ≤ (s.size : Int) := by omega
  have c4 : (0 : Int) ≤ ((s.size - 4 : Nat) : Int) := by omega
  have HC := Aside0.mk (fun w => seal_calls (s.extract 0 (s.size - 4)) (by rw [XBytes.ext_size]; omega) w)
  have ht : ((s.size - 4 : Nat) : Int).toNat = s.size - 4 := Int.toNat_natCast _
  generalize s.size - 4 = m at HC c2 c3 c4 ht ⊢
  by_cases c5 : sealB (s.extract 0 m) = s
  ·rw [if_pos c5]
   rw [c5] at HC
   go_enter Try.func31, Try.ntmps31
   go_wp2_with (go_at_call 25; refine (HC.out _).mono ?_; rintro e w1 ⟨rfl, hb⟩; replace HB := Aside0.mk (below_step HB.out hb); clear hb)
   go_ret2
   exact ⟨rfl, HB.out⟩
  ·rw [if_neg c5]
   have c6 : ((sealB (s.extract 0 m)).toList == s.toList) = false := beq_eq_false_iff_ne.mpr (fun h => c5 (XBytes.toList_inj.1 h))
   generalize sealB (s.extract 0 m) = u at HC c6
   go_enter Try.func31, Try.ntmps31
   go_wp2_with (go_at_call 25; refine (HC.out _).mono ?_; rintro e w1 ⟨rfl, hb⟩; replace HB := Aside0.mk (below_step HB.out hb); clear hb)
   go_ret2
   exact ⟨rfl, HB.out⟩
end Go.Proofs.Ytjccgdnnnlgeeaa.XCrc
end

section
/- Frames as bytes, in plain functions: which may be, how they are written and read; what is written is read, what is read is what was written. -/
namespace Go.Proofs.Ytjccgdnnnlgeeaa.XFr
open Go.RowKit Go.Proofs.Ytjccgdnnnlgeeaa.PA Go.Proofs.YtjccgdnnnlgeeaaW.PrintWords Go.Proofs.YtjccgdnnnlgeeaaW.PrintLast Go.Proofs.Ytjccgdnnnlgeeaa.XVar Go.Proofs.Ytjccgdnnnlgeeaa.XBytes Go.Proofs.Ytjccgdnnnlgeeaa.XV01 Go.Proofs.Ytjccgdnnnlgeeaa.XCat Go.Proofs.Ytjccgdnnnlgeeaa.XV04
open Go.Proofs.Ytjccgdnnnlgeeaa.XPut (nameP)
open Go.Proofs.Ytjccgdnnnlgeeaa.XSum (Se kSe)
open Go.Proofs.Ytjccgdnnnlgeeaa.XIdent (isB)
open Go.Proofs.Ytjccgdnnnlgeeaa.XMay (mayB)
open Go.Proofs.Ytjccgdnnnlgeeaa.XV17 (mayT mayT_iff rowOk rdS_at)
open Go.Proofs.Ytjccgdnnnlgeeaa.XCrc (sealB openB sumBytes nats nats_lt nats_len sum half hn step R all)
set_option linter.unusedVariables false
set_option linter.unusedSimpArgs false
abbrev Fr := S27
abbrev kFr : Kd Fr := k27
abbrev zv : S23 := ⟨0, 0, 0, ⟨#[]⟩⟩
abbrev zF : Fr := ⟨0, 0, false, ⟨#[]⟩, zv, 0, []⟩
def zV (v : S23) : Bool := v.f0 == 0 && (v.f1 == 0 && (v.f2 == 0 && (v.f3.toList == ([] : List UInt8))))
theorem e_toList : (⟨#[]⟩ : ByteArray).toList = [] := by rw [Lib.toList_data]
theorem toList_e {s : ByteArray} : s.toList = [] ↔ s = ⟨#[]⟩ := ⟨fun h => toList_inj.1 (h.trans e_toList.symm), fun h => by rw [h]; exact e_toList⟩
theorem zV_iff (v : S23) : zV v = true ↔ v = zv := by
  obtain ⟨a, b, c, d⟩ := v
  simp only [zV, Bool.and_eq_true, beq_iff_eq, zv, S23.mk.injEq, toList_e]
def mayK (f : Fr) : Bool :=
  if f.f0 = 1 then isB f.f3 && ((if f.f2 = true then mayB f.f4.f0 f.f4.f1 f.f4.f2 f.f4.f3 else zV f.f4) && (decide (f.f5 = 0) && decide (f.f6.length = 0)))
  else if f.f0 = 2 then !f.f2 && (decide (f.f3 = ⟨#[]⟩) && (zV f.f4 && decide (f.f6.length = 0)))
  else if f.f0 = 3 then !f.f2 && (decide (f.f3 = ⟨#[]⟩) && (zV f.f4 && (decide (f.f5 = 0) && mayT f.f6)))
  else if f.f0 = 4 then !f.f2 && (decide (f.f3 = ⟨#[]⟩) && (zV f.f4 && (decide (f.f5 = 0) && decide (f.f6.length = 0))))
  else false
/-- Whether a frame may be. -/
def mayF (f : Fr) : Bool := decide (0 ≤ f.f1 ∧ f.f1 ≤ 1099511627776) && mayK f
/-! ### bytes -/
def sum8 (n : Int) : ByteArray := strOfNums [n / 72057594037927936 % 256, n / 281474976710656 % 256, n / 1099511627776 % 256, n / 4294967296 % 256, n / 16777216 % 256, n / 65536 % 256, n / 256 % 256, n % 256]
def bodyF (f : Fr) : ByteArray × Bool :=
  if f.f0 = 1 then (if f.f2 = true then ((⟨#[1]⟩ ++ (nameP f.f3).1) ++ (PV f.f4.f0 f.f4.f1 f.f4.f2 f.f4.f3).1, (nameP f.f3).2 && (PV f.f4.f0 f.f4.f1 f.f4.f2 f.f4.f3).2) else (⟨#[0]⟩ ++ (nameP f.f3).1, (nameP f.f3).2))
  else if f.f0 = 2 then (sum8 f.f5, true)
  else if f.f0 = 3 then putT f.f6
  else (⟨#[]⟩, true)
def headF (f : Fr) : ByteArray := strOfNums [f.f0 % 256] ++ P f.f1
def plainF (f : Fr) : ByteArray := headF f ++ (bodyF f).1
theorem headF_size (f : Fr) : (headF f).size = 1 + (P f.f1).size := by unfold headF; rw [app_size, strOfNums_size]; rfl
theorem sum8_size (n : Int) : (sum8 n).size = 8 := by unfold sum8; rw [strOfNums_size]; rfl
/-- A sum of bytes, the first ones. -/
def num8 (s : ByteArray) (p : Int) : Nat → Int
  | 0 => 0
  | i + 1 => 256 * num8 s p i + bt s (p + i)
def rdDelta (f : Fr) (s : ByteArray) (p : Int) : Fr × Int × Bool :=
  if p = s.size ∨ bt s p > 1 then (f, 0, false)
  else if (IT s (p + 1)).2.2 = 0 ∧ bt s p = 1 then (⟨f.f0, f.f1, true, (IT s (p + 1)).1, ⟨(VT s (IT s (p + 1)).2.1).1, (VT s (IT s (p + 1)).2.1).2.1, (VT s (IT s (p + 1)).2.1).2.2.1, (VT s (IT s (p + 1)).2.1).2.2.2.1⟩, f.f5, f.f6⟩, (VT s (IT s (p + 1)).2.1).2.2.2.2.1, decide ((VT s (IT s (p + 1)).2.1).2.2.2.2.2 = 0))
  else (⟨f.f0, f.f1, decide (bt s p = 1), (IT s (p + 1)).1, f.f4, f.f5, f.f6⟩, (IT s (p + 1)).2.1, decide ((IT s (p + 1)).2.2 = 0))
def rdBody (f : Fr) (s : ByteArray) (p : Int) : Fr × Int × Bool :=
  if f.f0 = 1 then rdDelta f s p
  else if f.f0 = 2 then (if s.size - p < 8 then (f, 0, false) else (⟨f.f0, f.f1, f.f2, f.f3, f.f4, num8 s p 8, f.f6⟩, p + 8, true))
  else if f.f0 = 3 then (⟨f.f0, f.f1, f.f2, f.f3, f.f4, f.f5, (TT s p).1⟩, (TT s p).2.1, decide ((TT s p).2.2 = 0))
  else (f, p, true)
/-- What is read. -/
def readF (s : ByteArray) : Fr × Bool :=
  if s.size = 0 ∨ bt s 0 < 1 ∨ bt s 0 > 4 then (zF, false)
  else if (G s 1).2.2 ≠ 0 ∨ (G s 1).1 > 1099511627776 then (zF, false)
  else ((rdBody ⟨bt s 0, (G s 1).1, false, ⟨#[]⟩, zv, 0, []⟩ s (G s 1).2.1).1, (rdBody ⟨bt s 0, (G s 1).1, false, ⟨#[]⟩, zv, 0, []⟩ s (G s 1).2.1).2.2 && decide ((rdBody ⟨bt s 0, (G s 1).1, false, ⟨#[]⟩, zv, 0, []⟩ s (G s 1).2.1).2.1 = s.size))
/-- What the reference reads of bytes: it, or something near it. -/
def rreadF (s : ByteArray) : Fr :=
  if s.size = 0 then zF
  else if (G s 1).2.2 ≠ 0 ∨ (G s 1).1 > 1099511627776 then zF
  else if bt s 0 = 1 then
    (if (G s 1).2.1 ≥ s.size then zF
     else if (IT s ((G s 1).2.1 + 1)).2.2 = 0 then
       (if bt s (G s 1).2.1 = 1 then
         (if (VT s (IT s ((G s 1).2.1 + 1)).2.1).2.2.2.2.2 = 0 then ⟨1, (G s 1).1, true, (IT s ((G s 1).2.1 + 1)).1, ⟨(VT s (IT s ((G s 1).2.1 + 1)).2.1).1, (VT s (IT s ((G s 1).2.1 + 1)).2.1).2.1, (VT s (IT s ((G s 1).2.1 + 1)).2.1).2.2.1, (VT s (IT s ((G s 1).2.1 + 1)).2.1).2.2.2.1⟩, 0, []⟩ else zF)
        else ⟨1, (G s 1).1, false, (IT s ((G s 1).2.1 + 1)).1, zv, 0, []⟩)
     else zF)
  else if bt s 0 = 2 then ⟨2, (G s 1).1, false, ⟨#[]⟩, zv, num8 s (G s 1).2.1 (min 8 (s.size - (G s 1).2.1).toNat), []⟩
  else if bt s 0 = 3 then (if (TT s (G s 1).2.1).2.2 = 0 then ⟨3, (G s 1).1, false, ⟨#[]⟩, zv, 0, (TT s (G s 1).2.1).1⟩ else zF)
  else ⟨bt s 0, (G s 1).1, false, ⟨#[]⟩, zv, 0, []⟩
/-! ### what is written is read -/
theorem head_G (f : Fr) (b : ByteArray) (h0 : 0 ≤ f.f1) (h1 : f.f1 ≤ 1099511627776) : G (headF f ++ b) 1 = (f.f1, ((headF f).size : Int), 0) := by
  have e : headF f ++ b = (strOfNums [f.f0 % 256] ++ P f.f1) ++ b := rfl
  have h := G_put (headF f ++ b) 1 f.f1 (by omega) h0 (by omega) (by
    rw [e]
    have := P_in (strOfNums [f.f0 % 256]) b f.f1 h0
    rw [strOfNums_size] at this
    exact this)
  rw [h, headF_size]
  simp only [Prod.mk.injEq, true_and, and_true]
  omega
theorem head_bt (f : Fr) (b : ByteArray) (h0 : 1 ≤ f.f0) (h1 : f.f0 ≤ 4) : bt (headF f ++ b) 0 = f.f0 := by
  have e : headF f ++ b = strOfNums [f.f0 % 256] ++ (P f.f1 ++ b) := by unfold headF; rw [app_assoc]
  rw [e, bt_app_left _ _ 0 (by omega) (by rw [strOfNums_size]; simp)]
  have := bt_nums [f.f0 % 256] (by intro x hx; simp at hx; omega) 0 (by simp)
  rw [show ((0 : Nat) : Int) = 0 from rfl] at this
  rw [this]
  simp
  omega
theorem mid_bt (a b : ByteArray) (x : Int) (h0 : 0 ≤ x) (h1 : x ≤ 255) : bt (a ++ (strOfNums [x] ++ b)) a.size = x := by
  have := bt_app_right a (strOfNums [x] ++ b) 0 (by omega)
  rw [Int.add_zero] at this
  rw [this, bt_app_left _ _ 0 (by omega) (by rw [strOfNums_size]; simp)]
  have := bt_nums [x] (by intro y hy; simp at hy; omega) 0 (by simp)
  exact this
theorem one_s : (⟨#[1]⟩ : ByteArray) = strOfNums [1] := by decide
theorem zero_s : (⟨#[0]⟩ : ByteArray) = strOfNums [0] := by decide
theorem sum8_bt (a : ByteArray) (n : Int) (h0 : 0 ≤ n) (h1 : n < 18446744073709551616) : num8 (a ++ sum8 n) a.size 8 = n := by
  have hb : ∀ (j : Nat) (h : j < 8), bt (a ++ sum8 n) ((a.size : Int) + j) = ([n / 72057594037927936 % 256, n / 281474976710656 % 256, n / 1099511627776 % 256, n / 4294967296 % 256, n / 16777216 % 256, n / 65536 % 256, n / 256 % 256, n % 256] : List Int)[j]'(by simpa using h) := by
    intro j h
    rw [bt_app_right a _ j (by omega)]
    exact bt_nums _ (by intro x hx; simp at hx; omega) j (by simpa using h)
  have b0 := hb 0 (by omega)
  have b1 := hb 1 (by omega)
  have b2 := hb 2 (by omega)
  have b3 := hb 3 (by omega)
  have b4 := hb 4 (by omega)
  have b5 := hb 5 (by omega)
  have b6 := hb 6 (by omega)
  have b7 := hb 7 (by omega)
  simp only [List.getElem_cons_zero, List.getElem_cons_succ] at b0 b1 b2 b3 b4 b5 b6 b7
  simp only [num8, b0, b1, b2, b3, b4, b5, b6, b7]
  omega
theorem body1 {f : Fr} (h : mayK f = true) (h0 : f.f0 = 1) : f = ⟨1, f.f1, f.f2, f.f3, f.f4, 0, []⟩ ∧ isB f.f3 = true ∧ ((f.f2 = true ∧ mayB f.f4.f0 f.f4.f1 f.f4.f2 f.f4.f3 = true) ∨ (f.f2 = false ∧ f.f4 = zv)) := by
  unfold mayK at h
  rw [if_pos h0] at h
  simp only [Bool.and_eq_true, decide_eq_true_eq] at h
  obtain ⟨h1, h2, h3, h4⟩ := h
  obtain ⟨a, b, c, d, e, g, l⟩ := f
  simp only at h0 h1 h2 h3 h4 ⊢
  subst h0
  subst h3
  obtain rfl := List.length_eq_zero_iff.1 h4
  refine ⟨rfl, h1, ?_⟩
  cases c with
  | true => exact .inl ⟨rfl, by simpa using h2⟩
  | false => exact .inr ⟨rfl, (zV_iff e).1 (by simpa using h2)⟩
theorem body2 {f : Fr} (h : mayK f = true) (h0 : f.f0 = 2) : f = ⟨2, f.f1, false, ⟨#[]⟩, zv, f.f5, []⟩ := by
  unfold mayK at h
  rw [if_neg (by omega), if_pos h0] at h
  simp only [Bool.and_eq_true, decide_eq_true_eq, Bool.not_eq_true', zV_iff] at h
  obtain ⟨h1, h2, h3, h4⟩ := h
  obtain ⟨a, b, c, d, e, g, l⟩ := f
  simp only at h0 h1 h2 h3 h4 ⊢
  obtain rfl := List.length_eq_zero_iff.1 h4
  rw [h0, h1, h2, h3]
theorem body3 {f : Fr} (h : mayK f = true) (h0 : f.f0 = 3) : f = ⟨3, f.f1, false, ⟨#[]⟩, zv, 0, f.f6⟩ ∧ mayT f.f6 = true := by
  unfold mayK at h
  rw [if_neg (by omega), if_neg (by omega), if_pos h0] at h
  simp only [Bool.and_eq_true, decide_eq_true_eq, Bool.not_eq_true', zV_iff] at h
  obtain ⟨h1, h2, h3, h4, h5⟩ := h
  obtain ⟨a, b, c, d, e, g, l⟩ := f
  simp only at h0 h1 h2 h3 h4 h5 ⊢
  rw [h0, h1, h2, h3, h4]
  exact ⟨rfl, h5⟩
theorem body4 {f : Fr} (h : mayK f = true) (h0 : f.f0 = 4) : f = ⟨4, f.f1, false, ⟨#[]⟩, zv, 0, []⟩ := by
  unfold mayK at h
  rw [if_neg (by omega), if_neg (by omega), if_neg (by omega), if_pos h0] at h
  simp only [Bool.and_eq_true, decide_eq_true_eq, Bool.not_eq_true', zV_iff] at h
  obtain ⟨h1, h2, h3, h4, h5⟩ := h
  obtain ⟨a, b, c, d, e, g, l⟩ := f
  simp only at h0 h1 h2 h3 h4 h5 ⊢
  obtain rfl := List.length_eq_zero_iff.1 h5
  rw [h0, h1, h2, h3, h4]
theorem mayK_kind {f : Fr} (h : mayK f = true) : f.f0 = 1 ∨ f.f0 = 2 ∨ f.f0 = 3 ∨ f.f0 = 4 := by
  unfold mayK at h
  by_cases c1 : f.f0 = 1
  · exact .inl c1
  by_cases c2 : f.f0 = 2
  · exact .inr (.inl c2)
  by_cases c3 : f.f0 = 3
  · exact .inr (.inr (.inl c3))
  by_cases c4 : f.f0 = 4
  · exact .inr (.inr (.inr c4))
  rw [if_neg c1, if_neg c2, if_neg c3, if_neg c4] at h
  cases h
theorem mayF_iff (f : Fr) : mayF f = true ↔ (0 ≤ f.f1 ∧ f.f1 ≤ 1099511627776) ∧ mayK f = true := by unfold mayF; rw [Bool.and_eq_true, decide_eq_true_iff]
theorem nameP_ok {n : ByteArray} (h : isB n = true) : nameP n = (X n, true) := by unfold nameP; rw [if_pos h]; rfl
theorem PV_ok {a b c : Int} {d : ByteArray} (h : mayB a b c d = true) : PV a b c d = (Vb a b c d, true) := by unfold PV; rw [if_pos h]
/-- The delta's fields, wherever they stand behind a head. -/
theorem delta_on (a n : ByteArray) (v0 v1 v2 : Int) (v3 : ByteArray) (hn : isB n = true) (hv : mayB v0 v1 v2 v3 = true) :
    let s := a ++ ((⟨#[1]⟩ ++ X n) ++ Vb v0 v1 v2 v3)
    bt s a.size = 1 ∧ (a.size : Int) < s.size ∧ IT s ((a.size : Int) + 1) = (n, (a.size : Int) + 1 + (X n).size, 0) ∧ VT s ((a.size : Int) + 1 + (X n).size) = (v0, v1, v2, v3, (s.size : Int), 0) := by
  intro s
  have e1 : s = a ++ (strOfNums [1] ++ (X n ++ Vb v0 v1 v2 v3)) := by show a ++ ((⟨#[1]⟩ ++ X n) ++ Vb v0 v1 v2 v3) = _; rw [one_s, app_assoc]
  have e2 : s = ((a ++ ⟨#[1]⟩) ++ X n) ++ Vb v0 v1 v2 v3 := by show a ++ ((⟨#[1]⟩ ++ X n) ++ Vb v0 v1 v2 v3) = _; simp only [app_assoc]
  have e3 : s = (((a ++ ⟨#[1]⟩) ++ X n) ++ Vb v0 v1 v2 v3) ++ ⟨#[]⟩ := by rw [app_nil]; exact e2
  have hz : (a ++ (⟨#[1]⟩ : ByteArray)).size = a.size + 1 := app_size ..
  have hs : s.size = a.size + 1 + (X n).size + (Vb v0 v1 v2 v3).size := by rw [e2, app_size, app_size, hz]
  refine ⟨by rw [e1]; exact mid_bt _ _ _ (by omega) (by omega), by omega, ?_, ?_⟩
  · have := IT_put (a ++ ⟨#[1]⟩) (Vb v0 v1 v2 v3) n hn
    rw [hz] at this
    rw [e2]
    exact_mod_cast this
  · have := VT_put ((a ++ ⟨#[1]⟩) ++ X n) ⟨#[]⟩ v0 v1 v2 v3 hv
    rw [app_size, hz, ← e3] at this
    rw [hs]
    exact_mod_cast this
theorem delta_off (a n : ByteArray) (hn : isB n = true) :
    let s := a ++ (⟨#[0]⟩ ++ X n)
    bt s a.size = 0 ∧ (a.size : Int) < s.size ∧ IT s ((a.size : Int) + 1) = (n, (s.size : Int), 0) := by
  intro s
  have e1 : s = a ++ (strOfNums [0] ++ X n) := by show a ++ (⟨#[0]⟩ ++ X n) = _; rw [zero_s]
  have e3 : s = ((a ++ ⟨#[0]⟩) ++ X n) ++ ⟨#[]⟩ := by rw [app_nil, app_assoc]
  have hz : (a ++ (⟨#[0]⟩ : ByteArray)).size = a.size + 1 := app_size ..
  have hs : s.size = a.size + 1 + (X n).size := by rw [e3, app_nil, app_size, hz]
  refine ⟨by rw [e1]; exact mid_bt _ _ _ (by omega) (by omega), by omega, ?_⟩
  have := IT_put (a ++ ⟨#[0]⟩) ⟨#[]⟩ n hn
  rw [hz, ← e3] at this
  rw [hs]
  exact_mod_cast this
theorem read_write {f : Fr} (h : mayF f = true) (h5 : 0 ≤ f.f5 ∧ f.f5 < 18446744073709551616) : readF (plainF f) = (f, true) ∧ rreadF (plainF f) = f := by
  obtain ⟨⟨s0, s1⟩, hk⟩ := (mayF_iff f).1 h
  have hkind := mayK_kind hk
  have hG := head_G f (bodyF f).1 s0 s1
  have hb := head_bt f (bodyF f).1 (by omega) (by omega)
  have hsz : (plainF f).size = (headF f).size + (bodyF f).1.size := app_size ..
  have hh := headF_size f
  have hP := P_pos f.f1
  change G (plainF f) 1 = _ at hG
  change bt (plainF f) 0 = _ at hb
  unfold readF rreadF
  rw [hG, hb]
  simp only
  rw [if_neg (by omega), if_neg (by omega), if_neg (by omega), if_neg (by omega)]
  rcases hkind with c | c | c | c
  · obtain ⟨e, hn, hv⟩ := body1 hk c
    rcases hv with ⟨o, hv⟩ | ⟨o, hv⟩
    · have eb : (bodyF f).1 = (⟨#[1]⟩ ++ X f.f3) ++ Vb f.f4.f0 f.f4.f1 f.f4.f2 f.f4.f3 := by
        unfold bodyF; rw [if_pos c, if_pos o, nameP_ok hn, PV_ok hv]
      obtain ⟨h1, h2, h3, h4⟩ := delta_on (headF f) f.f3 f.f4.f0 f.f4.f1 f.f4.f2 f.f4.f3 hn hv
      rw [← eb] at h1 h2 h3 h4
      change bt (plainF f) _ = _ at h1
      change _ < ((plainF f).size : Int) at h2
      change IT (plainF f) _ = _ at h3
      change VT (plainF f) _ = (_, _, _, _, ((plainF f).size : Int), _) at h4
      unfold rdBody
      simp only
      rw [if_pos c, if_pos c]
      unfold rdDelta
      simp only [h1, h3, h4]
      rw [if_neg (by omega), if_pos ⟨trivial, trivial⟩, if_neg (by omega), if_pos trivial, if_pos trivial]
      simp only [decide_true, Bool.and_true]
      rw [c]
      have e' := e
      rw [o] at e'
      exact ⟨Prod.ext e'.symm rfl, e'.symm⟩
    · have eb : (bodyF f).1 = ⟨#[0]⟩ ++ X f.f3 := by
        unfold bodyF; rw [if_pos c, if_neg (by rw [o]; decide), nameP_ok hn]
      obtain ⟨h1, h2, h3⟩ := delta_off (headF f) f.f3 hn
      rw [← eb] at h1 h2 h3
      change bt (plainF f) _ = _ at h1
      change _ < ((plainF f).size : Int) at h2
      change IT (plainF f) _ = (_, ((plainF f).size : Int), _) at h3
      unfold rdBody
      simp only
      rw [if_pos c, if_pos c]
      unfold rdDelta
      simp only [h1, h3]
      rw [if_neg (by omega), if_neg (by omega), if_neg (by omega), if_pos trivial, if_neg (by omega)]
      simp only [decide_true, Bool.and_true]
      rw [c, show decide ((0 : Int) = 1) = false from rfl]
      have e' := e
      rw [o, hv] at e'
      exact ⟨Prod.ext e'.symm rfl, e'.symm⟩
  · have e := body2 hk c
    have eb : (bodyF f).1 = sum8 f.f5 := by unfold bodyF; rw [if_neg (by omega), if_pos c]
    have h8 := sum8_bt (headF f) f.f5 h5.1 h5.2
    rw [← eb] at h8
    change num8 (plainF f) _ 8 = _ at h8
    have h8s := sum8_size f.f5
    rw [← eb] at h8s
    unfold rdBody
    simp only
    rw [if_neg (by omega), if_pos c, if_neg (by omega), if_neg (by omega), if_pos c, show min 8 (((plainF f).size : Int) - (headF f).size).toNat = 8 by omega, h8]
    simp only
    rw [decide_eq_true (show ((headF f).size : Int) + 8 = ((plainF f).size : Int) by omega), c]
    exact ⟨Prod.ext e.symm rfl, e.symm⟩
  · obtain ⟨e, hm⟩ := body3 hk c
    have eb : (bodyF f).1 = tB f.f6 := by unfold bodyF putT; rw [if_neg (by omega), if_neg (by omega), if_pos c, if_pos hm]
    have ht := TT_put f.f6 (headF f) ⟨#[]⟩ hm
    rw [app_nil, ← eb] at ht
    change TT (plainF f) _ = _ at ht
    unfold rdBody
    simp only
    rw [if_neg (by omega), if_neg (by omega), if_pos c, if_neg (by omega), if_neg (by omega), if_pos c, ht]
    simp only
    rw [if_pos trivial, decide_eq_true (show ((headF f).size : Int) + ((bodyF f).1.size : Int) = ((plainF f).size : Int) by omega), c]
    simp only [decide_true, Bool.and_true]
    exact ⟨Prod.ext e.symm rfl, e.symm⟩
  · have e := body4 hk c
    have eb : (bodyF f).1 = ⟨#[]⟩ := by unfold bodyF; rw [if_neg (by omega), if_neg (by omega), if_neg (by omega)]
    have hz : (bodyF f).1.size = 0 := by rw [eb]; rfl
    unfold rdBody
    simp only
    rw [if_neg (by omega), if_neg (by omega), if_neg (by omega), if_neg (by omega), if_neg (by omega), if_neg (by omega)]
    simp only
    rw [decide_eq_true (show ((headF f).size : Int) = ((plainF f).size : Int) by omega), c]
    exact ⟨Prod.ext e.symm rfl, e.symm⟩
/-! ### what is read is what was written -/
theorem ext_one (s : ByteArray) (p : Int) (h0 : 0 ≤ p) (h1 : p < s.size) : s.extract p.toNat (p + 1).toNat = strOfNums [bt s p] := by
  have := cut_of_stands (s := s) (l := [bt s p]) h0 ⟨by simp; omega, fun j hj => by simp at hj; subst hj; simp⟩
  simpa using this
theorem ext_eight (s : ByteArray) (p : Int) (h0 : 0 ≤ p) (h1 : p + 8 ≤ s.size) : s.extract p.toNat (p + 8).toNat = sum8 (num8 s p 8) ∧ 0 ≤ num8 s p 8 ∧ num8 s p 8 < 18446744073709551616 := by
  have := cut_of_stands (s := s) (l := [bt s p, bt s (p + 1), bt s (p + 2), bt s (p + 3), bt s (p + 4), bt s (p + 5), bt s (p + 6), bt s (p + 7)]) h0 ⟨by simp; omega, fun j hj => by
    simp only [List.length_cons, List.length_nil] at hj
    rcases (by omega : j = 0 ∨ j = 1 ∨ j = 2 ∨ j = 3 ∨ j = 4 ∨ j = 5 ∨ j = 6 ∨ j = 7) with rfl | rfl | rfl | rfl | rfl | rfl | rfl | rfl <;> simp⟩
  have e : (p + (([bt s p, bt s (p + 1), bt s (p + 2), bt s (p + 3), bt s (p + 4), bt s (p + 5), bt s (p + 6), bt s (p + 7)] : List Int).length : Int)) = p + 8 := by simp
  rw [e] at this
  rw [this]
  have r0 := bt_range s p
  have r1 := bt_range s (p + 1)
  have r2 := bt_range s (p + 2)
  have r3 := bt_range s (p + 3)
  have r4 := bt_range s (p + 4)
  have r5 := bt_range s (p + 5)
  have r6 := bt_range s (p + 6)
  have r7 := bt_range s (p + 7)
  have en : num8 s p 8 = ((((((bt s p * 256 + bt s (p + 1)) * 256 + bt s (p + 2)) * 256 + bt s (p + 3)) * 256 + bt s (p + 4)) * 256 + bt s (p + 5)) * 256 + bt s (p + 6)) * 256 + bt s (p + 7) := by
    simp only [num8]
    simp only [Int.natCast_zero, Int.add_zero, show ((1 : Nat) : Int) = 1 from rfl, show ((2 : Nat) : Int) = 2 from rfl, show ((3 : Nat) : Int) = 3 from rfl, show ((4 : Nat) : Int) = 4 from rfl, show ((5 : Nat) : Int) = 5 from rfl, show ((6 : Nat) : Int) = 6 from rfl, show ((7 : Nat) : Int) = 7 from rfl]
    omega
  rw [en]
  generalize bt s p = b0 at *
  generalize bt s (p + 1) = b1 at *
  generalize bt s (p + 2) = b2 at *
  generalize bt s (p + 3) = b3 at *
  generalize bt s (p + 4) = b4 at *
  generalize bt s (p + 5) = b5 at *
  generalize bt s (p + 6) = b6 at *
  generalize bt s (p + 7) = b7 at *
  refine ⟨?_, by omega, by omega⟩
  unfold sum8
  congr 1
  simp only [List.cons.injEq, and_true]
  omega
theorem ext_all (s : ByteArray) : s.extract 0 s.size = s := by
  apply ba_ext
  rw [ext_data, List.drop_zero, Nat.sub_zero, List.take_of_length_le (by rw [← size_len]; omega)]
theorem ext_to_end (s : ByteArray) (p : Nat) (h : p ≤ s.size) : s.extract 0 p ++ s.extract p s.size = s := by rw [ext_add s 0 p s.size (by omega) h, ext_all]
theorem write_read {s : ByteArray} {f : Fr} (hs : s.size ≤ 140737488351232) (h : readF s = (f, true)) : mayF f = true ∧ plainF f = s ∧ 0 ≤ f.f5 ∧ f.f5 < 18446744073709551616 := by
  unfold readF at h
  by_cases c0 : s.size = 0 ∨ bt s 0 < 1 ∨ bt s 0 > 4
  · rw [if_pos c0] at h; exact absurd (Prod.mk.inj h).2 (by decide)
  rw [if_neg c0] at h
  by_cases c1 : (G s 1).2.2 ≠ 0 ∨ (G s 1).1 > 1099511627776
  · rw [if_pos c1] at h; exact absurd (Prod.mk.inj h).2 (by decide)
  rw [if_neg c1] at h
  rcases G_shape s 1 with ⟨e, hG, he⟩ | ⟨n, q, hG, hp, q1, q2, n0, n1, hq, hst⟩
  · rw [hG] at c1; simp only at c1; omega
  rw [hG] at c1 h
  simp only at c1 h
  obtain ⟨hf, ht⟩ := Prod.mk.inj h
  rw [Bool.and_eq_true, decide_eq_true_eq] at ht
  obtain ⟨hi, hto⟩ := ht
  have hd : s.extract 0 q.toNat = headF ⟨bt s 0, n, f.f2, f.f3, f.f4, f.f5, f.f6⟩ := by
    have hc := cut_of_stands (by omega) hst
    rw [← hq] at hc
    have h1 := ext_one s 0 (by omega) (by omega)
    have r := bt_range s 0
    rw [← ext_add s 0 1 q.toNat (by omega) (by omega)]
    show _ = strOfNums [bt s 0 % 256] ++ strOfNums (digs 10 n)
    rw [← hc, show bt s 0 % 256 = bt s 0 by omega, ← h1]
    rfl
  have hq0 : q.toNat ≤ s.size := by omega
  have hall := ext_to_end s q.toNat hq0
  unfold rdBody at hf hi hto
  simp only at hf hi hto
  by_cases k1 : bt s 0 = 1
  · rw [if_pos k1] at hf hi hto
    unfold rdDelta at hf hi hto
    simp only at hf hi hto
    by_cases c2 : q = s.size ∨ bt s q > 1
    · rw [if_pos c2] at hi; cases hi
    rw [if_neg c2] at hf hi hto
    by_cases c3 : (IT s (q + 1)).2.2 = 0 ∧ bt s q = 1
    · rw [if_pos c3] at hf hi hto
      simp only [decide_eq_true_eq] at hi
      rcases IT_shape s (q + 1) hs with ⟨e, g, he⟩ | ⟨nm, r, g, hn, _, r1, r2, hX⟩
      · rw [g] at c3; simp only at c3; omega
      rw [g] at hf hi hto
      simp only at hf hi hto
      rcases VT_shape s r hs with ⟨e, v, he⟩ | ⟨a0, a1, a2, a3, t, v, hm, _, t1, t2, hV⟩
      · have v' : VT s r = (0, 0, 0, ⟨#[]⟩, 0, e) := v
        rw [v'] at hi; simp only at hi; exact absurd hi he
      rw [v] at hf hto
      simp only at hf hto
      subst hf
      have hb := ext_one s q (by omega) (by omega)
      rw [c3.2, ← one_s] at hb
      refine ⟨?_, ?_, by simp only; omega, by simp only; omega⟩
      · rw [mayF_iff]
        refine ⟨by simp only; omega, ?_⟩
        unfold mayK
        simp only
        rw [if_pos k1, hn, hm]
        rfl
      · have eb : (bodyF ⟨bt s 0, n, true, nm, ⟨a0, a1, a2, a3⟩, 0, []⟩).1 = (⟨#[1]⟩ ++ X nm) ++ Vb a0 a1 a2 a3 := by
          unfold bodyF; simp only; rw [if_pos k1, if_pos trivial, nameP_ok hn, PV_ok hm]
        unfold plainF
        rw [eb, ← hb, ← hX, ← hV, ext_add s _ _ _ (by omega) (by omega), ext_add s _ _ _ (by omega) (by omega)]
        have : t.toNat = s.size := by omega
        rw [this]
        have h2 : headF ⟨bt s 0, n, true, nm, ⟨a0, a1, a2, a3⟩, 0, []⟩ = s.extract 0 q.toNat := hd.symm
        rw [h2, hall]
    · rw [if_neg c3] at hf hi hto
      simp only [decide_eq_true_eq] at hi
      have hq1 : bt s q = 0 := by have := bt_range s q; omega
      rcases IT_shape s (q + 1) hs with ⟨e, g, he⟩ | ⟨nm, r, g, hn, _, r1, r2, hX⟩
      · rw [g] at hi; simp only at hi; exact absurd hi he
      rw [g] at hf hto
      simp only at hf hto
      rw [hq1, show decide ((0 : Int) = 1) = false from rfl] at hf
      subst hf
      have hb := ext_one s q (by omega) (by omega)
      rw [hq1, ← zero_s] at hb
      refine ⟨?_, ?_, by simp only; omega, by simp only; omega⟩
      · rw [mayF_iff]
        refine ⟨by simp only; omega, ?_⟩
        unfold mayK
        simp only
        rw [if_pos k1, hn, if_neg (by decide), (zV_iff _).2 rfl]
        rfl
      · have eb : (bodyF ⟨bt s 0, n, false, nm, zv, 0, []⟩).1 = ⟨#[0]⟩ ++ X nm := by
          unfold bodyF; simp only; rw [if_pos k1, if_neg (by decide), nameP_ok hn]
        unfold plainF
        rw [eb, ← hb, ← hX, ext_add s _ _ _ (by omega) (by omega)]
        have : r.toNat = s.size := by omega
        rw [this]
        have h2 : headF ⟨bt s 0, n, false, nm, zv, 0, []⟩ = s.extract 0 q.toNat := hd.symm
        rw [h2, hall]
  rw [if_neg k1] at hf hi hto
  by_cases k2 : bt s 0 = 2
  · rw [if_pos k2] at hf hi hto
    by_cases c2 : (s.size : Int) - q < 8
    · rw [if_pos c2] at hi; cases hi
    rw [if_neg c2] at hf hto
    simp only at hf hto
    obtain ⟨h8, h80, h81⟩ := ext_eight s q (by omega) (by omega)
    subst hf
    refine ⟨?_, ?_, h80, h81⟩
    · rw [mayF_iff]
      refine ⟨by simp only; omega, ?_⟩
      unfold mayK
      simp only
      rw [if_neg k1, if_pos k2, (zV_iff _).2 rfl]
      rfl
    · have eb : (bodyF ⟨bt s 0, n, false, ⟨#[]⟩, zv, num8 s q 8, []⟩).1 = sum8 (num8 s q 8) := by
        unfold bodyF; simp only; rw [if_neg k1, if_pos k2]
      unfold plainF
      have : (q + 8).toNat = s.size := by omega
      rw [this] at h8
      rw [eb, ← h8]
      have h2 : headF ⟨bt s 0, n, false, ⟨#[]⟩, zv, num8 s q 8, []⟩ = s.extract 0 q.toNat := hd.symm
      rw [h2, hall]
  rw [if_neg k2] at hf hi hto
  by_cases k3 : bt s 0 = 3
  · rw [if_pos k3] at hf hi hto
    simp only [decide_eq_true_eq] at hi
    rcases TT_shape s q hs with ⟨e, g, he⟩ | ⟨t, r, g, hm, _, r1, r2, hT⟩
    · rw [g] at hi; simp only at hi; exact absurd hi he
    rw [g] at hf hto
    simp only at hf hto
    subst hf
    refine ⟨?_, ?_, by simp only; omega, by simp only; omega⟩
    · rw [mayF_iff]
      refine ⟨by simp only; omega, ?_⟩
      unfold mayK
      simp only
      rw [if_neg k1, if_neg k2, if_pos k3, (zV_iff _).2 rfl, hm]
      rfl
    · have eb : (bodyF ⟨bt s 0, n, false, ⟨#[]⟩, zv, 0, t⟩).1 = tB t := by
        unfold bodyF putT; simp only; rw [if_neg k1, if_neg k2, if_pos k3, if_pos hm]
      unfold plainF
      have : r.toNat = s.size := by omega
      rw [this] at hT
      rw [eb, ← hT]
      have h2 : headF ⟨bt s 0, n, false, ⟨#[]⟩, zv, 0, t⟩ = s.extract 0 q.toNat := hd.symm
      rw [h2, hall]
  · rw [if_neg k3] at hf hi hto
    simp only at hf hto
    have k4 : bt s 0 = 4 := by omega
    subst hf
    refine ⟨?_, ?_, by simp only; omega, by simp only; omega⟩
    · rw [mayF_iff]
      refine ⟨by simp only; omega, ?_⟩
      unfold mayK
      simp only
      rw [if_neg k1, if_neg k2, if_neg k3, if_pos k4, (zV_iff _).2 rfl]
      rfl
    · have eb : (bodyF ⟨bt s 0, n, false, ⟨#[]⟩, zv, 0, []⟩).1 = ⟨#[]⟩ := by
        unfold bodyF; simp only; rw [if_neg k1, if_neg k2, if_neg k3]
      unfold plainF
      rw [eb, app_nil]
      have h2 : headF ⟨bt s 0, n, false, ⟨#[]⟩, zv, 0, []⟩ = s.extract 0 q.toNat := hd.symm
      rw [h2]
      have : q.toNat = s.size := by omega
      rw [this, ext_all]
end Go.Proofs.Ytjccgdnnnlgeeaa.XFr
end

section
/- Frames as bytes, in plain functions: what the printed functions, and the references, answer; what is sealed is opened. -/
namespace Go.Proofs.Ytjccgdnnnlgeeaa.XFr
open Go.RowKit Go.Proofs.Ytjccgdnnnlgeeaa.PA Go.Proofs.YtjccgdnnnlgeeaaW.PrintWords Go.Proofs.YtjccgdnnnlgeeaaW.PrintLast Go.Proofs.Ytjccgdnnnlgeeaa.XVar Go.Proofs.Ytjccgdnnnlgeeaa.XBytes Go.Proofs.Ytjccgdnnnlgeeaa.XV01 Go.Proofs.Ytjccgdnnnlgeeaa.XCat Go.Proofs.Ytjccgdnnnlgeeaa.XV04
open Go.Proofs.Ytjccgdnnnlgeeaa.XPut (nameP)
open Go.Proofs.Ytjccgdnnnlgeeaa.XSum (Se kSe)
open Go.Proofs.Ytjccgdnnnlgeeaa.XIdent (isB)
open Go.Proofs.Ytjccgdnnnlgeeaa.XMay (mayB)
open Go.Proofs.Ytjccgdnnnlgeeaa.XV17 (mayT mayT_iff rowOk rdS_at)
open Go.Proofs.Ytjccgdnnnlgeeaa.XGen (wrap_succ)
open Go.Proofs.Ytjccgdnnnlgeeaa.XCrc (sealB openB sumBytes nats nats_lt nats_len sum half hn R all hn_succ hn_lt R_lt)
set_option linter.unusedVariables false
set_option linter.unusedSimpArgs false
/-! ### which tables, and frames, are the same -/
theorem seNe (x y : Se) : ((!(x.f0.toList == y.f0.toList)) || ((!(x.f1.f0 == y.f1.f0) || (!(x.f1.f1 == y.f1.f1) || (!(x.f1.f2 == y.f1.f2) || (!(x.f1.f3.toList == y.f1.f3.toList))))))) = true ↔ x ≠ y := by
 obtain ⟨a, b, c, d, e⟩ := x
 obtain ⟨a', b', c', d', e'⟩ := y
 rw [← Bool.not_eq_false]
 refine not_congr ?_
 simp only [Bool.or_eq_false_iff, Bool.not_eq_false', beq_iff_eq, S52.mk.injEq, S23.mk.injEq, toList_inj]
theorem eqL (a b : List Se) (ha : a.length ≤ 1000000) (hl : a.length = b.length) : ∀ (d k j : Nat), j + d = a.length → d < k → ∃ r, api_Seen.l0 k a b (a.length : Int) (j : Int) = some r ∧ (r = true ↔ a.drop j = b.drop j) := by
 intro d
 induction d with
 | zero =>
  intro k j hj hk
  obtain ⟨k, rfl⟩ : ∃ m, k = m + 1 := ⟨k - 1, by omega⟩
  rw [api_Seen.l0, if_neg (by omega), List.drop_eq_nil_of_le (by omega), List.drop_eq_nil_of_le (by omega)]
  exact ⟨true, rfl, by simp⟩
 | succ d ih =>
  intro k j hj hk
  obtain ⟨k, rfl⟩ : ∃ m, k = m + 1 := ⟨k - 1, by omega⟩
  rw [api_Seen.l0, if_pos (by omega), if_pos (by omega), if_pos (by omega), if_pos (by omega), rdS_at a j (by omega), rdS_at b j (by omega)]
  have da := XGen.drop_get a j (by omega)
  have db := XGen.drop_get b j (by omega)
  by_cases c : a[j]'(by omega) = b[j]'(by omega)
  ·have hn : ¬ _ := (not_congr (seNe (a[j]'(by omega)) (b[j]'(by omega)))).2 (fun h => h c)
   rw [if_neg hn, wrap_succ j (by omega)]
   obtain ⟨r, h1, h2⟩ := ih k (j + 1) (by omega) (by omega)
   exact ⟨r, h1, by rw [h2, da, db, c, List.cons.injEq]; exact ⟨fun h => ⟨rfl, h⟩, fun h => h.2⟩⟩
  ·rw [if_pos ((seNe _ _).2 c)]
   exact ⟨false, rfl, by rw [da, db, List.cons.injEq]; exact ⟨fun h => (nomatch h), fun h => absurd h.1 c⟩⟩
theorem eq_b (k : Nat) (a b : List Se) (ha : a.length ≤ 1000000) (hk : a.length < k) : ∃ r, api_Seen.f k a b = some r ∧ (r = true ↔ a = b) := by
 unfold api_Seen.f
 by_cases c : (a.length : Int) = (b.length : Int)
 ·rw [if_pos c]
  obtain ⟨r, h1, h2⟩ := eqL a b ha (by omega) a.length k 0 (by omega) hk
  exact ⟨r, h1, by rw [h2]; simp⟩
 ·rw [if_neg c]
  exact ⟨false, rfl, by simp; intro h; rw [h] at c; exact c rfl⟩
theorem fr_ext (f g : Fr) : f = g ↔ f.f0 = g.f0 ∧ f.f1 = g.f1 ∧ f.f2 = g.f2 ∧ f.f3 = g.f3 ∧ f.f4 = g.f4 ∧ f.f5 = g.f5 ∧ f.f6 = g.f6 := by
 obtain ⟨a, b, c, d, e, i, j⟩ := f
 obtain ⟨a', b', c', d', e', i', j'⟩ := g
 simp only [S27.mk.injEq]
theorem veq (v u : S23) : (v.f0 == u.f0 && (v.f1 == u.f1 && (v.f2 == u.f2 && (v.f3.toList == u.f3.toList)))) = true ↔ v = u := by
 obtain ⟨a, b, c, d⟩ := v
 obtain ⟨a', b', c', d'⟩ := u
 simp only [Bool.and_eq_true, beq_iff_eq, S23.mk.injEq, toList_inj]
abbrev sameArgs (F : Nat → Int → Int → Bool → ByteArray → Int → Int → Int → ByteArray → Int → List Se → Int → Int → Bool → ByteArray → Int → Int → Int → ByteArray → Int → List Se → Option Bool) (k : Nat) (f g : Fr) : Option Bool :=
 F k f.f0 f.f1 f.f2 f.f3 f.f4.f0 f.f4.f1 f.f4.f2 f.f4.f3 f.f5 f.f6 g.f0 g.f1 g.f2 g.f3 g.f4.f0 g.f4.f1 g.f4.f2 g.f4.f3 g.f5 g.f6
theorem sameF_b (k : Nat) (f g : Fr) (hf : f.f6.length ≤ 1000000) (hk : f.f6.length < k) : ∃ r, sameArgs frame_Same.f k f g = some r ∧ (r = true ↔ f = g) := by
 unfold sameArgs frame_Same.f
 rw [fr_ext]
 by_cases c0 : f.f0 = g.f0
 ·by_cases c1 : f.f1 = g.f1
  ·by_cases c2 : f.f2 = g.f2
   ·by_cases c3 : f.f3 = g.f3
    ·by_cases c4 : f.f4 = g.f4
     ·by_cases c5 : f.f5 = g.f5
      ·rw [if_pos c0, if_pos c1, if_pos (by rw [c2]; simp), if_pos (by rw [c3]), if_pos ((veq _ _).2 c4), if_pos c5]
       obtain ⟨r, h1, h2⟩ := eq_b k f.f6 g.f6 hf hk
       rw [h1]
       exact ⟨r, rfl, by rw [h2]; simp [c0, c1, c2, c3, c4, c5]⟩
      ·rw [if_pos c0, if_pos c1, if_pos (by rw [c2]; simp), if_pos (by rw [c3]), if_pos ((veq _ _).2 c4), if_neg c5]
       exact ⟨false, rfl, by simp [c5]⟩
     ·rw [if_pos c0, if_pos c1, if_pos (by rw [c2]; simp), if_pos (by rw [c3]), if_neg ((not_congr (veq _ _)).2 c4)]
      exact ⟨false, rfl, by simp [c4]⟩
    ·rw [if_pos c0, if_pos c1, if_pos (by rw [c2]; simp), if_neg (fun h => c3 (toList_inj.1 h))]
     exact ⟨false, rfl, by simp [c3]⟩
   ·rw [if_pos c0, if_pos c1, if_neg (by simpa using c2)]
    exact ⟨false, rfl, by simp [c2]⟩
  ·rw [if_pos c0, if_neg c1]
   exact ⟨false, rfl, by simp [c1]⟩
 ·rw [if_neg c0]
  exact ⟨false, rfl, by simp [c0]⟩
/-! ### sums and seals -/
theorem refStepL (k : Nat) : ∀ (d j : Nat) (x : Nat), j + d = 8 → x < 4294967296 → d < k → rollcallref02_Step.l0 k (x : Int) (j : Int) = some ((hn d x : Nat) : Int) := by
 intro d
 induction d generalizing k with
 | zero =>
  intro j x hj hx hk
  obtain ⟨k, rfl⟩ : ∃ m, k = m + 1 := ⟨k - 1, by omega⟩
  rw [rollcallref02_Step.l0, if_neg (by omega)]; rfl
 | succ d ih =>
  intro j x hj hx hk
  obtain ⟨k, rfl⟩ : ∃ m, k = m + 1 := ⟨k - 1, by omega⟩
  have e1 : Int.tmod (x : Int) 2 = ((x % 2 : Nat) : Int) := by rw [Int.tmod_eq_emod_of_nonneg (by omega)]; omega
  have e2 : Int.tdiv (x : Int) 2 % 4294967296 = ((x / 2 : Nat) : Int) := by rw [Int.tdiv_eq_ediv_of_nonneg (by omega)]; omega
  rw [rollcallref02_Step.l0, if_pos (by omega), e1, e2, wrap_succ j (by omega), hn, half]
  by_cases c : x % 2 = 1
  ·have hx2 := XCrc.u32_xor (x / 2) 3988292384 (by omega) (by decide)
   rw [if_pos (by omega), if_pos c, show (3988292384 : Int) = ((3988292384 : Nat) : Int) from rfl, hx2]
   exact ih k (j + 1) _ (by omega) (Nat.xor_lt_two_pow (n := 32) (by omega) (by decide)) (by omega)
  ·rw [if_neg (by omega), if_neg c]
   exact ih k (j + 1) _ (by omega) (by omega) (by omega)
theorem refStep_b (k c b : Nat) (hc : c < 4294967296) (hb : b < 256) (hk : 20 ≤ k) : rollcallref02_Step.f k (c : Int) (b : Int) = some ((XCrc.step c b : Nat) : Int) := by
 unfold rollcallref02_Step.f XCrc.step
 rw [show (b : Int) % 4294967296 = (b : Int) by omega, XCrc.u32_xor c b hc (by omega)]
 exact refStepL k 8 0 _ (by omega) (Nat.xor_lt_two_pow (n := 32) hc (by omega)) (by omega)
theorem bt_nats (s : ByteArray) (j : Nat) (h : j < (nats s).length) : bt s (j : Int) = (((nats s)[j] : Nat) : Int) := by
 rw [bt_eq, Int.toNat_natCast]
 have h' : j < s.data.toList.length := by unfold nats at h; simpa using h
 rw [List.getD_eq_getElem?_getD, List.getElem?_eq_getElem h']
 have : (nats s)[j] = (s.data.toList[j]'h').toNat := by simp only [nats, List.getElem_map]
 rw [this]
 rfl
theorem refSumL (s : ByteArray) (hs : s.size ≤ 1000000) : ∀ (d k j : Nat), j + d = s.size → d + 30 < k → rollcallref02_Sum.l0 k s ((R all ((nats s).take j) : Nat) : Int) (j : Int) = some ((sum (nats s) : Nat) : Int) := by
 intro d
 induction d with
 | zero =>
  intro k j hj hk
  obtain ⟨k, rfl⟩ : ∃ m, k = m + 1 := ⟨k - 1, by omega⟩
  rw [rollcallref02_Sum.l0, if_neg (by omega), List.take_of_length_le (by rw [nats_len]; omega)]
  congr 1
  exact XCrc.u32_xor _ all (R_lt _ (by decide) (nats_lt s)) (by decide)
 | succ d ih =>
  intro k j hj hk
  obtain ⟨k, rfl⟩ : ∃ m, k = m + 1 := ⟨k - 1, by omega⟩
  have hl : j < (nats s).length := by rw [nats_len]; omega
  rw [rollcallref02_Sum.l0, if_pos (by omega), if_pos (by omega), bt_nats s j hl, refStep_b k _ _ (R_lt _ (by decide) (fun b h => nats_lt s b (List.mem_of_mem_take h))) (nats_lt s _ (List.getElem_mem hl)) (by omega), wrap_succ j (by omega)]
  simp only [Option.bind_some]
  have e : XCrc.step (R all ((nats s).take j)) (nats s)[j] = R all ((nats s).take (j + 1)) := by
   rw [List.take_succ_eq_append_getElem hl, XCrc.R_app]; rfl
  rw [e]
  exact ih k (j + 1) (by omega) (by omega)
theorem sealB_size (s : ByteArray) : (sealB s).size = s.size + 4 := by unfold sealB; rw [app_size, strOfNums_size]; rfl
theorem refSeal_b (k : Nat) (s : ByteArray) (hs : s.size ≤ 100000) (hk : s.size + 40 < k) : rollcallref02_Seal.f k s = some (sealB s) := by
 unfold rollcallref02_Seal.f rollcallref02_Sum.f
 have := refSumL s (by omega) s.size k 0 (by omega) (by omega)
 rw [List.take_zero] at this
 have e : ((R all [] : Nat) : Int) = 4294967295 := rfl
 rw [e] at this
 rw [show (0 : Int) = ((0 : Nat) : Int) from rfl, this]
 simp only [Option.bind_some]
 rw [if_pos (by rw [strOfNums_size]; simp; omega)]
 rfl
theorem open_seal (t : ByteArray) : openB (sealB t) = (t, 0) := by
 unfold openB
 have hz := sealB_size t
 have e : (sealB t).extract 0 ((sealB t).size - 4) = t := by
  rw [hz, Nat.add_sub_cancel]
  unfold sealB
  have := ext_mid ⟨#[]⟩ t (strOfNums (sumBytes t))
  rw [nil_app] at this
  have z : (⟨#[]⟩ : ByteArray).size = 0 := rfl
  rw [z, Nat.zero_add] at this
  exact this
 rw [if_neg (by omega), e, if_pos rfl]
theorem seal_inj {a b : ByteArray} (h : sealB a = sealB b) : a = b := by
 have h1 := open_seal a
 rw [h, open_seal b] at h1
 exact (Prod.mk.inj h1).1.symm
theorem open_ok {s : ByteArray} (h : (openB s).2 = 0) : s = sealB (openB s).1 := by
 unfold openB at h ⊢
 by_cases c : s.size < 4
 ·rw [if_pos c] at h; exact absurd h (by decide)
 ·rw [if_neg c] at h ⊢
  by_cases d : sealB (s.extract 0 (s.size - 4)) = s
  ·rw [if_pos d] at h ⊢; exact d.symm
  ·rw [if_neg d] at h; exact absurd h (by decide)
theorem open_size (s : ByteArray) : (openB s).1.size ≤ s.size := by
 unfold openB
 split
 ·exact Nat.zero_le _
 ·split
  ·show (s.extract _ _).size ≤ _; rw [ext_size]; omega
  ·exact Nat.zero_le _
/-! ### which may be, and how they are written -/
end Go.Proofs.Ytjccgdnnnlgeeaa.XFr
end

section
/- Frames as bytes, in plain functions: how they are written, sealed and opened again. -/
namespace Go.Proofs.Ytjccgdnnnlgeeaa.XFr
open Go.RowKit Go.Proofs.Ytjccgdnnnlgeeaa.PA Go.Proofs.YtjccgdnnnlgeeaaW.PrintWords Go.Proofs.YtjccgdnnnlgeeaaW.PrintLast Go.Proofs.Ytjccgdnnnlgeeaa.XVar Go.Proofs.Ytjccgdnnnlgeeaa.XBytes Go.Proofs.Ytjccgdnnnlgeeaa.XV01 Go.Proofs.Ytjccgdnnnlgeeaa.XCat Go.Proofs.Ytjccgdnnnlgeeaa.XV04
open Go.Proofs.Ytjccgdnnnlgeeaa.XPut (nameP)
open Go.Proofs.Ytjccgdnnnlgeeaa.XSum (Se kSe)
open Go.Proofs.Ytjccgdnnnlgeeaa.XIdent (isB)
open Go.Proofs.Ytjccgdnnnlgeeaa.XMay (mayB)
open Go.Proofs.Ytjccgdnnnlgeeaa.XV17 (mayT mayT_iff rowOk rdS_at)
open Go.Proofs.Ytjccgdnnnlgeeaa.XGen (wrap_succ)
open Go.Proofs.Ytjccgdnnnlgeeaa.XCrc (sealB openB sumBytes nats nats_lt nats_len)
set_option linter.unusedVariables false
set_option linter.unusedSimpArgs false
/-! ### sizes -/
theorem P_six {n : Int} (h0 : 0 ≤ n) (h1 : n ≤ 1099511627776) : (P n).size ≤ 6 := by
 rw [P_size]
 have := digs_mono 10 n 1099511627776 h0 h1 (by simp [pw])
 have e : (digs 10 1099511627776).length = 6 := by decide
 omega
theorem P_one {n : Int} (h0 : 0 ≤ n) (h1 : n ≤ 127) : (P n).size = 1 := by
 rw [P_size]
 have := digs_mono 10 n 127 h0 h1 (by simp [pw])
 have e : (digs 10 127).length = 1 := by decide
 have := digs_pos 9 n
 have e2 : (digs (9 + 1) n).length = (digs 10 n).length := rfl
 omega
theorem X_le {n : ByteArray} (h : isB n = true) : (X n).size ≤ 17 := by
 have h1 := isB_16 h
 have := P_one (n := (n.size : Int)) (by omega) (by omega)
 rw [X_size]; omega
theorem Vb_le {a b c : Int} {d : ByteArray} (h : mayB a b c d = true) : (Vb a b c d).size ≤ 41 := by
 obtain ⟨h1, h2, h3, h4, h5, h6, h7⟩ := may_nums h
 have e1 := P_six h5 h6
 have e2 := P_one (n := (d.size : Int)) (by omega) (by omega)
 rw [Vb_size]; omega
theorem tB_le {t : List Se} (h : mayT t = true) : (tB t).size ≤ 1 + 58 * t.length ∧ t.length ≤ 32 := by
 obtain ⟨h1, h2, h3⟩ := (mayT_iff t).1 h
 have e1 := P_one (n := (t.length : Int)) (by omega) (by omega)
 have e2 := cat_size (t.map rB) 58 (fun a ha => by
  obtain ⟨x, hx, rfl⟩ := List.mem_map.1 ha
  have := h2 x hx
  unfold rowOk at this
  rw [Bool.and_eq_true] at this
  have e3 := X_le this.1
  have e4 := Vb_le this.2
  rw [rB_size]; omega)
 rw [List.length_map] at e2
 unfold tB
 rw [app_size]
 omega
theorem name_le (n : ByteArray) : (nameP n).1.size ≤ 17 := by
 unfold nameP
 split
 ·rename_i h; exact X_le h
 ·exact Nat.zero_le _
theorem PV_le (a b c : Int) (d : ByteArray) : (PV a b c d).1.size ≤ 41 := by
 unfold PV
 split
 ·rename_i h; exact Vb_le h
 ·exact Nat.zero_le _
theorem body_le (f : Fr) : (bodyF f).1.size ≤ 1857 := by
 unfold bodyF putT
 split
 ·split
  ·have h1 := name_le f.f3
   have h2 := PV_le f.f4.f0 f.f4.f1 f.f4.f2 f.f4.f3
   have h3 : (⟨#[1]⟩ : ByteArray).size = 1 := rfl
   simp only [app_size]
   omega
  ·have h1 := name_le f.f3
   have h3 : (⟨#[0]⟩ : ByteArray).size = 1 := rfl
   simp only [app_size]
   omega
 ·split
  ·simp only [sum8_size]; omega
  ·split
   ·split
    ·rename_i h
     have := tB_le h
     simp only
     omega
    ·exact Nat.zero_le _
   ·exact Nat.zero_le _
theorem plain_le {f : Fr} (h0 : 0 ≤ f.f1) (h1 : f.f1 ≤ 1099511627776) : (plainF f).size ≤ 1864 := by
 unfold plainF
 rw [app_size, headF_size]
 have := body_le f
 have := P_six h0 h1
 omega
/-! ### what is written -/
theorem delta_b (k : Nat) (f : Fr) (hn : f.f3.size ≤ 9223372036854775807) (hk : 40 ≤ k) (h1 : f.f0 = 1) : frame_delta.f k f.f0 f.f1 f.f2 f.f3 f.f4.f0 f.f4.f1 f.f4.f2 f.f4.f3 f.f5 f.f6 = some (bodyF f) := by
 unfold frame_delta.f bodyF
 rw [XPut.put_n k f.f3 hn (by omega), if_pos h1]
 simp only [Option.bind_some]
 have e1 := name_le f.f3
 have e2 := PV_le f.f4.f0 f.f4.f1 f.f4.f2 f.f4.f3
 have z1 : (⟨#[1]⟩ : ByteArray).size = 1 := rfl
 by_cases c : f.f2 = true
 ·rw [if_pos c, if_pos c, XPut.put_v k _ _ _ _ (by omega)]
  simp only [Option.bind_some]
  rw [PV_eq, if_pos (by omega), if_pos (by rw [app_size]; omega)]
  cases (nameP f.f3).2 <;> simp
 ·rw [if_neg c, if_neg c, if_pos (by omega)]
theorem shr_ (n : Int) (j : Nat) (h : j ≤ 64) : shr .u64 n (j : Int) = n / 2 ^ j := by
 have := shr_small (k := .u64) (x := n) (y := (j : Int)) rfl (by show (j : Int) ≤ ((64 : Nat) : Int); omega)
 rw [← this, Int.toNat_natCast]
theorem fsum_b (k : Nat) (f : Fr) (hk : 20 ≤ k) (h2 : f.f0 = 2) : frame_sum.f k f.f0 f.f1 f.f2 f.f3 f.f4.f0 f.f4.f1 f.f4.f2 f.f4.f3 f.f5 f.f6 = some (bodyF f) := by
 obtain ⟨k, rfl⟩ : ∃ m, k = m + 9 := ⟨k - 9, by omega⟩
 unfold frame_sum.f bodyF
 rw [if_neg (by omega), if_pos h2]
 have s7 := shr_ f.f5 56 (by omega)
 have s6 := shr_ f.f5 48 (by omega)
 have s5 := shr_ f.f5 40 (by omega)
 have s4 := shr_ f.f5 32 (by omega)
 have s3 := shr_ f.f5 24 (by omega)
 have s2 := shr_ f.f5 16 (by omega)
 have s1 := shr_ f.f5 8 (by omega)
 have s0 := shr_ f.f5 0 (by omega)
 rw [frame_sum.l0, if_pos (by omega), show wrap64 (8 * 7) = ((56 : Nat) : Int) from by unfold wrap64; omega, if_pos (by omega), if_pos (by simp), s7, show wrap64 (7 - 1) = 6 from by unfold wrap64; omega]
 rw [frame_sum.l0, if_pos (by omega), show wrap64 (8 * 6) = ((48 : Nat) : Int) from by unfold wrap64; omega, if_pos (by omega), if_pos (by simp), s6, show wrap64 (6 - 1) = 5 from by unfold wrap64; omega]
 rw [frame_sum.l0, if_pos (by omega), show wrap64 (8 * 5) = ((40 : Nat) : Int) from by unfold wrap64; omega, if_pos (by omega), if_pos (by simp), s5, show wrap64 (5 - 1) = 4 from by unfold wrap64; omega]
 rw [frame_sum.l0, if_pos (by omega), show wrap64 (8 * 4) = ((32 : Nat) : Int) from by unfold wrap64; omega, if_pos (by omega), if_pos (by simp), s4, show wrap64 (4 - 1) = 3 from by unfold wrap64; omega]
 rw [frame_sum.l0, if_pos (by omega), show wrap64 (8 * 3) = ((24 : Nat) : Int) from by unfold wrap64; omega, if_pos (by omega), if_pos (by simp), s3, show wrap64 (3 - 1) = 2 from by unfold wrap64; omega]
 rw [frame_sum.l0, if_pos (by omega), show wrap64 (8 * 2) = ((16 : Nat) : Int) from by unfold wrap64; omega, if_pos (by omega), if_pos (by simp), s2, show wrap64 (2 - 1) = 1 from by unfold wrap64; omega]
 rw [frame_sum.l0, if_pos (by omega), show wrap64 (8 * 1) = ((8 : Nat) : Int) from by unfold wrap64; omega, if_pos (by omega), if_pos (by simp), s1, show wrap64 (1 - 1) = 0 from by unfold wrap64; omega]
 rw [frame_sum.l0, if_pos (by omega), show wrap64 (8 * 0) = ((0 : Nat) : Int) from by unfold wrap64; omega, if_pos (by omega), if_pos (by simp), s0, show wrap64 (0 - 1) = -1 from by unfold wrap64; omega]
 rw [frame_sum.l0, if_neg (by omega)]
 unfold sum8
 simp
theorem one_nums (x : Int) : (strOfNums [x]).size = 1 := by rw [strOfNums_size]; rfl
/-! ### what is encoded, and decoded -/
def encF (f : Fr) : ByteArray × Int := if mayF f = true then (sealB (plainF f), 0) else (⟨#[]⟩, 1)
def decF (s : ByteArray) : Fr × Int :=
 if (openB s).2 = 0 then (if (readF (openB s).1).2 = true then ((readF (openB s).1).1, 0) else (zF, 3)) else (zF, (openB s).2)
/-- What is encoded is decoded. -/
theorem dec_enc {f : Fr} (h : mayF f = true) (h5 : 0 ≤ f.f5 ∧ f.f5 < 18446744073709551616) : decF (sealB (plainF f)) = (f, 0) := by
 unfold decF
 rw [open_seal]
 simp only
 rw [if_pos trivial, (read_write h h5).1]
 simp only
 rw [if_pos trivial]
theorem enc_dec {s : ByteArray} (hs : s.size ≤ 100000) (h : (decF s).2 = 0) : mayF (decF s).1 = true ∧ sealB (plainF (decF s).1) = s ∧ 0 ≤ (decF s).1.f5 ∧ (decF s).1.f5 < 18446744073709551616 := by
 unfold decF at h ⊢
 by_cases c : (openB s).2 = 0
 ·rw [if_pos c] at h ⊢
  have ho := open_ok c
  have hz := open_size s
  by_cases r : (readF (openB s).1).2 = true
  ·rw [if_pos r]
   have h1 : readF (openB s).1 = ((readF (openB s).1).1, true) := Prod.ext rfl r
   obtain ⟨m, p, q1, q2⟩ := write_read (by omega) h1
   exact ⟨m, by simp only; rw [p]; exact ho.symm, q1, q2⟩
  ·rw [if_neg r] at h; exact absurd h (by decide)
 ·rw [if_neg c] at h; exact absurd h c
theorem dec_no {s : ByteArray} (h : (decF s).2 ≠ 0) : (decF s).1 = zF := by
 unfold decF at h ⊢
 by_cases c : (openB s).2 = 0
 ·rw [if_pos c] at h ⊢
  by_cases r : (readF (openB s).1).2 = true
  ·rw [if_pos r] at h; exact absurd rfl h
  ·rw [if_neg r]
 ·rw [if_neg c]
theorem plain_inj {f g : Fr} (hf : mayF f = true) (hg : mayF g = true) (f5 : 0 ≤ f.f5 ∧ f.f5 < 18446744073709551616) (g5 : 0 ≤ g.f5 ∧ g.f5 < 18446744073709551616) (h : plainF f = plainF g) : f = g := by
 have h1 := (read_write hf f5).1
 rw [h, (read_write hg g5).1] at h1
 exact (Prod.mk.inj h1).1.symm
/-- What the program's write finds: its bytes are a frame's just if it may be. -/
theorem write_may (f : Fr) (hr : 1 ≤ f.f0 ∧ f.f0 ≤ 4 ∧ 0 ≤ f.f1 ∧ f.f1 ≤ 1099511627776) (h5 : 0 ≤ f.f5 ∧ f.f5 < 18446744073709551616) : ((readF (plainF f)).2 = true ∧ (readF (plainF f)).1 = f) ↔ mayF f = true := by
 constructor
 ·rintro ⟨h1, h2⟩
  have hl := plain_le hr.2.2.1 hr.2.2.2
  exact (write_read (by omega) (show readF (plainF f) = (f, true) from Prod.ext h2 h1)).1
 ·intro h
  rw [(read_write h h5).1]
  exact ⟨rfl, rfl⟩
theorem may_body {f : Fr} (h : mayF f = true) : (bodyF f).2 = true ∧ 1 ≤ f.f0 ∧ f.f0 ≤ 4 ∧ 0 ≤ f.f1 ∧ f.f1 ≤ 1099511627776 := by
 obtain ⟨⟨h0, h1⟩, hk⟩ := (mayF_iff f).1 h
 refine ⟨?_, by have := mayK_kind hk; omega, by have := mayK_kind hk; omega, h0, h1⟩
 rcases mayK_kind hk with c | c | c | c
 ·obtain ⟨_, hn, hv⟩ := body1 hk c
  unfold bodyF
  rw [if_pos c]
  rcases hv with ⟨o, hv⟩ | ⟨o, hv⟩
  ·rw [if_pos o, nameP_ok hn, PV_ok hv]; rfl
  ·rw [if_neg (by rw [o]; decide), nameP_ok hn]
 ·unfold bodyF; rw [if_neg (by omega), if_pos c]
 ·have := (body3 hk c).2
  unfold bodyF putT; rw [if_neg (by omega), if_neg (by omega), if_pos c, if_pos this]
 ·unfold bodyF; rw [if_neg (by omega), if_neg (by omega), if_neg (by omega)]
end Go.Proofs.Ytjccgdnnnlgeeaa.XFr
end

section
/- More of Kn: a box that was made on the way. -/
namespace Go.Proofs.Ytjccgdnnnlgeeaa.XSt
set_option linter.unusedVariables false
set_option linter.unusedSimpArgs false
open Go.RowKit Go.Proofs.YtjccgdnnnlgeeaaW.PrintWords Go.Proofs.YtjccgdnnnlgeeaaW.PrintLast Go.Proofs.YtjccgdnnnlgeeaaW.PrintMore Go.Proofs.Ytjccgdnnnlgeeaa.XMem
variable {ok : Nat → Prop} {w0 w w1 : World} {L : List (Nat × Obj)} {u : Value} {U : Ft} {I : List Ft}
/-- A box that was made on the way. -/
theorem Kn.newAt (S : Kn ok w0 L u U I w) (hb : Below w.heap.size w w1) {p : Nat} {o : Obj} (hp : w.heap.size ≤ p) (ho : w1.heap[p]? = some o) : Kn ok w0 ((p, o) :: L) u U I w1 := by
 have S1 := S.below hb
 refine ⟨S1.bel, ?_, ?_, ?_, ?_, ?_, ?_⟩
 ·intro x hx
  rcases List.mem_cons.1 hx with rfl | hx
  ·exact ho
  ·exact S1.mem x hx
 ·intro x hx
  rcases List.mem_cons.1 hx with rfl | hx
  ·exact Nat.le_trans S.bel.size hp
  ·exact S.base x hx
 ·refine List.pairwise_cons.2 ⟨fun x hx => ?_, S.nod⟩
  have := S.lt hx
  show p ≠ x.1
  omega
 ·refine U.mono (U.step (U.bound S.own) (fun k _ hk => hb.block k hk)) (fun k hk => ⟨hk.1.1, fun x hx => ?_⟩)
  rcases List.mem_cons.1 hx with rfl | hx
  ·have := hk.2
   show k ≠ p
   omega
  ·exact hk.1.2 x hx
 ·intro k hk
  obtain ⟨h1, h2, h3⟩ := S.oob k hk
  refine ⟨fun x hx => ?_, Nat.lt_of_lt_of_le h2 hb.size, h3⟩
  rcases List.mem_cons.1 hx with rfl | hx
  ·show k ≠ p
   omega
  ·exact h1 x hx
 ·intro f hf
  refine f.mono (f.step (f.bound (S.ims f hf)) (fun k _ hk => hb.block k hk)) (fun k hk => ⟨⟨hk.1.1.1, fun x hx => ?_⟩, hk.1.2⟩)
  rcases List.mem_cons.1 hx with rfl | hx
  ·have := hk.2
   show k ≠ p
   omega
  ·exact hk.1.1.2 x hx
theorem Ft.below {f : Ft} (h : f.P w ok) (hb : Below w.heap.size w w1) : f.P w1 ok := f.step h (fun k _ hk => hb.block k hk)
theorem Ft.all {f : Ft} (h : f.P w ok) : f.P w (fun _ => True) := f.mono h (fun _ _ => trivial)
end Go.Proofs.Ytjccgdnnnlgeeaa.XSt
end

section
/- frame's kinds, and how each reads its own fields, walked. -/
namespace Go.Proofs.Ytjccgdnnnlgeeaa.XKn
open Go.RowKit Go.Proofs.YtjccgdnnnlgeeaaW.PrintWords Go.Proofs.YtjccgdnnnlgeeaaW.PrintLast Go.Proofs.YtjccgdnnnlgeeaaW.PrintMore Go.Proofs.Ytjccgdnnnlgeeaa.PA Go.Proofs.Ytjccgdnnnlgeeaa.XMem Go.Proofs.Ytjccgdnnnlgeeaa.XSt
set_option linter.unusedVariables false
set_option linter.unusedSimpArgs false
theorem ident_Take.kn {w : World} (k : Nat) {a0 : ByteArray} {a1 : Int} {r1 : ByteArray} {r2 : Int} {r3 : Int} (h : ident_Take.f k a0 a1 = some (r1, r2, r3))  :
  Calls Try.prog 63 #[.string a0, .int .i64 a1] w fun e w' => e = .returned (.tuple #[.string r1, .int .i64 r2, .int .i64 r3]) ∧ Below w.heap.size w w' := by
 refine (ident_Take.calls k a0 a1 r1 r2 r3 w h).mono ?_
 rintro e w' ⟨y0, y1⟩
 exact ⟨y0, y1⟩
theorem value_Take.kn {w : World} (k : Nat) {a0 : ByteArray} {a1 : Int} {r1 : Int} {r2 : Int} {r3 : Int} {r4 : ByteArray} {r5 : Int} {r6 : Int} (h : value_Take.f k a0 a1 = some (r1, r2, r3, r4, r5, r6))  :
  Calls Try.prog 64 #[.string a0, .int .i64 a1] w fun e w' => e = .returned (.tuple #[.agg #[.int .i64 r1, .int .i64 r2, .int .i64 r3, .string r4], .int .i64 r5, .int .i64 r6]) ∧ Below w.heap.size w w' := by
 refine (value_Take.calls k a0 a1 r1 r2 r3 r4 r5 r6 w h).mono ?_
 rintro e w' ⟨y0, y1⟩
 exact ⟨y0, y1⟩
theorem digest_May.kn {w : World} (k : Nat) {A0 : Option Addr} {c0 : Nat} {l0 : List (S52)} {r : Bool} (h : digest_May.f k l0 = some r) {Q1_ : Nat → Prop} (g1 : (V k52 (.slice A0 l0.length c0) l0).P w Q1_) :
  Calls Try.prog 65 #[.slice A0 l0.length c0] w fun e w' => e = .returned (.bool r) ∧ Below w.heap.size w w' := by
 refine (digest_May.calls k A0 c0 l0 r w (Kd.V_reads' (e := 0) (base := 0) g1).2.2 (Kd.V_reads' (e := 0) (base := 0) g1).2.1 h).mono ?_
 rintro e w' ⟨y0, y1⟩
 exact ⟨y0, y1⟩
end Go.Proofs.Ytjccgdnnnlgeeaa.XKn
namespace Go.Proofs.Ytjccgdnnnlgeeaa.XFr
open Go.RowKit Go.Proofs.YtjccgdnnnlgeeaaW.PrintWords Go.Proofs.YtjccgdnnnlgeeaaW.PrintLast Go.Proofs.YtjccgdnnnlgeeaaW.PrintMore Go.Proofs.Ytjccgdnnnlgeeaa.PA Go.Proofs.Ytjccgdnnnlgeeaa.XMem Go.Proofs.Ytjccgdnnnlgeeaa.XSt Go.Proofs.Ytjccgdnnnlgeeaa.XQuiet Go.Proofs.Ytjccgdnnnlgeeaa.XKn
open Go.Proofs.Ytjccgdnnnlgeeaa.XSum (Se kSe put_calls)
open Go.Proofs.Ytjccgdnnnlgeeaa.XV17 (mayT digMayT_b)
open Go.Proofs.Ytjccgdnnnlgeeaa.XV01 (G)
open Go.Proofs.Ytjccgdnnnlgeeaa.XV04 (VT take_v)
set_option linter.unusedVariables false
set_option linter.unusedSimpArgs false
set_option maxRecDepth 100000
abbrev nf : Value := .nilFunc
abbrev fu (n : Nat) : Value := .func (.func n) #[] #[]
abbrev kindsV : Array Value := #[nf, nf, fu 49, fu 50, fu 51, fu 52, fu 53, fu 55, fu 57, fu 58]
abbrev TFr : Nat := 27
theorem kSe_heap : Kd.Heap kSe := ⟨fun _ hK => by obtain rfl := k52_open hK; exact k52_mk _ _⟩
abbrev cF (f : Fr) (v : Value) : Array Value := #[.int .i64 f.f0, .int .i64 f.f1, .bool f.f2, .string f.f3, .int .i64 f.f4.f0, .int .i64 f.f4.f1, .int .i64 f.f4.f2, .string f.f4.f3, .int .u64 f.f5, v]

set_option maxHeartbeats 4000000 in
theorem kinds_go (ok : Nat → Prop) (w0 w : World) (S : Kn ok w0 [] nil tt [] w) : Calls Try.prog 38 #[] w fun e w' => e = .returned (.agg kindsV) ∧ Below w0.heap.size w0 w' := by
 go_enter Try.func38, Try.ntmps38
 go_upto_region 1 with (fail)
 generalize hg : World.alloc _ _ = w1
 replace S := S.new hg
 clear hg
 generalize w.heap.size = p0 at S ⊢
 replace S : Kn ok w0 [(p0, .cells #[.nilFunc, .nilFunc, .nilFunc, .nilFunc, .nilFunc, .nilFunc, .nilFunc, .nilFunc, .nilFunc, .nilFunc] 65 (0, 0))] nil tt [] w1 := S
 have r_0 : w1.cell? ⟨p0, 0, none⟩ = some .nilFunc := S.cell 0 0 rfl rfl
 have zr_0 : w1.frozen? ⟨p0, 0, none⟩ = false := S.frozen 0 0 rfl
 have r_1 : w1.cell? ⟨p0, 1, none⟩ = some .nilFunc := S.cell 0 1 rfl rfl
 have zr_1 : w1.frozen? ⟨p0, 1, none⟩ = false := S.frozen 0 1 rfl
 have r_2 : w1.cell? ⟨p0, 2, none⟩ = some .nilFunc := S.cell 0 2 rfl rfl
 have zr_2 : w1.frozen? ⟨p0, 2, none⟩ = false := S.frozen 0 2 rfl
 have r_3 : w1.cell? ⟨p0, 3, none⟩ = some .nilFunc := S.cell 0 3 rfl rfl
 have zr_3 : w1.frozen? ⟨p0, 3, none⟩ = false := S.frozen 0 3 rfl
 have r_4 : w1.cell? ⟨p0, 4, none⟩ = some .nilFunc := S.cell 0 4 rfl rfl
 have zr_4 : w1.frozen? ⟨p0, 4, none⟩ = false := S.frozen 0 4 rfl
 have r_5 : w1.cell? ⟨p0, 5, none⟩ = some .nilFunc := S.cell 0 5 rfl rfl
 have zr_5 : w1.frozen? ⟨p0, 5, none⟩ = false := S.frozen 0 5 rfl
 have r_6 : w1.cell? ⟨p0, 6, none⟩ = some .nilFunc := S.cell 0 6 rfl rfl
 have zr_6 : w1.frozen? ⟨p0, 6, none⟩ = false := S.frozen 0 6 rfl
 have r_7 : w1.cell? ⟨p0, 7, none⟩ = some .nilFunc := S.cell 0 7 rfl rfl
 have zr_7 : w1.frozen? ⟨p0, 7, none⟩ = false := S.frozen 0 7 rfl
 have r_8 : w1.cell? ⟨p0, 8, none⟩ = some .nilFunc := S.cell 0 8 rfl rfl
 have zr_8 : w1.frozen? ⟨p0, 8, none⟩ = false := S.frozen 0 8 rfl
 have r_9 : w1.cell? ⟨p0, 9, none⟩ = some .nilFunc := S.cell 0 9 rfl rfl
 have zr_9 : w1.frozen? ⟨p0, 9, none⟩ = false := S.frozen 0 9 rfl
 go_wp2
 clear r_0 zr_0 r_1 zr_1 r_2 zr_2 r_3 zr_3 r_4 zr_4 r_5 zr_5 r_6 zr_6 r_7 zr_7 r_8 zr_8 r_9 zr_9
 generalize hg : World.setCell w1 ⟨p0, 0, none⟩ _ = w2
 replace S := S.set 0 hg rfl
 clear hg
 generalize hg : World.setCell w2 ⟨p0, 1, none⟩ _ = w3
 replace S := S.set 0 hg rfl
 clear hg
 generalize hg : World.setCell w3 ⟨p0, 2, none⟩ _ = w4
 replace S := S.set 0 hg rfl
 clear hg
 generalize hg : World.setCell w4 ⟨p0, 3, none⟩ _ = w5
 replace S := S.set 0 hg rfl
 clear hg
 generalize hg : World.setCell w5 ⟨p0, 4, none⟩ _ = w6
 replace S := S.set 0 hg rfl
 clear hg
 generalize hg : World.setCell w6 ⟨p0, 5, none⟩ _ = w7
 replace S := S.set 0 hg rfl
 clear hg
 generalize hg : World.setCell w7 ⟨p0, 6, none⟩ _ = w8
 replace S := S.set 0 hg rfl
 clear hg
 generalize hg : World.setCell w8 ⟨p0, 7, none⟩ _ = w9
 replace S := S.set 0 hg rfl
 clear hg
 generalize hg : World.setCell w9 ⟨p0, 8, none⟩ _ = w10
 replace S := S.set 0 hg rfl
 clear hg
 generalize hg : World.setCell w10 ⟨p0, 9, none⟩ _ = w11
 replace S := S.set 0 hg rfl
 clear hg
 replace S : Kn ok w0 [(p0, .cells #[nf, nf, fu 49, fu 50, fu 51, fu 52, fu 53, fu 55, fu 57, fu 58] 65 (0, 0))] nil tt [] w11 := S
 have b6 := S.get 0 rfl
 have hBe := S.bel
 clear S
 refine bodyPost_ret (results_cell_row rfl _ _ p0 65 kindsV (0, 0) _ rfl b6 Try.underlying65 rfl (by kernel_rfl)) rfl ?_
 exact ⟨rfl, hBe⟩
theorem kinds_calls (w : World) : Calls Try.prog 38 #[] w fun e w' => e = .returned (.agg kindsV) ∧ Below w.heap.size w w' := kinds_go (fun _ => True) w w (Kn.start _ w)
theorem put06 (l : List Se) (hl : l.length ≤ 40) (hz : ∀ x ∈ l, x.f0.size ≤ 9223372036854775807) (w : World) (v : Value) (h : Im kSe w v l) :
  Calls Try.prog 54 #[v] w fun e w' => e = .returned (.tuple #[.string (putT l).1, .bool (putT l).2]) ∧ Below w.heap.size w w' := by
 have hm := digMayT_b 100 l (by omega) hz (by omega)
 unfold putT
 by_cases c : mayT l = true
 ·rw [if_pos c]
  rw [c] at hm
  have := put_calls 100 l hl hm hz w v h
  rw [tB_ok c] at this
  exact this
 ·rw [if_neg c]
  rw [Bool.eq_false_iff.mpr c] at hm
  obtain ⟨A, cc, rfl, hc, hC⟩ := Im.slice h
  have HC := Aside0.mk (fun w' hb => digest_May.kn (w := w') 100 hm (Ft.below (f := V kSe (.slice A l.length cc) l) h hb))
  clear h hC hc hm c
  go_enter Try.func54, Try.ntmps54
  go_wp2_with (go_at_call 65; refine (HC.out _ (Below.refl _ _)).mono ?_; rintro e w1 ⟨rfl, hb⟩)
  go_ret2
  exact ⟨rfl, hb⟩

set_option maxHeartbeats 4000000 in
theorem rd4 (ok : Nat → Prop) (f : Fr) (v : Value) (p : Nat) (s : ByteArray) (at_ : Int) (hs : s.size ≤ 100000) (h0 : 0 ≤ at_) (h1 : at_ ≤ s.size) (L : List (Nat × Obj)) (u : Value) (U : Ft) (I : List Ft) (w0 w : World) (S : Kn ok w0 ((p, .cells (cF f v) TFr (0, 0)) :: L) u U I w) :
  Calls Try.prog 58 #[.pointer (some ⟨p, 0, none⟩), .string s, .int .i64 at_] w fun e w' => e = .returned (.tuple #[.int .i64 at_, .bool true]) ∧ Kn ok w0 ((p, .cells (cF f v) TFr (0, 0)) :: L) u U I w' := by
 go_enter Try.func58, Try.ntmps58
 go_wp2
 go_ret2
 exact ⟨rfl, S⟩
set_option maxHeartbeats 4000000 in
theorem rd1 (ok : Nat → Prop) (f : Fr) (v : Value) (p : Nat) (s : ByteArray) (at_ : Int) (hs : s.size ≤ 100000) (h0 : 0 ≤ at_) (h1 : at_ ≤ s.size) (L : List (Nat × Obj)) (u : Value) (U : Ft) (I : List Ft) (w0 w : World) (S : Kn ok w0 ((p, .cells (cF f v) TFr (0, 0)) :: L) u U I w) :
  Calls Try.prog 50 #[.pointer (some ⟨p, 0, none⟩), .string s, .int .i64 at_] w fun e w' => e = .returned (.tuple #[.int .i64 (rdDelta f s at_).2.1, .bool (rdDelta f s at_).2.2]) ∧ Kn ok w0 ((p, .cells (cF (rdDelta f s at_).1 v) TFr (0, 0)) :: L) u U I w' := by
 unfold rdDelta
 have h10 : ∀ h : 0 < (⟨#[1]⟩ : ByteArray).size, (((⟨#[1]⟩ : ByteArray)[0]'h).toNat : Int) = 1 := fun _ => rfl
 have hx := bt_at s at_
 have hw : IntKind.i64.wrap (at_ + 1) = at_ + 1 := by rw [IntKind.wrap_i64]; omega
 by_cases c1 : at_ = s.size
 ·rw [if_pos (Or.inl c1)]
  have c1b : (at_ == (s.size : Int)) = true := by rw [c1]; simp
  clear c1
  go_enter Try.func50, Try.ntmps50
  go_wp2_with fail
  refine region_kin (by kernel_rfl) (by kernel_rfl) ?_
  repeat (go_big_quiet_step (fail))
  refine wpQuiet_nil ?_
  rintro w1 ⟨⟨_, hb⟩, rfl⟩
  replace S := S.below hb
  clear hb
  go_wp2
  go_ret2
  exact ⟨rfl, S⟩
 have c1b : (at_ == (s.size : Int)) = false := by simp; exact c1
 have c2 : at_ < (s.size : Int) := by omega
 by_cases c3 : bt s at_ > 1
 ·rw [if_pos (Or.inr c3)]
  have c3b : decide (bt s at_ > 1) = true := decide_eq_true c3
  have c3c : decide (1 < bt s at_) = true := decide_eq_true c3
  clear c3
  go_enter Try.func50, Try.ntmps50
  go_wp2_with fail
  refine region_kin (by kernel_rfl) (by kernel_rfl) ?_
  repeat (go_big_quiet_step (fail))
  refine wpQuiet_nil ?_
  rintro w1 ⟨⟨_, hb⟩, rfl⟩
  replace S := S.below hb
  clear hb
  go_wp2
  go_ret2
  exact ⟨rfl, S⟩
 rw [if_neg (by omega)]
 have c3b : decide (bt s at_ > 1) = false := decide_eq_false c3
 have c3c : decide (1 < bt s at_) = false := decide_eq_false c3
 have HI := Aside0.mk (it_f 100 s (at_ + 1) (by omega) (by omega))
 have HT := Aside0.mk (IT_shape s (at_ + 1) (by omega))
 generalize hit : IT s (at_ + 1) = r at HI HT ⊢
 clear hit
 obtain ⟨r1, r2, r3⟩ := r
 dsimp only at HI HT ⊢
 obtain ⟨on, hon⟩ : ∃ on : Bool, on = decide (bt s at_ = 1) := ⟨_, rfl⟩
 have hbb : (bt s at_ == 1) = on := by rw [hon]; rfl
 have hbd : decide (bt s at_ = 1) = on := hon.symm
 have hbi : bt s at_ = 1 ↔ on = true := by rw [hon, decide_eq_true_iff]
 rw [hbd]
 simp only [hbi]
 have HB := Aside0.mk hbi
 clear hbd hbi hon c3
 by_cases e0 : r3 = 0
 ·subst e0
  cases on with
  | true =>
   rw [if_pos ⟨rfl, rfl⟩]
   have hr2 : r2 ≤ s.size := by rcases HT.out with ⟨e, h, he⟩ | ⟨n, q, h, _, _, _, hq, _⟩ <;> (simp only [Prod.mk.injEq] at h; omega)
   have hr0 : 0 ≤ r2 := by rcases HT.out with ⟨e, h, he⟩ | ⟨n, q, h, _, h0', h1', hq, _⟩ <;> (simp only [Prod.mk.injEq] at h; omega)
   have HV := Aside0.mk (take_v 100 s r2 (by omega) (by omega) (by omega))
   generalize VT s r2 = q at HV ⊢
   obtain ⟨q1, q2, q3, q4, q5, q6⟩ := q
   dsimp only at HV ⊢
   clear HT hr2 hr0
   have hq6 : (q6 == 0) = decide (q6 = 0) := rfl
   go_enter Try.func50, Try.ntmps50
   go_wp2_with fail
   refine region_kin (by kernel_rfl) (by kernel_rfl) ?_
   repeat (go_big_quiet_step (fail))
   refine wpQuiet_nil ?_
   rintro w1 ⟨⟨_, hb⟩, rfl⟩
   replace S := S.below hb
   clear hb
   go_wp2_with fail
   go_still_tail 8, (by kernel_rfl)
   change wpList _ _ _ _ _ w1.drew
   have hb : Below w1.heap.size w1 w1.drew := below_drew1 (Below.refl _ _)
   generalize w1.drew = w2 at hb ⊢
   replace S := S.below hb
   clear hb
   have f_2 : w2.cell? ⟨p, 2, none⟩ = some (.bool f.f2) := S.cell 0 2 rfl rfl
   have zf_2 : w2.frozen? ⟨p, 2, none⟩ = false := S.frozen 0 2 rfl
   go_upto_region 4 with (fail)
   clear f_2 zf_2
   generalize hg : World.setCell w2 ⟨p, 2, none⟩ _ = w3
   replace S := S.set 0 hg rfl
   clear hg
   replace S : Kn ok w0 ((p, .cells #[.int .i64 f.f0, .int .i64 f.f1, .bool true, .string f.f3, .int .i64 f.f4.f0, .int .i64 f.f4.f1, .int .i64 f.f4.f2, .string f.f4.f3, .int .u64 f.f5, v] TFr (0, 0)) :: L) u U (I) w3 := S
   go_wp2_with fail
   refine (ident_Take.kn 100 HI.out).mono ?_
   rintro e w4 ⟨rfl, hb⟩
   replace S := S.below hb
   clear hb HI
   have f_3 : w4.cell? ⟨p, 3, none⟩ = some (.string f.f3) := S.cell 0 3 rfl rfl
   have zf_3 : w4.frozen? ⟨p, 3, none⟩ = false := S.frozen 0 3 rfl
   go_upto_region 6 with (fail)
   clear f_3 zf_3
   generalize hg : World.setCell w4 ⟨p, 3, none⟩ _ = w5
   replace S := S.set 0 hg rfl
   clear hg
   replace S : Kn ok w0 ((p, .cells #[.int .i64 f.f0, .int .i64 f.f1, .bool true, .string r1, .int .i64 f.f4.f0, .int .i64 f.f4.f1, .int .i64 f.f4.f2, .string f.f4.f3, .int .u64 f.f5, v] TFr (0, 0)) :: L) u U (I) w5 := S
   have f_2 : w5.cell? ⟨p, 2, none⟩ = some (.bool true) := S.cell 0 2 rfl rfl
   go_upto_region 8 with (fail)
   clear f_2
   have f_4 : w5.cell? ⟨p, 4, none⟩ = some (.int .i64 f.f4.f0) := S.cell 0 4 rfl rfl
   have zf_4 : w5.frozen? ⟨p, 4, none⟩ = false := S.frozen 0 4 rfl
   have f_5 : w5.cell? ⟨p, 5, none⟩ = some (.int .i64 f.f4.f1) := S.cell 0 5 rfl rfl
   have zf_5 : w5.frozen? ⟨p, 5, none⟩ = false := S.frozen 0 5 rfl
   have f_6 : w5.cell? ⟨p, 6, none⟩ = some (.int .i64 f.f4.f2) := S.cell 0 6 rfl rfl
   have zf_6 : w5.frozen? ⟨p, 6, none⟩ = false := S.frozen 0 6 rfl
   have f_7 : w5.cell? ⟨p, 7, none⟩ = some (.string f.f4.f3) := S.cell 0 7 rfl rfl
   have zf_7 : w5.frozen? ⟨p, 7, none⟩ = false := S.frozen 0 7 rfl
   go_wp2_with fail
   refine (value_Take.kn 100 HV.out).mono ?_
   rintro e w6 ⟨rfl, hb⟩
   replace S := S.below hb
   clear f_4 zf_4 f_5 zf_5 f_6 zf_6 f_7 zf_7 hb HV
   have f_4 : w6.cell? ⟨p, 4, none⟩ = some (.int .i64 f.f4.f0) := S.cell 0 4 rfl rfl
   have zf_4 : w6.frozen? ⟨p, 4, none⟩ = false := S.frozen 0 4 rfl
   have f_5 : w6.cell? ⟨p, 5, none⟩ = some (.int .i64 f.f4.f1) := S.cell 0 5 rfl rfl
   have zf_5 : w6.frozen? ⟨p, 5, none⟩ = false := S.frozen 0 5 rfl
   have f_6 : w6.cell? ⟨p, 6, none⟩ = some (.int .i64 f.f4.f2) := S.cell 0 6 rfl rfl
   have zf_6 : w6.frozen? ⟨p, 6, none⟩ = false := S.frozen 0 6 rfl
   have f_7 : w6.cell? ⟨p, 7, none⟩ = some (.string f.f4.f3) := S.cell 0 7 rfl rfl
   have zf_7 : w6.frozen? ⟨p, 7, none⟩ = false := S.frozen 0 7 rfl
   go_upto_region 9 with (fail)
   clear f_4 zf_4 f_5 zf_5 f_6 zf_6 f_7 zf_7
   generalize hg : World.setCell w6 ⟨p, 4, none⟩ _ = w7
   replace S := S.set 0 hg rfl
   clear hg
   generalize hg : World.setCell w7 ⟨p, 5, none⟩ _ = w8
   replace S := S.set 0 hg rfl
   clear hg
   generalize hg : World.setCell w8 ⟨p, 6, none⟩ _ = w9
   replace S := S.set 0 hg rfl
   clear hg
   generalize hg : World.setCell w9 ⟨p, 7, none⟩ _ = w10
   replace S := S.set 0 hg rfl
   clear hg
   replace S : Kn ok w0 ((p, .cells #[.int .i64 f.f0, .int .i64 f.f1, .bool true, .string r1, .int .i64 q1, .int .i64 q2, .int .i64 q3, .string q4, .int .u64 f.f5, v] TFr (0, 0)) :: L) u U (I) w10 := S
   go_wp2
   go_ret2
   exact ⟨rfl, S⟩
  | false =>
   rw [if_neg (by decide)]
   clear HT
   go_enter Try.func50, Try.ntmps50
   go_wp2_with fail
   refine region_kin (by kernel_rfl) (by kernel_rfl) ?_
   repeat (go_big_quiet_step (fail))
   refine wpQuiet_nil ?_
   rintro w1 ⟨⟨_, hb⟩, rfl⟩
   replace S := S.below hb
   clear hb
   go_wp2_with fail
   go_still_tail 8, (by kernel_rfl)
   change wpList _ _ _ _ _ w1.drew
   have hb : Below w1.heap.size w1 w1.drew := below_drew1 (Below.refl _ _)
   generalize w1.drew = w2 at hb ⊢
   replace S := S.below hb
   clear hb
   have f_2 : w2.cell? ⟨p, 2, none⟩ = some (.bool f.f2) := S.cell 0 2 rfl rfl
   have zf_2 : w2.frozen? ⟨p, 2, none⟩ = false := S.frozen 0 2 rfl
   go_upto_region 4 with (fail)
   clear f_2 zf_2
   generalize hg : World.setCell w2 ⟨p, 2, none⟩ _ = w3
   replace S := S.set 0 hg rfl
   clear hg
   replace S : Kn ok w0 ((p, .cells #[.int .i64 f.f0, .int .i64 f.f1, .bool false, .string f.f3, .int .i64 f.f4.f0, .int .i64 f.f4.f1, .int .i64 f.f4.f2, .string f.f4.f3, .int .u64 f.f5, v] TFr (0, 0)) :: L) u U (I) w3 := S
   go_wp2_with fail
   refine (ident_Take.kn 100 HI.out).mono ?_
   rintro e w4 ⟨rfl, hb⟩
   replace S := S.below hb
   clear hb HI
   have f_3 : w4.cell? ⟨p, 3, none⟩ = some (.string f.f3) := S.cell 0 3 rfl rfl
   have zf_3 : w4.frozen? ⟨p, 3, none⟩ = false := S.frozen 0 3 rfl
   go_upto_region 6 with (fail)
   clear f_3 zf_3
   generalize hg : World.setCell w4 ⟨p, 3, none⟩ _ = w5
   replace S := S.set 0 hg rfl
   clear hg
   replace S : Kn ok w0 ((p, .cells #[.int .i64 f.f0, .int .i64 f.f1, .bool false, .string r1, .int .i64 f.f4.f0, .int .i64 f.f4.f1, .int .i64 f.f4.f2, .string f.f4.f3, .int .u64 f.f5, v] TFr (0, 0)) :: L) u U (I) w5 := S
   have f_2 : w5.cell? ⟨p, 2, none⟩ = some (.bool false) := S.cell 0 2 rfl rfl
   go_wp2
   go_ret2
   exact ⟨rfl, S⟩
 ·have e1 : (r3 != 0) = true := bne_iff_ne.mpr e0
  have e2 : (r3 == 0) = false := beq_eq_false_iff_ne.mpr e0
  rw [if_neg (fun h => e0 h.1), decide_eq_false e0]
  clear HT
  go_enter Try.func50, Try.ntmps50
  go_wp2_with fail
  refine region_kin (by kernel_rfl) (by kernel_rfl) ?_
  repeat (go_big_quiet_step (fail))
  refine wpQuiet_nil ?_
  rintro w1 ⟨⟨_, hb⟩, rfl⟩
  replace S := S.below hb
  clear hb
  go_wp2_with fail
  go_still_tail 8, (by kernel_rfl)
  change wpList _ _ _ _ _ w1.drew
  have hb : Below w1.heap.size w1 w1.drew := below_drew1 (Below.refl _ _)
  generalize w1.drew = w2 at hb ⊢
  replace S := S.below hb
  clear hb
  have f_2 : w2.cell? ⟨p, 2, none⟩ = some (.bool f.f2) := S.cell 0 2 rfl rfl
  have zf_2 : w2.frozen? ⟨p, 2, none⟩ = false := S.frozen 0 2 rfl
  go_upto_region 4 with (fail)
  clear f_2 zf_2
  generalize hg : World.setCell w2 ⟨p, 2, none⟩ _ = w3
  replace S := S.set 0 hg rfl
  clear hg
  replace S : Kn ok w0 ((p, .cells #[.int .i64 f.f0, .int .i64 f.f1, .bool on, .string f.f3, .int .i64 f.f4.f0, .int .i64 f.f4.f1, .int .i64 f.f4.f2, .string f.f4.f3, .int .u64 f.f5, v] TFr (0, 0)) :: L) u U (I) w3 := S
  go_wp2_with fail
  refine (ident_Take.kn 100 HI.out).mono ?_
  rintro e w4 ⟨rfl, hb⟩
  replace S := S.below hb
  clear hb HI
  have f_3 : w4.cell? ⟨p, 3, none⟩ = some (.string f.f3) := S.cell 0 3 rfl rfl
  have zf_3 : w4.frozen? ⟨p, 3, none⟩ = false := S.frozen 0 3 rfl
  go_upto_region 6 with (fail)
  clear f_3 zf_3
  generalize hg : World.setCell w4 ⟨p, 3, none⟩ _ = w5
  replace S := S.set 0 hg rfl
  clear hg
  replace S : Kn ok w0 ((p, .cells #[.int .i64 f.f0, .int .i64 f.f1, .bool on, .string r1, .int .i64 f.f4.f0, .int .i64 f.f4.f1, .int .i64 f.f4.f2, .string f.f4.f3, .int .u64 f.f5, v] TFr (0, 0)) :: L) u U (I) w5 := S
  have f_2 : w5.cell? ⟨p, 2, none⟩ = some (.bool on) := S.cell 0 2 rfl rfl
  go_wp2
  go_ret2
  exact ⟨rfl, S⟩
theorem bytes_block (w : World) (s : ByteArray) (hs : s.size ≤ 9223372036854775807) : ∃ o, (Lib.bytesWorld w 5 s).heap[w.heap.size]? = some o ∧ ∀ w' : World, w'.heap[w.heap.size]? = some o → ∀ j, j < s.size → w'.cell? ⟨w.heap.size, j, none⟩ = some (.int .u8 (bt s (j : Int))) := by
 refine ⟨_, Lib.bytesWorld_at_new w 5 s, fun w' hw' j hj => ?_⟩
 have h1 := Lib.bytesWorld_cell w 5 s j hj
 have h2 := Lib.bytesWorld_at_new w 5 s
 simp only [World.cell?, h2] at h1
 simp only [World.cell?, hw']
 rw [h1]
 have hj' : j < s.data.toList.length := by rw [data_length]; exact hj
 rw [XBytes.bt_eq, Int.toNat_natCast]
theorem or8 (h b : Int) (h0 : 0 ≤ h) (h1 : h < 72057594037927936) (b0 : 0 ≤ b) (b1 : b ≤ 255) : Go.bits .or .u64 (IntKind.u64.wrap (h * 256)) (IntKind.u64.wrap b) = 256 * h + b := by
 rw [XVar.wrap_u64 _ (by omega) (by omega), XVar.wrap_u64 _ (by omega) (by omega)]
 obtain ⟨x, rfl⟩ := Int.eq_ofNat_of_zero_le h0
 obtain ⟨y, rfl⟩ := Int.eq_ofNat_of_zero_le b0
 rw [show ((x : Int) * 256) = ((x * 256 : Nat) : Int) by omega, u64_or_nat (x * 256) y (by omega) (by omega), nat_join 8 _ _ (by omega) (by omega)]
 omega
theorem num8_range (s : ByteArray) (p : Int) : ∀ i : Nat, i ≤ 8 → 0 ≤ num8 s p i ∧ num8 s p i < 256 ^ i
 | 0, _ => by simp [num8]
 | i + 1, hi => by
  have h1 := num8_range s p i (by omega)
  have h2 := bt_range s (p + i)
  rw [num8, Int.pow_succ]
  omega
set_option maxHeartbeats 4000000 in
theorem rd2 (ok : Nat → Prop) (f : Fr) (v : Value) (p : Nat) (s : ByteArray) (at_ : Int) (hs : s.size ≤ 100000) (h0 : 0 ≤ at_) (h1 : at_ ≤ s.size) (L : List (Nat × Obj)) (u : Value) (U : Ft) (I : List Ft) (w0 w : World) (S : Kn ok w0 ((p, .cells (cF f v) TFr (0, 0)) :: L) u U I w) (hf5 : f.f5 = 0) :
  Calls Try.prog 52 #[.pointer (some ⟨p, 0, none⟩), .string s, .int .i64 at_] w fun e w' => e = .returned (.tuple #[.int .i64 (if (s.size : Int) - at_ < 8 then (0 : Int) else at_ + 8), .bool (if (s.size : Int) - at_ < 8 then false else true)]) ∧ Kn ok w0 ((p, .cells (cF (if (s.size : Int) - at_ < 8 then f else ⟨f.f0, f.f1, f.f2, f.f3, f.f4, num8 s at_ 8, f.f6⟩) v) TFr (0, 0)) :: L) u U I w' := by
 have hw : IntKind.i64.wrap ((s.size : Int) - at_) = s.size - at_ := by rw [IntKind.wrap_i64]; omega
 have hw2 : IntKind.i64.wrap (at_ + 8) = at_ + 8 := by rw [IntKind.wrap_i64]; omega
 by_cases c : (s.size : Int) - at_ < 8
 ·simp only [if_pos c]
  go_enter Try.func52, Try.ntmps52
  go_wp2
  go_ret2
  exact ⟨rfl, S⟩
 simp only [if_neg c]
 have h8 : at_ + 8 ≤ s.size := by omega
 have h80 : (0 : Int) ≤ at_ + 8 := by omega
 have h81 : at_ ≤ at_ + 8 := by omega
 have hz : (s.extract at_.toNat (at_ + 8).toNat).size = 8 := by rw [XBytes.ext_size]; omega
 have hbt : ∀ j : Nat, j < 8 → bt (s.extract at_.toNat (at_ + 8).toNat) (j : Int) = bt s (at_ + j) := fun j hj => by rw [XBytes.bt_ext s _ _ _ (by omega) (by omega)]; congr 1; omega
 have kb := print_bytes (P := Try.prog) 9 40 5 Try.underlying9 Try.underlying40 Try.underlying5 (s.extract at_.toNat (at_ + 8).toNat) w
 obtain ⟨o, ho1, ho2⟩ := bytes_block w (s.extract at_.toNat (at_ + 8).toNat) (by omega)
 have hbb := bytes_below (Below.refl _ w) (Nat.le_refl _) 5 (s.extract at_.toNat (at_ + 8).toNat)
 rw [hz] at kb ho2
 have HO := Aside0.mk (fun (w' : World) (h : w'.heap[w.heap.size]? = some o) (j : Nat) (hj : j < 8) => (hbt j hj) ▸ ho2 w' h j hj)
 clear ho2 hbt hz
 generalize Lib.bytesWorld w 5 (s.extract at_.toNat (at_ + 8).toNat) = W at kb ho1 hbb
 generalize grownCap w 8 0 5 = cp at kb
 replace S := S.newAt hbb (Nat.le_refl _) ho1
 generalize w.heap.size = g at kb S HO
 clear ho1 hbb
 have HR := Aside0.mk (num8_range s at_)
 have HS := Aside0.mk S
 clear S
 go_enter Try.func52, Try.ntmps52
 go_wp2
 go_loopw [9, 22] (fun b x wr => ∃ i : Nat, x = .int .i64 i ∧ i ≤ 8 ∧ Aside0 (Kn ok w0 ((g, o) :: (p, .cells #[.int .i64 f.f0, .int .i64 f.f1, .bool f.f2, .string f.f3, .int .i64 f.f4.f0, .int .i64 f.f4.f1, .int .i64 f.f4.f2, .string f.f4.f3, .int .u64 (num8 s at_ i), v] TFr (0, 0)) :: L) u U I wr)) (fun _ x _ => 8 - (intOf x).toNat)
 case atStart =>
  have S := HS.out
  rw [show cF f v = #[.int .i64 f.f0, .int .i64 f.f1, .bool f.f2, .string f.f3, .int .i64 f.f4.f0, .int .i64 f.f4.f1, .int .i64 f.f4.f2, .string f.f4.f3, .int .u64 (num8 s at_ 0), v] from by show _ = _; unfold cF; rw [hf5]; rfl] at S
  exact ⟨0, rfl, Nat.zero_le _, ⟨S⟩⟩
 case round =>
  clear HS
  obtain ⟨i, rfl, hi, hA⟩ := hrel
  have S := hA.out
  clear hA
  by_cases hlt : i < 8
  ·have k2 : (i : Int) < 8 := by omega
   have k0 : (0 : Int) ≤ (i : Int) := by omega
   have hc := HO.out wr (S.get 0 rfl) i hlt
   have hr := HR.out i hi
   have hp7 : (256 : Int) ^ i ≤ 72057594037927936 := by rcases (by omega : i = 0 ∨ i = 1 ∨ i = 2 ∨ i = 3 ∨ i = 4 ∨ i = 5 ∨ i = 6 ∨ i = 7) with h | h | h | h | h | h | h | h <;> (rw [h]; decide)
   have hbr := bt_range s (at_ + i)
   have HST := Aside0.mk (or8 (num8 s at_ i) (bt s (at_ + i)) (by omega) (by omega) (by omega) (by omega))
   have hnx : num8 s at_ (i + 1) = 256 * num8 s at_ i + bt s (at_ + i) := rfl
   rw [← hnx] at HST
   clear hnx hr hp7 hbr
   have f_8 : wr.cell? ⟨p, 8, none⟩ = some (.int .u64 (num8 s at_ i)) := S.cell 1 8 rfl rfl
   have zf_8 : wr.frozen? ⟨p, 8, none⟩ = false := S.frozen 1 8 rfl
   generalize bt s (at_ + i) = bb at HST hc
   skip
   go_wp2_with fail
   rw [HST.out]
   clear f_8 zf_8
   generalize hg : World.setCell wr ⟨p, 8, none⟩ _ = w1
   replace S := S.set 1 hg rfl
   clear hg
   replace S : Kn ok w0 ((g, o) :: (p, .cells #[.int .i64 f.f0, .int .i64 f.f1, .bool f.f2, .string f.f3, .int .i64 f.f4.f0, .int .i64 f.f4.f1, .int .i64 f.f4.f2, .string f.f4.f3, .int .u64 (num8 s at_ (i + 1)), v] TFr (0, 0)) :: L) u U (I) w1 := S
   go_roundw
   case rel => exact ⟨i + 1, by go_num, by omega, ⟨S⟩⟩
   case measure => simp [intOf]; omega
  ·obtain rfl : i = 8 := by omega
   have S2 := S.pop 1
   clear S
   go_wp2
   go_ret2
   exact ⟨rfl, S2⟩
theorem get_calls (s : ByteArray) (p : Int) (hs : s.size ≤ 140737488351232) (w : World) : Calls Try.prog 42 #[.string s, .int .i64 p] w fun e w' => e = .returned (.tuple #[.int .u64 (G s p).1, .int .i64 (G s p).2.1, .int .i64 (G s p).2.2]) ∧ Below w.heap.size w w' := by
 refine (varint_Get.calls s p _ _ _ w (XV01.get_f s p hs)).mono ?_
 rintro e w' ⟨rfl, hw⟩
 exact ⟨rfl, by first | exact hw | (obtain rfl := hw; exact Below.refl _ _) | exact hw.below | (obtain ⟨nd, rfl⟩ := hw; exact pw_below_drewN (Below.refl _ _) nd)⟩
set_option maxHeartbeats 8000000 in
theorem take_go (ok : Nat → Prop) (s : ByteArray) (p : Int) (hs : s.size ≤ 100000) (w0 w : World) (S : Kn ok w0 [] nil tt [] w) :
  Calls Try.prog 56 #[.string s, .int .i64 p] w fun e w' => ∃ A c, e = .returned (.tuple #[.slice A (TT s p).1.length c, .int .i64 (TT s p).2.1, .int .i64 (TT s p).2.2]) ∧ (V kSe (.slice A (TT s p).1.length c) (TT s p).1).P w' (fun k => ok k ∨ w0.heap.size ≤ k) ∧ Below w0.heap.size w0 w' := by
 have HG := Aside0.mk (get_calls s p (by omega))
 have HGs := Aside0.mk (XV01.G_shape s p)
 unfold TT
 rcases hg : G s p with ⟨n, q, e0⟩
 rw [hg] at HG HGs
 dsimp only at HG HGs ⊢
 by_cases c0 : e0 = 0
 rotate_left
 ·have c0b : (e0 != 0) = true := bne_iff_ne.mpr c0
  simp only [if_neg c0]
  clear HGs c0
  go_enter Try.func56, Try.ntmps56
  go_wp2_with fail
  refine (HG.out _).mono ?_
  rintro e w1 ⟨rfl, hb⟩
  replace S := S.below hb
  clear hb HG
  go_wp2
  go_ret3
  exact ⟨none, 0, rfl, V_any (Kd.V_nil kSe 0 _ 0 _), S.bel⟩
 subst c0
 simp only [if_true]
 by_cases c1 : n > 32
 ·have c1b : decide (n > 32) = true := decide_eq_true c1
  simp only [if_pos c1]
  have c1d : decide (32 < n) = true := decide_eq_true c1
  clear HGs
  go_enter Try.func56, Try.ntmps56
  go_wp2_with fail
  refine (HG.out _).mono ?_
  rintro e w1 ⟨rfl, hb⟩
  replace S := S.below hb
  clear hb HG
  go_wp2
  go_ret3
  exact ⟨none, 0, rfl, V_any (Kd.V_nil kSe 0 _ 0 _), S.bel⟩
 simp only [if_neg c1]
 obtain ⟨hn0, hq0, hq1⟩ : 0 ≤ n ∧ 0 ≤ q ∧ q ≤ s.size := by rcases HGs.out with ⟨e, h, he⟩ | ⟨n', q', h, hp, h1, h2, h3, h4, _⟩ <;> (simp only [Prod.mk.injEq] at h; omega)
 obtain ⟨m, rfl⟩ : ∃ m : Nat, n = m := ⟨n.toNat, by omega⟩
 have hm : m ≤ 32 := by omega
 have c1b : decide ((m : Int) > 32) = false := decide_eq_false c1
 have c1d : decide ((32 : Int) < (m : Int)) = false := decide_eq_false c1
 rw [Int.toNat_natCast]
 clear HGs hg hn0 c1
 generalize hR : takeRows s m q [] = R
 have HR := Aside0.mk hR
 clear hR
 generalize hF : (if R.2.2 = 0 then if mayT R.1 = true then R else ([], 0, 3) else R) = F
 have HF := Aside0.mk hF
 clear hF
 go_enter Try.func56, Try.ntmps56
 go_wp2_with fail
 refine (HG.out _).mono ?_
 rintro e w1 ⟨rfl, hb⟩
 replace S := S.below hb
 clear hb HG
 have HS : Kn ok w0 [] nil (N kSe 52 w0.heap.size nil []) [] w1 := S.opened (v := nil) (U' := N kSe 52 w0.heap.size nil []) (Kd.N_nil kSe 52 _ _ _) rfl
 have HS := Aside0.mk HS
 clear S
 go_wp2
 go_loopw [8, 9, 10, 27] (fun v8 v9 v10 v27 wr => ∃ (i : Nat) (tq : Int) (out : List Se), v27 = .int .u64 i ∧ i ≤ m ∧ v8 = .int .i64 tq ∧ v9 = .int .i64 0 ∧ Aside0 (takeRows s (m - i) tq out = R ∧ out.length = i ∧ 0 ≤ tq ∧ tq ≤ s.size ∧ ∀ x ∈ out, x.f0.size ≤ 100000) ∧ Aside0 (Kn ok w0 [] v10 (N kSe 52 w0.heap.size v10 out) [] wr)) (fun _ _ _ x _ => m - (intOf x).toNat)
 case atStart => exact ⟨0, q, [], rfl, Nat.zero_le _, rfl, rfl, ⟨HR.out, rfl, hq0, hq1, fun x hx => (nomatch hx)⟩, HS⟩
 case round =>
  clear HS HR
  obtain ⟨i, tq, out, rfl, hi, rfl, rfl, hA, hK⟩ := hrel
  have S := hK.out
  clear hK
  by_cases hlt : i < m
  rotate_left
  ·obtain rfl : i = m := by omega
   have hA' := hA.out
   clear hA
   rw [Nat.sub_self, takeRows] at hA'
   obtain ⟨hT, hl, _, _, hN⟩ := hA'
   subst hT
   have hF := HF.out
   clear HF
   rw [if_pos rfl] at hF
   dsimp only at hF
   obtain ⟨A, c, rfl⟩ : ∃ A c, u10 = .slice A out.length c := Kd.N_slice S.own
   replace S := S.shut (U' := V kSe (.slice A out.length c) out) (fun h => N_any h)
   replace S : Kn ok w0 [] nil tt [V kSe (.slice A out.length c) out] wr := S
   have hnm : ∀ x ∈ out, x.f0.size ≤ 9223372036854775807 := fun x hx => by have := hN x hx; omega
   have HD := Aside0.mk (digMayT_b 100 out (by omega) hnm (by omega))
   clear hl
   generalize hb0 : mayT out = b0 at HD hF
   clear hb0 hnm hN
   go_wp2_with fail
   refine (digest_May.kn 100 HD.out (S.ft 0 rfl)).mono ?_
   rintro e w2 ⟨rfl, hb⟩
   replace S := S.below hb
   clear hb HD
   cases b0 with
   | false =>
    rw [if_neg (by decide)] at hF
    obtain rfl := hF
    go_wp2
    go_ret3
    exact ⟨none, 0, rfl, V_any (Kd.V_nil kSe 0 _ 0 _), S.bel⟩
   | true =>
    rw [if_pos rfl] at hF
    obtain rfl := hF
    go_wp2
    go_ret3
    exact ⟨A, c, rfl, S.out 0 rfl, S.bel⟩
  have k2 : (i : Int) < (m : Int) := by omega
  obtain ⟨hT, hl, ht0, ht1, hN⟩ := hA.out
  have HN := Aside0.mk hN
  clear hN
  clear hA
  have HL := Aside0.mk hl
  clear hl
  rw [show m - i = (m - i - 1) + 1 by omega, takeRows] at hT
  have HI := Aside0.mk (it_f 100 s tq (by omega) (by omega))
  have HIs := Aside0.mk (IT_shape s tq (by omega))
  generalize IT s tq = r at hT HI HIs
  obtain ⟨r1, r2, r3⟩ := r
  dsimp only at hT HI HIs
  have HT := Aside0.mk hT
  clear hT
  go_upto_region 10 with (fail)
  generalize hg : World.alloc _ _ = w2
  replace S := S.new hg
  clear hg
  generalize wr.heap.size = px at S ⊢
  replace S : Kn ok w0 [(px, .cells #[.string ⟨#[]⟩, .int .i64 0, .int .i64 0, .int .i64 0, .string ⟨#[]⟩] 52 (0, 0))] u10 (N kSe 52 w0.heap.size u10 out) [] w2 := S
  have x_0 : w2.cell? ⟨px, 0, none⟩ = some (.string ⟨#[]⟩) := S.cell 0 0 rfl rfl
  have zx_0 : w2.frozen? ⟨px, 0, none⟩ = false := S.frozen 0 0 rfl
  go_wp2_with fail
  refine (ident_Take.kn 100 HI.out).mono ?_
  rintro e w3 ⟨rfl, hb⟩
  replace S := S.below hb
  clear x_0 zx_0 hb HI
  have x_0 : w3.cell? ⟨px, 0, none⟩ = some (.string ⟨#[]⟩) := S.cell 0 0 rfl rfl
  have zx_0 : w3.frozen? ⟨px, 0, none⟩ = false := S.frozen 0 0 rfl
  go_upto_region 11 with (fail)
  clear x_0 zx_0
  generalize hg : World.setCell w3 ⟨px, 0, none⟩ _ = w4
  replace S := S.set 0 hg rfl
  clear hg
  replace S : Kn ok w0 [(px, .cells #[.string r1, .int .i64 0, .int .i64 0, .int .i64 0, .string ⟨#[]⟩] 52 (0, 0))] u10 (N kSe 52 w0.heap.size u10 out) [] w4 := S
  by_cases e0 : r3 = 0
  rotate_left
  ·have e0b : (r3 != 0) = true := bne_iff_ne.mpr e0
   have hT' := HT.out
   rw [if_neg e0] at hT'
   clear HT HIs
   have hF := HF.out
   obtain rfl := hT'
   rw [if_neg (by exact e0)] at hF
   obtain rfl := hF
   clear HF
   go_wp2
   go_ret3
   exact ⟨none, 0, rfl, V_any (Kd.V_nil kSe 0 _ 0 _), S.bel⟩
  subst e0
  have hr1 : r1.size ≤ 100000 := by rcases HIs.out with ⟨e, h, he⟩ | ⟨n, q, h, hn, _⟩ <;> simp only [Prod.mk.injEq] at h; (obtain ⟨rfl, _⟩ := h; exact Nat.zero_le _); (obtain ⟨rfl, _⟩ := h; have := isB_16 hn; omega)
  have HR1 := Aside0.mk hr1
  clear hr1
  have hT := HT.out
  rw [if_pos rfl] at hT
  clear HT
  have hr2 : 0 ≤ r2 ∧ r2 ≤ s.size := by rcases HIs.out with ⟨e, h, he⟩ | ⟨n, q, h, _, h0', h1', hq, _⟩ <;> (simp only [Prod.mk.injEq] at h; omega)
  clear HIs
  have HV := Aside0.mk (take_v 100 s r2 (by omega) (by omega) (by omega))
  have HVs := Aside0.mk (XV04.VT_shape s r2 (by omega))
  generalize VT s r2 = qv at hT HV HVs
  obtain ⟨q1, q2, q3, q4, q5, q6⟩ := qv
  dsimp only at hT HV HVs
  have HT := Aside0.mk hT
  clear hT hr2
  have x_1 : w4.cell? ⟨px, 1, none⟩ = some (.int .i64 0) := S.cell 0 1 rfl rfl
  have zx_1 : w4.frozen? ⟨px, 1, none⟩ = false := S.frozen 0 1 rfl
  have x_2 : w4.cell? ⟨px, 2, none⟩ = some (.int .i64 0) := S.cell 0 2 rfl rfl
  have zx_2 : w4.frozen? ⟨px, 2, none⟩ = false := S.frozen 0 2 rfl
  have x_3 : w4.cell? ⟨px, 3, none⟩ = some (.int .i64 0) := S.cell 0 3 rfl rfl
  have zx_3 : w4.frozen? ⟨px, 3, none⟩ = false := S.frozen 0 3 rfl
  have x_4 : w4.cell? ⟨px, 4, none⟩ = some (.string ⟨#[]⟩) := S.cell 0 4 rfl rfl
  have zx_4 : w4.frozen? ⟨px, 4, none⟩ = false := S.frozen 0 4 rfl
  go_wp2_with fail
  refine (value_Take.kn 100 HV.out).mono ?_
  rintro e w5 ⟨rfl, hb⟩
  replace S := S.below hb
  clear x_1 zx_1 x_2 zx_2 x_3 zx_3 x_4 zx_4 hb HV
  have x_1 : w5.cell? ⟨px, 1, none⟩ = some (.int .i64 0) := S.cell 0 1 rfl rfl
  have zx_1 : w5.frozen? ⟨px, 1, none⟩ = false := S.frozen 0 1 rfl
  have x_2 : w5.cell? ⟨px, 2, none⟩ = some (.int .i64 0) := S.cell 0 2 rfl rfl
  have zx_2 : w5.frozen? ⟨px, 2, none⟩ = false := S.frozen 0 2 rfl
  have x_3 : w5.cell? ⟨px, 3, none⟩ = some (.int .i64 0) := S.cell 0 3 rfl rfl
  have zx_3 : w5.frozen? ⟨px, 3, none⟩ = false := S.frozen 0 3 rfl
  have x_4 : w5.cell? ⟨px, 4, none⟩ = some (.string ⟨#[]⟩) := S.cell 0 4 rfl rfl
  have zx_4 : w5.frozen? ⟨px, 4, none⟩ = false := S.frozen 0 4 rfl
  go_upto_region 14 with (fail)
  clear x_1 zx_1 x_2 zx_2 x_3 zx_3 x_4 zx_4
  generalize hg : World.setCell w5 ⟨px, 1, none⟩ _ = w6
  replace S := S.set 0 hg rfl
  clear hg
  generalize hg : World.setCell w6 ⟨px, 2, none⟩ _ = w7
  replace S := S.set 0 hg rfl
  clear hg
  generalize hg : World.setCell w7 ⟨px, 3, none⟩ _ = w8
  replace S := S.set 0 hg rfl
  clear hg
  generalize hg : World.setCell w8 ⟨px, 4, none⟩ _ = w9
  replace S := S.set 0 hg rfl
  clear hg
  replace S : Kn ok w0 [(px, .cells #[.string r1, .int .i64 q1, .int .i64 q2, .int .i64 q3, .string q4] 52 (0, 0))] u10 (N kSe 52 w0.heap.size u10 out) [] w9 := S
  by_cases e0 : q6 = 0
  rotate_left
  ·have e0b : (q6 != 0) = true := bne_iff_ne.mpr e0
   have hT' := HT.out
   rw [if_neg e0] at hT'
   clear HT HVs
   have hF := HF.out
   obtain rfl := hT'
   rw [if_neg (by exact e0)] at hF
   obtain rfl := hF
   clear HF
   go_wp2
   go_ret3
   exact ⟨none, 0, rfl, V_any (Kd.V_nil kSe 0 _ 0 _), S.bel⟩
  subst e0
  have hT := HT.out
  rw [if_pos rfl] at hT
  clear HT
  have hq5 : 0 ≤ q5 ∧ q5 ≤ s.size := by rcases HVs.out with ⟨e, h, he⟩ | ⟨_, _, _, _, q, h, _, h0', h1', hq, _⟩ <;> (first | (simp only [XV04.er, Prod.mk.injEq] at h; omega) | (simp only [Prod.mk.injEq] at h; omega))
  clear HVs
  have HT := Aside0.mk hT
  clear hT
  have x_0 : w9.cell? ⟨px, 0, none⟩ = some (.string r1) := S.cell 0 0 rfl rfl
  have x_1 : w9.cell? ⟨px, 1, none⟩ = some (.int .i64 q1) := S.cell 0 1 rfl rfl
  have x_2 : w9.cell? ⟨px, 2, none⟩ = some (.int .i64 q2) := S.cell 0 2 rfl rfl
  have x_3 : w9.cell? ⟨px, 3, none⟩ = some (.int .i64 q3) := S.cell 0 3 rfl rfl
  have x_4 : w9.cell? ⟨px, 4, none⟩ = some (.string q4) := S.cell 0 4 rfl rfl
  have hfk : Kd.FK kSe w9 (Ap ok w0 [(px, .cells #[.string r1, .int .i64 q1, .int .i64 q2, .int .i64 q3, .string q4] 52 (0, 0))] u10) (⟨r1, ⟨q1, q2, q3, q4⟩⟩ : Se) [.string r1, .int .i64 q1, .int .i64 q2, .int .i64 q3, .string q4] := fun W2 _ => k52_mk W2 (⟨r1, ⟨q1, q2, q3, q4⟩⟩ : Se)
  have HSS := Aside0.mk S
  have HP := Aside0.mk hfk
  clear S hfk
  go_upto_region 17 with ((with_reducible refine gate_builtin (b := .append) (xs := #[.tmp 51, .tmp 53]) rfl ?_); (try (refine gate_guard (by rfl) ?_; dsimp only)); at_builtin; refine Kd.N_append kSe (w0 := w0) w0.heap.size rfl (.tmp 51) (.tmp 53) 25 52 (.agg #[(.string ⟨#[]⟩), (.int .i64 0), (.int .i64 0), (.int .i64 0), (.string ⟨#[]⟩)]) 56 rfl Try.underlying25 info52 rfl (by decide) (by omega) u10 out (⟨r1, ⟨q1, q2, q3, q4⟩⟩ : Se) [.string r1, .int .i64 q1, .int .i64 q2, .int .i64 q3, .string q4] (Fp ok w0 _) (Ap ok w0 _ u10) rfl rfl HP.out (fun _ hk => hk) ?aF HSS.out.own HSS.out.bel HSS.out.bel.size ?aL ?_; (case aF => exact (fun k hk => ⟨.inr (Nat.le_trans HSS.out.bel.size hk), fun x hx => by have := HSS.out.lt hx; omega⟩)); (case aL => have := HL.out; omega); intro v1 y1 ho hb hg hat)
  have S := HSS.out.grown (U' := N kSe 52 w0.heap.size v1 (out ++ [(⟨r1, ⟨q1, q2, q3, q4⟩⟩ : Se)])) ho hb hg hat (Kd.N_lt ho)
  clear HSS HP ho hb hg hat
  clear x_0 x_1 x_2 x_3 x_4
  replace S : Kn ok w0 [(px, .cells #[.string r1, .int .i64 q1, .int .i64 q2, .int .i64 q3, .string q4] 52 (0, 0))] v1 (N kSe 52 w0.heap.size v1 (out ++ [(⟨r1, ⟨q1, q2, q3, q4⟩⟩ : Se)])) [] y1 := S
  replace S := S.pop 1
  replace S : Kn ok w0 [] v1 (N kSe 52 w0.heap.size v1 (out ++ [(⟨r1, ⟨q1, q2, q3, q4⟩⟩ : Se)])) [] y1 := S
  go_wp2
  go_roundw
  case rel => exact ⟨i + 1, q5, out ++ [(⟨r1, ⟨q1, q2, q3, q4⟩⟩ : Se)], by go_num, by omega, rfl, rfl, ⟨by rw [show m - (i + 1) = m - i - 1 by omega]; exact HT.out, by simp [HL.out], hq5.1, hq5.2, fun x hx => by rcases List.mem_append.1 hx with hx | hx; exact HN.out x hx; obtain rfl := List.mem_singleton.1 hx; exact HR1.out⟩, ⟨S⟩⟩
  case measure => simp [intOf]; omega
theorem take_calls (s : ByteArray) (p : Int) (hs : s.size ≤ 100000) (w : World) : Calls Try.prog 56 #[.string s, .int .i64 p] w fun e w' => ∃ A c, e = .returned (.tuple #[.slice A (TT s p).1.length c, .int .i64 (TT s p).2.1, .int .i64 (TT s p).2.2]) ∧ (V kSe (.slice A (TT s p).1.length c) (TT s p).1).P w' (fun k => w.heap.size ≤ k) ∧ Below w.heap.size w w' := by
 refine (take_go (fun _ => False) s p hs w w (Kn.start _ w)).mono ?_
 rintro e w' ⟨A, c, rfl, hV, hb⟩
 exact ⟨A, c, rfl, Ft.mono _ hV (fun k hk => hk.resolve_left id), hb⟩
set_option maxHeartbeats 4000000 in
theorem rd3 (ok : Nat → Prop) (f : Fr) (v : Value) (p : Nat) (s : ByteArray) (at_ : Int) (hs : s.size ≤ 100000) (h0 : 0 ≤ at_) (h1 : at_ ≤ s.size) (L : List (Nat × Obj)) (u : Value) (U : Ft) (I : List Ft) (w0 w : World) (S : Kn ok w0 ((p, .cells (cF f v) TFr (0, 0)) :: L) u U I w) :
  Calls Try.prog 55 #[.pointer (some ⟨p, 0, none⟩), .string s, .int .i64 at_] w fun e w' => ∃ A c, e = .returned (.tuple #[.int .i64 (TT s at_).2.1, .bool (decide ((TT s at_).2.2 = 0))]) ∧ Kn ok w0 ((p, .cells (cF (⟨f.f0, f.f1, f.f2, f.f3, f.f4, f.f5, (TT s at_).1⟩ : Fr) (.slice A (TT s at_).1.length c)) TFr (0, 0)) :: L) u U ((V kSe (.slice A (TT s at_).1.length c) (TT s at_).1) :: I) w' := by
 have HT := Aside0.mk (take_calls s at_ hs)
 generalize TT s at_ = r at HT ⊢
 obtain ⟨t, r2, r3⟩ := r
 dsimp only at HT ⊢
 have hq6 : (r3 == 0) = decide (r3 = 0) := rfl
 go_enter Try.func55, Try.ntmps55
 go_wp2_with fail
 refine (HT.out _).mono ?_
 rintro e w1 ⟨A, c, rfl, hV, hb⟩
 replace S := S.call (f := (V kSe (.slice A t.length c) t)) hb (Ft.mono _ hV (fun k hk => Or.inr hk))
 clear hb HT hV
 have f_9 : w1.cell? ⟨p, 9, none⟩ = some v := S.cell 0 9 rfl rfl
 have zf_9 : w1.frozen? ⟨p, 9, none⟩ = false := S.frozen 0 9 rfl
 go_upto_region 3 with (fail)
 clear f_9 zf_9
 generalize hg : World.setCell w1 ⟨p, 9, none⟩ _ = w2
 replace S := S.set 0 hg rfl
 clear hg
 replace S : Kn ok w0 ((p, .cells #[.int .i64 f.f0, .int .i64 f.f1, .bool f.f2, .string f.f3, .int .i64 f.f4.f0, .int .i64 f.f4.f1, .int .i64 f.f4.f2, .string f.f4.f3, .int .u64 f.f5, .slice A t.length c] TFr (0, 0)) :: L) u U ((V kSe (.slice A t.length c) t) :: I) w2 := S
 go_wp2
 go_ret2
 exact ⟨A, c, rfl, S⟩
end Go.Proofs.Ytjccgdnnnlgeeaa.XFr
end

section
/- frame.read, walked. -/
namespace Go.Proofs.Ytjccgdnnnlgeeaa.XFr
open Go.RowKit Go.Proofs.YtjccgdnnnlgeeaaW.PrintWords Go.Proofs.YtjccgdnnnlgeeaaW.PrintLast Go.Proofs.YtjccgdnnnlgeeaaW.PrintMore Go.Proofs.Ytjccgdnnnlgeeaa.PA Go.Proofs.Ytjccgdnnnlgeeaa.XMem Go.Proofs.Ytjccgdnnnlgeeaa.XSt Go.Proofs.Ytjccgdnnnlgeeaa.XQuiet Go.Proofs.Ytjccgdnnnlgeeaa.XKn
open Go.Proofs.Ytjccgdnnnlgeeaa.XSum (Se kSe)
open Go.Proofs.Ytjccgdnnnlgeeaa.XV17 (mayT)
open Go.Proofs.Ytjccgdnnnlgeeaa.XV01 (G)
set_option linter.unusedVariables false
set_option linter.unusedSimpArgs false
set_option maxRecDepth 100000

theorem idx1 (w : World) : (Instr.index 65 (.agg kindsV) (.int .i64 1)).run Try.prog w = .ok (.agg #[fu 49, fu 50]) w := by
 have h := Try.underlying65
 have hz := Try.sizeOf64 w
 simp [Instr.index, run_underlying h, asIntOf, go_sem, hz, part]
theorem idx2 (w : World) : (Instr.index 65 (.agg kindsV) (.int .i64 2)).run Try.prog w = .ok (.agg #[fu 51, fu 52]) w := by
 have h := Try.underlying65
 have hz := Try.sizeOf64 w
 simp [Instr.index, run_underlying h, asIntOf, go_sem, hz, part]
theorem idx3 (w : World) : (Instr.index 65 (.agg kindsV) (.int .i64 3)).run Try.prog w = .ok (.agg #[fu 53, fu 55]) w := by
 have h := Try.underlying65
 have hz := Try.sizeOf64 w
 simp [Instr.index, run_underlying h, asIntOf, go_sem, hz, part]
theorem idx4 (w : World) : (Instr.index 65 (.agg kindsV) (.int .i64 4)).run Try.prog w = .ok (.agg #[fu 57, fu 58]) w := by
 have h := Try.underlying65
 have hz := Try.sizeOf64 w
 simp [Instr.index, run_underlying h, asIntOf, go_sem, hz, part]
theorem fld0 (a b : Value) (w : World) : (Instr.field 64 (.agg #[a, b]) 0).run Try.prog w = .ok a w := by
 have h := Try.underlying64
 simp [Instr.field, run_underlying h, go_sem, part, asAgg]
theorem fld1 (a b : Value) (w : World) : (Instr.field 64 (.agg #[a, b]) 1).run Try.prog w = .ok b w := by
 have h := Try.underlying64
 simp [Instr.field, run_underlying h, go_sem, part, asAgg]
attribute [local go_sem] fld0 fld1
attribute [local go_sem] idx1 idx2 idx3 idx4
theorem rdb1 (ok : Nat → Prop) (f : Fr) (p : Nat) (s : ByteArray) (at_ : Int) (hs : s.size ≤ 100000) (h0 : 0 ≤ at_) (h1 : at_ ≤ s.size) (L : List (Nat × Obj)) (u : Value) (U : Ft) (I : List Ft) (w0 w : World) (S : Kn ok w0 ((p, .cells (cF f (.slice none 0 0)) TFr (0, 0)) :: L) u U I w) (h5 : f.f5 = 0) (h6 : f.f6 = []) (h7 : f.f0 = 1) :
  Calls Try.prog 50 #[.pointer (some ⟨p, 0, none⟩), .string s, .int .i64 at_] w fun e w' => ∃ A c, e = .returned (.tuple #[.int .i64 (rdBody f s at_).2.1, .bool (rdBody f s at_).2.2]) ∧ Kn ok w0 ((p, .cells (cF (rdBody f s at_).1 (.slice A (rdBody f s at_).1.f6.length c)) TFr (0, 0)) :: L) u U (V kSe (.slice A (rdBody f s at_).1.f6.length c) (rdBody f s at_).1.f6 :: I) w' := by
 have e : rdBody f s at_ = rdDelta f s at_ := by unfold rdBody; rw [if_pos h7]
 have e6 : (rdDelta f s at_).1.f6 = [] := by unfold rdDelta; split; exact h6; split <;> exact h6
 rw [e, e6]
 refine (rd1 ok f _ p s at_ hs h0 h1 L u U I w0 w S).mono ?_
 rintro e w' ⟨rfl, S⟩
 exact ⟨none, 0, rfl, S.add (f := V kSe (.slice none 0 0) []) (V_any (Kd.V_nil kSe 0 _ 0 _))⟩
theorem rdb2 (ok : Nat → Prop) (f : Fr) (p : Nat) (s : ByteArray) (at_ : Int) (hs : s.size ≤ 100000) (h0 : 0 ≤ at_) (h1 : at_ ≤ s.size) (L : List (Nat × Obj)) (u : Value) (U : Ft) (I : List Ft) (w0 w : World) (S : Kn ok w0 ((p, .cells (cF f (.slice none 0 0)) TFr (0, 0)) :: L) u U I w) (h5 : f.f5 = 0) (h6 : f.f6 = []) (h7 : f.f0 = 2) :
  Calls Try.prog 52 #[.pointer (some ⟨p, 0, none⟩), .string s, .int .i64 at_] w fun e w' => ∃ A c, e = .returned (.tuple #[.int .i64 (rdBody f s at_).2.1, .bool (rdBody f s at_).2.2]) ∧ Kn ok w0 ((p, .cells (cF (rdBody f s at_).1 (.slice A (rdBody f s at_).1.f6.length c)) TFr (0, 0)) :: L) u U (V kSe (.slice A (rdBody f s at_).1.f6.length c) (rdBody f s at_).1.f6 :: I) w' := by
 have e : rdBody f s at_ = (if s.size - at_ < 8 then (f, 0, false) else (⟨f.f0, f.f1, f.f2, f.f3, f.f4, num8 s at_ 8, f.f6⟩, at_ + 8, true)) := by unfold rdBody; rw [if_neg (by omega), if_pos h7]
 refine (rd2 ok f _ p s at_ hs h0 h1 L u U I w0 w S h5).mono ?_
 rintro e1 w' ⟨rfl, S⟩
 rw [e]
 by_cases c : (s.size : Int) - at_ < 8
 ·simp only [if_pos c] at S ⊢
  rw [h6]
  exact ⟨none, 0, by first | rfl | trivial, S.add (f := V kSe (.slice none 0 0) []) (V_any (Kd.V_nil kSe 0 _ 0 _))⟩
 ·simp only [if_neg c] at S ⊢
  rw [h6] at S ⊢
  exact ⟨none, 0, by first | rfl | trivial, S.add (f := V kSe (.slice none 0 0) []) (V_any (Kd.V_nil kSe 0 _ 0 _))⟩
theorem rdb3 (ok : Nat → Prop) (f : Fr) (p : Nat) (s : ByteArray) (at_ : Int) (hs : s.size ≤ 100000) (h0 : 0 ≤ at_) (h1 : at_ ≤ s.size) (L : List (Nat × Obj)) (u : Value) (U : Ft) (I : List Ft) (w0 w : World) (S : Kn ok w0 ((p, .cells (cF f (.slice none 0 0)) TFr (0, 0)) :: L) u U I w) (h5 : f.f5 = 0) (h6 : f.f6 = []) (h7 : f.f0 = 3) :
  Calls Try.prog 55 #[.pointer (some ⟨p, 0, none⟩), .string s, .int .i64 at_] w fun e w' => ∃ A c, e = .returned (.tuple #[.int .i64 (rdBody f s at_).2.1, .bool (rdBody f s at_).2.2]) ∧ Kn ok w0 ((p, .cells (cF (rdBody f s at_).1 (.slice A (rdBody f s at_).1.f6.length c)) TFr (0, 0)) :: L) u U (V kSe (.slice A (rdBody f s at_).1.f6.length c) (rdBody f s at_).1.f6 :: I) w' := by
 have e : rdBody f s at_ = (⟨f.f0, f.f1, f.f2, f.f3, f.f4, f.f5, (TT s at_).1⟩, (TT s at_).2.1, decide ((TT s at_).2.2 = 0)) := by unfold rdBody; rw [if_neg (by omega), if_neg (by omega), if_pos h7]
 refine (rd3 ok f _ p s at_ hs h0 h1 L u U I w0 w S).mono ?_
 rintro e1 w' ⟨A, c, rfl, S⟩
 rw [e]
 exact ⟨A, c, rfl, S⟩
theorem rdb4 (ok : Nat → Prop) (f : Fr) (p : Nat) (s : ByteArray) (at_ : Int) (hs : s.size ≤ 100000) (h0 : 0 ≤ at_) (h1 : at_ ≤ s.size) (L : List (Nat × Obj)) (u : Value) (U : Ft) (I : List Ft) (w0 w : World) (S : Kn ok w0 ((p, .cells (cF f (.slice none 0 0)) TFr (0, 0)) :: L) u U I w) (h5 : f.f5 = 0) (h6 : f.f6 = []) (h7 : f.f0 = 4) :
  Calls Try.prog 58 #[.pointer (some ⟨p, 0, none⟩), .string s, .int .i64 at_] w fun e w' => ∃ A c, e = .returned (.tuple #[.int .i64 (rdBody f s at_).2.1, .bool (rdBody f s at_).2.2]) ∧ Kn ok w0 ((p, .cells (cF (rdBody f s at_).1 (.slice A (rdBody f s at_).1.f6.length c)) TFr (0, 0)) :: L) u U (V kSe (.slice A (rdBody f s at_).1.f6.length c) (rdBody f s at_).1.f6 :: I) w' := by
 have e : rdBody f s at_ = (f, at_, true) := by unfold rdBody; rw [if_neg (by omega), if_neg (by omega), if_neg (by omega)]
 refine (rd4 ok f _ p s at_ hs h0 h1 L u U I w0 w S).mono ?_
 rintro e1 w' ⟨rfl, S⟩
 rw [e, h6]
 exact ⟨none, 0, rfl, S.add (f := V kSe (.slice none 0 0) []) (V_any (Kd.V_nil kSe 0 _ 0 _))⟩
theorem rdBody_kind (f : Fr) (s : ByteArray) (p : Int) : (rdBody f s p).1.f0 = f.f0 := by
 unfold rdBody rdDelta
 split
 ·split
  ·rfl
  ·split <;> rfl
 ·split
  ·split <;> rfl
  ·split <;> rfl
set_option maxHeartbeats 8000000 in
theorem read_k1 (ok : Nat → Prop) (s : ByteArray) (hs : s.size ≤ 100000) (w0 w : World) (S : Kn ok w0 [] nil tt [] w) (n q : Int) (hx : ∀ h : 0 < s.size, ((s[0]'h).toNat : Int) = 1) (HG : Aside0 (∀ w : World, Calls Try.prog 42 #[.string s, .int .i64 1] w fun e w' => e = .returned (.tuple #[.int .u64 n, .int .i64 q, .int .i64 0]) ∧ Below w.heap.size w w')) (cb : (s.toList == ([] : List UInt8)) = false) (c00 : (0 : Int) < (s.size : Int)) (hq0 : 0 ≤ q) (hq1 : q ≤ s.size) (hwn : IntKind.i64.wrap n = n) (c4b : decide (n > 1099511627776) = false) (c4d : decide (1099511627776 < n) = false) :
  Calls Try.prog 32 #[.string s] w fun e w' => ∃ A c, e = .returned (.tuple #[.agg (cF (rdBody (⟨1, n, false, ⟨#[]⟩, zv, 0, []⟩ : Fr) s q).1 (.slice A (rdBody (⟨1, n, false, ⟨#[]⟩, zv, 0, []⟩ : Fr) s q).1.f6.length c)), .bool ((rdBody (⟨1, n, false, ⟨#[]⟩, zv, 0, []⟩ : Fr) s q).2.2 && decide ((rdBody (⟨1, n, false, ⟨#[]⟩, zv, 0, []⟩ : Fr) s q).2.1 = s.size))]) ∧ (V kSe (.slice A (rdBody (⟨1, n, false, ⟨#[]⟩, zv, 0, []⟩ : Fr) s q).1.f6.length c) (rdBody (⟨1, n, false, ⟨#[]⟩, zv, 0, []⟩ : Fr) s q).1.f6).P w' (fun k => ok k ∨ w0.heap.size ≤ k) ∧ Below w0.heap.size w0 w' := by
 have HRB := Aside0.mk (fun (L : List (Nat × Obj)) (p : Nat) (z : World) (S : Kn ok w0 ((p, .cells (cF (⟨1, n, false, ⟨#[]⟩, zv, 0, []⟩ : Fr) (.slice none 0 0)) TFr (0, 0)) :: L) nil tt [] z) => rdb1 ok (⟨1, n, false, ⟨#[]⟩, zv, 0, []⟩ : Fr) p s q hs hq0 hq1 L nil tt [] w0 z S rfl rfl rfl)
 have hg0 : (rdBody (⟨1, n, false, ⟨#[]⟩, zv, 0, []⟩ : Fr) s q).1.f0 = 1 := rdBody_kind (⟨1, n, false, ⟨#[]⟩, zv, 0, []⟩ : Fr) s q
 generalize rdBody (⟨1, n, false, ⟨#[]⟩, zv, 0, []⟩ : Fr) s q = rb at HRB hg0 ⊢
 obtain ⟨g, tq, is⟩ := rb
 dsimp only at HRB hg0 ⊢
 have HG0 := Aside0.mk hg0
 clear hg0
 go_enter Try.func32, Try.ntmps32
 go_upto_region 1 with (fail)
 generalize hg : World.alloc _ _ = w1
 replace S := S.new hg
 clear hg
 generalize w.heap.size = p2 at S ⊢
 replace S : Kn ok w0 [(p2, .cells #[.int .i64 0, .int .i64 0, .bool false, .string ⟨#[]⟩, .int .i64 0, .int .i64 0, .int .i64 0, .string ⟨#[]⟩, .int .u64 0, .slice none 0 0] TFr (0, 0))] nil tt [] w1 := S
 go_wp2_with fail
 refine (HG.out _).mono ?_
 rintro e w2 ⟨rfl, hb⟩
 replace S := S.below hb
 clear hb HG
 go_upto_region 7 with (fail)
 generalize hg : World.alloc _ _ = w3
 replace S := S.new hg
 clear hg
 generalize w2.heap.size = p7 at S ⊢
 replace S : Kn ok w0 [(p7, .cells #[.int .i64 1, .int .i64 n, .bool false, .string ⟨#[]⟩, .int .i64 0, .int .i64 0, .int .i64 0, .string ⟨#[]⟩, .int .u64 0, .slice none 0 0] TFr (0, 0)), (p2, .cells #[.int .i64 0, .int .i64 0, .bool false, .string ⟨#[]⟩, .int .i64 0, .int .i64 0, .int .i64 0, .string ⟨#[]⟩, .int .u64 0, .slice none 0 0] TFr (0, 0))] nil tt [] w3 := S
 have hu := Try.underlying64
 have hcell : ∀ w' : World, Below w3.heap.size w3 w' → w'.cell? ⟨p7, 0, none⟩ = some (.int .i64 1) := fun w' hb => (S.below hb).cell 0 0 rfl rfl
 have HS := Aside0.mk S
 clear S
 go_cut [8, 9] (fun v8 v9 wx => ∃ A c, v8 = .int .i64 tq ∧ v9 = .bool is ∧ Aside0 (Kn ok w0 [(p7, .cells (cF g (.slice A g.f6.length c)) TFr (0, 0)), (p2, .cells #[.int .i64 0, .int .i64 0, .bool false, .string ⟨#[]⟩, .int .i64 0, .int .i64 0, .int .i64 0, .string ⟨#[]⟩, .int .u64 0, .slice none 0 0] TFr (0, 0))] nil tt [V kSe (.slice A g.f6.length c) g.f6] wx))
 case first =>
  go_region_held3 (fun w' => w'.cell? ⟨p7, 0, none⟩ = some (.int .i64 1)) (first | (have h0_ : _ = some (Value.int .i64 g.f0) := S.cell 0 0 rfl rfl; rw [HG0.out] at h0_; exact h0_) | exact hcell _ (by with_reducible repeat (first | assumption | apply below_alloc | apply below_drew1 | exact Below.refl _ _))) (first | (go_at_call 38; (with_reducible refine (kinds_calls _).mono ?_); rintro e zw1 ⟨rfl, hb⟩; have hb1 := below_step (show Below w3.heap.size w3 _ from (by with_reducible repeat (first | assumption | apply below_alloc | apply below_drew1 | exact Below.refl _ _))) hb; clear hb) | (go_at_call 50; (with_reducible refine (HRB.out _ p7 _ (HS.out.below (by with_reducible repeat (first | assumption | apply below_alloc | apply below_drew1 | exact Below.refl _ _)))).mono ?_); rintro e zw2 ⟨A, c, rfl, S⟩))
  all_goals (go_wp2_with fail; go_meet; exact ⟨A, c, rfl, rfl, ⟨S⟩⟩)
 case rest =>
  obtain ⟨A, c, rfl, rfl, hK⟩ := hcut
  have S := hK.out
  clear hK HS HRB hcell hu
  replace S : Kn ok w0 [(p7, .cells #[.int .i64 g.f0, .int .i64 g.f1, .bool g.f2, .string g.f3, .int .i64 g.f4.f0, .int .i64 g.f4.f1, .int .i64 g.f4.f2, .string g.f4.f3, .int .u64 g.f5, .slice A g.f6.length c] TFr (0, 0)), (p2, .cells #[.int .i64 0, .int .i64 0, .bool false, .string ⟨#[]⟩, .int .i64 0, .int .i64 0, .int .i64 0, .string ⟨#[]⟩, .int .u64 0, .slice none 0 0] TFr (0, 0))] nil tt [V kSe (.slice A g.f6.length c) g.f6] wc := S
  have f_0 : wc.cell? ⟨p7, 0, none⟩ = some (.int .i64 g.f0) := S.cell 0 0 rfl rfl
  have f_1 : wc.cell? ⟨p7, 1, none⟩ = some (.int .i64 g.f1) := S.cell 0 1 rfl rfl
  have f_2 : wc.cell? ⟨p7, 2, none⟩ = some (.bool g.f2) := S.cell 0 2 rfl rfl
  have f_3 : wc.cell? ⟨p7, 3, none⟩ = some (.string g.f3) := S.cell 0 3 rfl rfl
  have f_4 : wc.cell? ⟨p7, 4, none⟩ = some (.int .i64 g.f4.f0) := S.cell 0 4 rfl rfl
  have f_5 : wc.cell? ⟨p7, 5, none⟩ = some (.int .i64 g.f4.f1) := S.cell 0 5 rfl rfl
  have f_6 : wc.cell? ⟨p7, 6, none⟩ = some (.int .i64 g.f4.f2) := S.cell 0 6 rfl rfl
  have f_7 : wc.cell? ⟨p7, 7, none⟩ = some (.string g.f4.f3) := S.cell 0 7 rfl rfl
  have f_8 : wc.cell? ⟨p7, 8, none⟩ = some (.int .u64 g.f5) := S.cell 0 8 rfl rfl
  have f_9 : wc.cell? ⟨p7, 9, none⟩ = some (.slice A g.f6.length c) := S.cell 0 9 rfl rfl
  have r_0 : wc.cell? ⟨p2, 0, none⟩ = some (.int .i64 0) := S.cell 1 0 rfl rfl
  have zr_0 : wc.frozen? ⟨p2, 0, none⟩ = false := S.frozen 1 0 rfl
  have r_1 : wc.cell? ⟨p2, 1, none⟩ = some (.int .i64 0) := S.cell 1 1 rfl rfl
  have zr_1 : wc.frozen? ⟨p2, 1, none⟩ = false := S.frozen 1 1 rfl
  have r_2 : wc.cell? ⟨p2, 2, none⟩ = some (.bool false) := S.cell 1 2 rfl rfl
  have zr_2 : wc.frozen? ⟨p2, 2, none⟩ = false := S.frozen 1 2 rfl
  have r_3 : wc.cell? ⟨p2, 3, none⟩ = some (.string ⟨#[]⟩) := S.cell 1 3 rfl rfl
  have zr_3 : wc.frozen? ⟨p2, 3, none⟩ = false := S.frozen 1 3 rfl
  have r_4 : wc.cell? ⟨p2, 4, none⟩ = some (.int .i64 0) := S.cell 1 4 rfl rfl
  have zr_4 : wc.frozen? ⟨p2, 4, none⟩ = false := S.frozen 1 4 rfl
  have r_5 : wc.cell? ⟨p2, 5, none⟩ = some (.int .i64 0) := S.cell 1 5 rfl rfl
  have zr_5 : wc.frozen? ⟨p2, 5, none⟩ = false := S.frozen 1 5 rfl
  have r_6 : wc.cell? ⟨p2, 6, none⟩ = some (.int .i64 0) := S.cell 1 6 rfl rfl
  have zr_6 : wc.frozen? ⟨p2, 6, none⟩ = false := S.frozen 1 6 rfl
  have r_7 : wc.cell? ⟨p2, 7, none⟩ = some (.string ⟨#[]⟩) := S.cell 1 7 rfl rfl
  have zr_7 : wc.frozen? ⟨p2, 7, none⟩ = false := S.frozen 1 7 rfl
  have r_8 : wc.cell? ⟨p2, 8, none⟩ = some (.int .u64 0) := S.cell 1 8 rfl rfl
  have zr_8 : wc.frozen? ⟨p2, 8, none⟩ = false := S.frozen 1 8 rfl
  have r_9 : wc.cell? ⟨p2, 9, none⟩ = some (.slice none 0 0) := S.cell 1 9 rfl rfl
  have zr_9 : wc.frozen? ⟨p2, 9, none⟩ = false := S.frozen 1 9 rfl
  have hbq1 : (tq == (s.size : Int)) = decide (tq = (s.size : Int)) := rfl
  cases is with
  | true =>
   go_wp2
   clear f_0 f_1 f_2 f_3 f_4 f_5 f_6 f_7 f_8 f_9 r_0 zr_0 r_1 zr_1 r_2 zr_2 r_3 zr_3 r_4 zr_4 r_5 zr_5 r_6 zr_6 r_7 zr_7 r_8 zr_8 r_9 zr_9
   generalize hg : World.setCell wc ⟨p2, 0, none⟩ _ = w4
   replace S := S.set 1 hg rfl
   clear hg
   generalize hg : World.setCell w4 ⟨p2, 1, none⟩ _ = w5
   replace S := S.set 1 hg rfl
   clear hg
   generalize hg : World.setCell w5 ⟨p2, 2, none⟩ _ = w6
   replace S := S.set 1 hg rfl
   clear hg
   replace S : Kn ok w0 [(p7, .cells #[.int .i64 g.f0, .int .i64 g.f1, .bool g.f2, .string g.f3, .int .i64 g.f4.f0, .int .i64 g.f4.f1, .int .i64 g.f4.f2, .string g.f4.f3, .int .u64 g.f5, .slice A g.f6.length c] TFr (0, 0)), (p2, .cells #[.int .i64 g.f0, .int .i64 g.f1, .bool g.f2, .string ⟨#[]⟩, .int .i64 0, .int .i64 0, .int .i64 0, .string ⟨#[]⟩, .int .u64 0, .slice none 0 0] TFr (0, 0))] nil tt [V kSe (.slice A g.f6.length c) g.f6] w6 := S
   generalize hg : World.setCell w6 ⟨p2, 3, none⟩ _ = w7
   replace S := S.set 1 hg rfl
   clear hg
   generalize hg : World.setCell w7 ⟨p2, 4, none⟩ _ = w8
   replace S := S.set 1 hg rfl
   clear hg
   generalize hg : World.setCell w8 ⟨p2, 5, none⟩ _ = w9
   replace S := S.set 1 hg rfl
   clear hg
   replace S : Kn ok w0 [(p7, .cells #[.int .i64 g.f0, .int .i64 g.f1, .bool g.f2, .string g.f3, .int .i64 g.f4.f0, .int .i64 g.f4.f1, .int .i64 g.f4.f2, .string g.f4.f3, .int .u64 g.f5, .slice A g.f6.length c] TFr (0, 0)), (p2, .cells #[.int .i64 g.f0, .int .i64 g.f1, .bool g.f2, .string g.f3, .int .i64 g.f4.f0, .int .i64 g.f4.f1, .int .i64 0, .string ⟨#[]⟩, .int .u64 0, .slice none 0 0] TFr (0, 0))] nil tt [V kSe (.slice A g.f6.length c) g.f6] w9 := S
   generalize hg : World.setCell w9 ⟨p2, 6, none⟩ _ = w10
   replace S := S.set 1 hg rfl
   clear hg
   generalize hg : World.setCell w10 ⟨p2, 7, none⟩ _ = w11
   replace S := S.set 1 hg rfl
   clear hg
   generalize hg : World.setCell w11 ⟨p2, 8, none⟩ _ = w12
   replace S := S.set 1 hg rfl
   clear hg
   replace S : Kn ok w0 [(p7, .cells #[.int .i64 g.f0, .int .i64 g.f1, .bool g.f2, .string g.f3, .int .i64 g.f4.f0, .int .i64 g.f4.f1, .int .i64 g.f4.f2, .string g.f4.f3, .int .u64 g.f5, .slice A g.f6.length c] TFr (0, 0)), (p2, .cells #[.int .i64 g.f0, .int .i64 g.f1, .bool g.f2, .string g.f3, .int .i64 g.f4.f0, .int .i64 g.f4.f1, .int .i64 g.f4.f2, .string g.f4.f3, .int .u64 g.f5, .slice none 0 0] TFr (0, 0))] nil tt [V kSe (.slice A g.f6.length c) g.f6] w12 := S
   generalize hg : World.setCell w12 ⟨p2, 9, none⟩ _ = w13
   replace S := S.set 1 hg rfl
   clear hg
   replace S : Kn ok w0 [(p7, .cells #[.int .i64 g.f0, .int .i64 g.f1, .bool g.f2, .string g.f3, .int .i64 g.f4.f0, .int .i64 g.f4.f1, .int .i64 g.f4.f2, .string g.f4.f3, .int .u64 g.f5, .slice A g.f6.length c] TFr (0, 0)), (p2, .cells #[.int .i64 g.f0, .int .i64 g.f1, .bool g.f2, .string g.f3, .int .i64 g.f4.f0, .int .i64 g.f4.f1, .int .i64 g.f4.f2, .string g.f4.f3, .int .u64 g.f5, .slice A g.f6.length c] TFr (0, 0))] nil tt [V kSe (.slice A g.f6.length c) g.f6] w13 := S
   have b6 := S.get 1 rfl
   have hV := S.out 0 rfl
   have hBe := S.bel
   clear S
   refine bodyPost_ret (results_ct rfl _ _ p2 TFr #[.int .i64 g.f0, .int .i64 g.f1, .bool g.f2, .string g.f3, .int .i64 g.f4.f0, .int .i64 g.f4.f1, .int .i64 g.f4.f2, .string g.f4.f3, .int .u64 g.f5, .slice A g.f6.length c] (0, 0) _ rfl b6 Try.underlying27 rfl (by kernel_rfl)) rfl ?_
   exact ⟨A, c, rfl, hV, hBe⟩
  | false =>
   go_wp2
   clear f_0 f_1 f_2 f_3 f_4 f_5 f_6 f_7 f_8 f_9 r_0 zr_0 r_1 zr_1 r_2 zr_2 r_3 zr_3 r_4 zr_4 r_5 zr_5 r_6 zr_6 r_7 zr_7 r_8 zr_8 r_9 zr_9
   generalize hg : World.setCell wc ⟨p2, 0, none⟩ _ = w4
   replace S := S.set 1 hg rfl
   clear hg
   generalize hg : World.setCell w4 ⟨p2, 1, none⟩ _ = w5
   replace S := S.set 1 hg rfl
   clear hg
   generalize hg : World.setCell w5 ⟨p2, 2, none⟩ _ = w6
   replace S := S.set 1 hg rfl
   clear hg
   replace S : Kn ok w0 [(p7, .cells #[.int .i64 g.f0, .int .i64 g.f1, .bool g.f2, .string g.f3, .int .i64 g.f4.f0, .int .i64 g.f4.f1, .int .i64 g.f4.f2, .string g.f4.f3, .int .u64 g.f5, .slice A g.f6.length c] TFr (0, 0)), (p2, .cells #[.int .i64 g.f0, .int .i64 g.f1, .bool g.f2, .string ⟨#[]⟩, .int .i64 0, .int .i64 0, .int .i64 0, .string ⟨#[]⟩, .int .u64 0, .slice none 0 0] TFr (0, 0))] nil tt [V kSe (.slice A g.f6.length c) g.f6] w6 := S
   generalize hg : World.setCell w6 ⟨p2, 3, none⟩ _ = w7
   replace S := S.set 1 hg rfl
   clear hg
   generalize hg : World.setCell w7 ⟨p2, 4, none⟩ _ = w8
   replace S := S.set 1 hg rfl
   clear hg
   generalize hg : World.setCell w8 ⟨p2, 5, none⟩ _ = w9
   replace S := S.set 1 hg rfl
   clear hg
   replace S : Kn ok w0 [(p7, .cells #[.int .i64 g.f0, .int .i64 g.f1, .bool g.f2, .string g.f3, .int .i64 g.f4.f0, .int .i64 g.f4.f1, .int .i64 g.f4.f2, .string g.f4.f3, .int .u64 g.f5, .slice A g.f6.length c] TFr (0, 0)), (p2, .cells #[.int .i64 g.f0, .int .i64 g.f1, .bool g.f2, .string g.f3, .int .i64 g.f4.f0, .int .i64 g.f4.f1, .int .i64 0, .string ⟨#[]⟩, .int .u64 0, .slice none 0 0] TFr (0, 0))] nil tt [V kSe (.slice A g.f6.length c) g.f6] w9 := S
   generalize hg : World.setCell w9 ⟨p2, 6, none⟩ _ = w10
   replace S := S.set 1 hg rfl
   clear hg
   generalize hg : World.setCell w10 ⟨p2, 7, none⟩ _ = w11
   replace S := S.set 1 hg rfl
   clear hg
   generalize hg : World.setCell w11 ⟨p2, 8, none⟩ _ = w12
   replace S := S.set 1 hg rfl
   clear hg
   replace S : Kn ok w0 [(p7, .cells #[.int .i64 g.f0, .int .i64 g.f1, .bool g.f2, .string g.f3, .int .i64 g.f4.f0, .int .i64 g.f4.f1, .int .i64 g.f4.f2, .string g.f4.f3, .int .u64 g.f5, .slice A g.f6.length c] TFr (0, 0)), (p2, .cells #[.int .i64 g.f0, .int .i64 g.f1, .bool g.f2, .string g.f3, .int .i64 g.f4.f0, .int .i64 g.f4.f1, .int .i64 g.f4.f2, .string g.f4.f3, .int .u64 g.f5, .slice none 0 0] TFr (0, 0))] nil tt [V kSe (.slice A g.f6.length c) g.f6] w12 := S
   generalize hg : World.setCell w12 ⟨p2, 9, none⟩ _ = w13
   replace S := S.set 1 hg rfl
   clear hg
   replace S : Kn ok w0 [(p7, .cells #[.int .i64 g.f0, .int .i64 g.f1, .bool g.f2, .string g.f3, .int .i64 g.f4.f0, .int .i64 g.f4.f1, .int .i64 g.f4.f2, .string g.f4.f3, .int .u64 g.f5, .slice A g.f6.length c] TFr (0, 0)), (p2, .cells #[.int .i64 g.f0, .int .i64 g.f1, .bool g.f2, .string g.f3, .int .i64 g.f4.f0, .int .i64 g.f4.f1, .int .i64 g.f4.f2, .string g.f4.f3, .int .u64 g.f5, .slice A g.f6.length c] TFr (0, 0))] nil tt [V kSe (.slice A g.f6.length c) g.f6] w13 := S
   have b6 := S.get 1 rfl
   have hV := S.out 0 rfl
   have hBe := S.bel
   clear S
   refine bodyPost_ret (results_ct rfl _ _ p2 TFr #[.int .i64 g.f0, .int .i64 g.f1, .bool g.f2, .string g.f3, .int .i64 g.f4.f0, .int .i64 g.f4.f1, .int .i64 g.f4.f2, .string g.f4.f3, .int .u64 g.f5, .slice A g.f6.length c] (0, 0) _ rfl b6 Try.underlying27 rfl (by kernel_rfl)) rfl ?_
   exact ⟨A, c, rfl, hV, hBe⟩
set_option maxHeartbeats 8000000 in
theorem read_k2 (ok : Nat → Prop) (s : ByteArray) (hs : s.size ≤ 100000) (w0 w : World) (S : Kn ok w0 [] nil tt [] w) (n q : Int) (hx : ∀ h : 0 < s.size, ((s[0]'h).toNat : Int) = 2) (HG : Aside0 (∀ w : World, Calls Try.prog 42 #[.string s, .int .i64 1] w fun e w' => e = .returned (.tuple #[.int .u64 n, .int .i64 q, .int .i64 0]) ∧ Below w.heap.size w w')) (cb : (s.toList == ([] : List UInt8)) = false) (c00 : (0 : Int) < (s.size : Int)) (hq0 : 0 ≤ q) (hq1 : q ≤ s.size) (hwn : IntKind.i64.wrap n = n) (c4b : decide (n > 1099511627776) = false) (c4d : decide (1099511627776 < n) = false) :
  Calls Try.prog 32 #[.string s] w fun e w' => ∃ A c, e = .returned (.tuple #[.agg (cF (rdBody (⟨2, n, false, ⟨#[]⟩, zv, 0, []⟩ : Fr) s q).1 (.slice A (rdBody (⟨2, n, false, ⟨#[]⟩, zv, 0, []⟩ : Fr) s q).1.f6.length c)), .bool ((rdBody (⟨2, n, false, ⟨#[]⟩, zv, 0, []⟩ : Fr) s q).2.2 && decide ((rdBody (⟨2, n, false, ⟨#[]⟩, zv, 0, []⟩ : Fr) s q).2.1 = s.size))]) ∧ (V kSe (.slice A (rdBody (⟨2, n, false, ⟨#[]⟩, zv, 0, []⟩ : Fr) s q).1.f6.length c) (rdBody (⟨2, n, false, ⟨#[]⟩, zv, 0, []⟩ : Fr) s q).1.f6).P w' (fun k => ok k ∨ w0.heap.size ≤ k) ∧ Below w0.heap.size w0 w' := by
 have HRB := Aside0.mk (fun (L : List (Nat × Obj)) (p : Nat) (z : World) (S : Kn ok w0 ((p, .cells (cF (⟨2, n, false, ⟨#[]⟩, zv, 0, []⟩ : Fr) (.slice none 0 0)) TFr (0, 0)) :: L) nil tt [] z) => rdb2 ok (⟨2, n, false, ⟨#[]⟩, zv, 0, []⟩ : Fr) p s q hs hq0 hq1 L nil tt [] w0 z S rfl rfl rfl)
 have hg0 : (rdBody (⟨2, n, false, ⟨#[]⟩, zv, 0, []⟩ : Fr) s q).1.f0 = 2 := rdBody_kind (⟨2, n, false, ⟨#[]⟩, zv, 0, []⟩ : Fr) s q
 generalize rdBody (⟨2, n, false, ⟨#[]⟩, zv, 0, []⟩ : Fr) s q = rb at HRB hg0 ⊢
 obtain ⟨g, tq, is⟩ := rb
 dsimp only at HRB hg0 ⊢
 have HG0 := Aside0.mk hg0
 clear hg0
 go_enter Try.func32, Try.ntmps32
 go_upto_region 1 with (fail)
 generalize hg : World.alloc _ _ = w1
 replace S := S.new hg
 clear hg
 generalize w.heap.size = p2 at S ⊢
 replace S : Kn ok w0 [(p2, .cells #[.int .i64 0, .int .i64 0, .bool false, .string ⟨#[]⟩, .int .i64 0, .int .i64 0, .int .i64 0, .string ⟨#[]⟩, .int .u64 0, .slice none 0 0] TFr (0, 0))] nil tt [] w1 := S
 go_wp2_with fail
 refine (HG.out _).mono ?_
 rintro e w2 ⟨rfl, hb⟩
 replace S := S.below hb
 clear hb HG
 go_upto_region 7 with (fail)
 generalize hg : World.alloc _ _ = w3
 replace S := S.new hg
 clear hg
 generalize w2.heap.size = p7 at S ⊢
 replace S : Kn ok w0 [(p7, .cells #[.int .i64 2, .int .i64 n, .bool false, .string ⟨#[]⟩, .int .i64 0, .int .i64 0, .int .i64 0, .string ⟨#[]⟩, .int .u64 0, .slice none 0 0] TFr (0, 0)), (p2, .cells #[.int .i64 0, .int .i64 0, .bool false, .string ⟨#[]⟩, .int .i64 0, .int .i64 0, .int .i64 0, .string ⟨#[]⟩, .int .u64 0, .slice none 0 0] TFr (0, 0))] nil tt [] w3 := S
 have hu := Try.underlying64
 have hcell : ∀ w' : World, Below w3.heap.size w3 w' → w'.cell? ⟨p7, 0, none⟩ = some (.int .i64 2) := fun w' hb => (S.below hb).cell 0 0 rfl rfl
 have HS := Aside0.mk S
 clear S
 go_cut [8, 9] (fun v8 v9 wx => ∃ A c, v8 = .int .i64 tq ∧ v9 = .bool is ∧ Aside0 (Kn ok w0 [(p7, .cells (cF g (.slice A g.f6.length c)) TFr (0, 0)), (p2, .cells #[.int .i64 0, .int .i64 0, .bool false, .string ⟨#[]⟩, .int .i64 0, .int .i64 0, .int .i64 0, .string ⟨#[]⟩, .int .u64 0, .slice none 0 0] TFr (0, 0))] nil tt [V kSe (.slice A g.f6.length c) g.f6] wx))
 case first =>
  go_region_held3 (fun w' => w'.cell? ⟨p7, 0, none⟩ = some (.int .i64 2)) (first | (have h0_ : _ = some (Value.int .i64 g.f0) := S.cell 0 0 rfl rfl; rw [HG0.out] at h0_; exact h0_) | exact hcell _ (by with_reducible repeat (first | assumption | apply below_alloc | apply below_drew1 | exact Below.refl _ _))) (first | (go_at_call 38; (with_reducible refine (kinds_calls _).mono ?_); rintro e zw1 ⟨rfl, hb⟩; have hb1 := below_step (show Below w3.heap.size w3 _ from (by with_reducible repeat (first | assumption | apply below_alloc | apply below_drew1 | exact Below.refl _ _))) hb; clear hb) | (go_at_call 52; (with_reducible refine (HRB.out _ p7 _ (HS.out.below (by with_reducible repeat (first | assumption | apply below_alloc | apply below_drew1 | exact Below.refl _ _)))).mono ?_); rintro e zw2 ⟨A, c, rfl, S⟩))
  all_goals (go_wp2_with fail; go_meet; exact ⟨A, c, rfl, rfl, ⟨S⟩⟩)
 case rest =>
  obtain ⟨A, c, rfl, rfl, hK⟩ := hcut
  have S := hK.out
  clear hK HS HRB hcell hu
  replace S : Kn ok w0 [(p7, .cells #[.int .i64 g.f0, .int .i64 g.f1, .bool g.f2, .string g.f3, .int .i64 g.f4.f0, .int .i64 g.f4.f1, .int .i64 g.f4.f2, .string g.f4.f3, .int .u64 g.f5, .slice A g.f6.length c] TFr (0, 0)), (p2, .cells #[.int .i64 0, .int .i64 0, .bool false, .string ⟨#[]⟩, .int .i64 0, .int .i64 0, .int .i64 0, .string ⟨#[]⟩, .int .u64 0, .slice none 0 0] TFr (0, 0))] nil tt [V kSe (.slice A g.f6.length c) g.f6] wc := S
  have f_0 : wc.cell? ⟨p7, 0, none⟩ = some (.int .i64 g.f0) := S.cell 0 0 rfl rfl
  have f_1 : wc.cell? ⟨p7, 1, none⟩ = some (.int .i64 g.f1) := S.cell 0 1 rfl rfl
  have f_2 : wc.cell? ⟨p7, 2, none⟩ = some (.bool g.f2) := S.cell 0 2 rfl rfl
  have f_3 : wc.cell? ⟨p7, 3, none⟩ = some (.string g.f3) := S.cell 0 3 rfl rfl
  have f_4 : wc.cell? ⟨p7, 4, none⟩ = some (.int .i64 g.f4.f0) := S.cell 0 4 rfl rfl
  have f_5 : wc.cell? ⟨p7, 5, none⟩ = some (.int .i64 g.f4.f1) := S.cell 0 5 rfl rfl
  have f_6 : wc.cell? ⟨p7, 6, none⟩ = some (.int .i64 g.f4.f2) := S.cell 0 6 rfl rfl
  have f_7 : wc.cell? ⟨p7, 7, none⟩ = some (.string g.f4.f3) := S.cell 0 7 rfl rfl
  have f_8 : wc.cell? ⟨p7, 8, none⟩ = some (.int .u64 g.f5) := S.cell 0 8 rfl rfl
  have f_9 : wc.cell? ⟨p7, 9, none⟩ = some (.slice A g.f6.length c) := S.cell 0 9 rfl rfl
  have r_0 : wc.cell? ⟨p2, 0, none⟩ = some (.int .i64 0) := S.cell 1 0 rfl rfl
  have zr_0 : wc.frozen? ⟨p2, 0, none⟩ = false := S.frozen 1 0 rfl
  have r_1 : wc.cell? ⟨p2, 1, none⟩ = some (.int .i64 0) := S.cell 1 1 rfl rfl
  have zr_1 : wc.frozen? ⟨p2, 1, none⟩ = false := S.frozen 1 1 rfl
  have r_2 : wc.cell? ⟨p2, 2, none⟩ = some (.bool false) := S.cell 1 2 rfl rfl
  have zr_2 : wc.frozen? ⟨p2, 2, none⟩ = false := S.frozen 1 2 rfl
  have r_3 : wc.cell? ⟨p2, 3, none⟩ = some (.string ⟨#[]⟩) := S.cell 1 3 rfl rfl
  have zr_3 : wc.frozen? ⟨p2, 3, none⟩ = false := S.frozen 1 3 rfl
  have r_4 : wc.cell? ⟨p2, 4, none⟩ = some (.int .i64 0) := S.cell 1 4 rfl rfl
  have zr_4 : wc.frozen? ⟨p2, 4, none⟩ = false := S.frozen 1 4 rfl
  have r_5 : wc.cell? ⟨p2, 5, none⟩ = some (.int .i64 0) := S.cell 1 5 rfl rfl
  have zr_5 : wc.frozen? ⟨p2, 5, none⟩ = false := S.frozen 1 5 rfl
  have r_6 : wc.cell? ⟨p2, 6, none⟩ = some (.int .i64 0) := S.cell 1 6 rfl rfl
  have zr_6 : wc.frozen? ⟨p2, 6, none⟩ = false := S.frozen 1 6 rfl
  have r_7 : wc.cell? ⟨p2, 7, none⟩ = some (.string ⟨#[]⟩) := S.cell 1 7 rfl rfl
  have zr_7 : wc.frozen? ⟨p2, 7, none⟩ = false := S.frozen 1 7 rfl
  have r_8 : wc.cell? ⟨p2, 8, none⟩ = some (.int .u64 0) := S.cell 1 8 rfl rfl
  have zr_8 : wc.frozen? ⟨p2, 8, none⟩ = false := S.frozen 1 8 rfl
  have r_9 : wc.cell? ⟨p2, 9, none⟩ = some (.slice none 0 0) := S.cell 1 9 rfl rfl
  have zr_9 : wc.frozen? ⟨p2, 9, none⟩ = false := S.frozen 1 9 rfl
  have hbq1 : (tq == (s.size : Int)) = decide (tq = (s.size : Int)) := rfl
  cases is with
  | true =>
   go_wp2
   clear f_0 f_1 f_2 f_3 f_4 f_5 f_6 f_7 f_8 f_9 r_0 zr_0 r_1 zr_1 r_2 zr_2 r_3 zr_3 r_4 zr_4 r_5 zr_5 r_6 zr_6 r_7 zr_7 r_8 zr_8 r_9 zr_9
   generalize hg : World.setCell wc ⟨p2, 0, none⟩ _ = w4
   replace S := S.set 1 hg rfl
   clear hg
   generalize hg : World.setCell w4 ⟨p2, 1, none⟩ _ = w5
   replace S := S.set 1 hg rfl
   clear hg
   generalize hg : World.setCell w5 ⟨p2, 2, none⟩ _ = w6
   replace S := S.set 1 hg rfl
   clear hg
   replace S : Kn ok w0 [(p7, .cells #[.int .i64 g.f0, .int .i64 g.f1, .bool g.f2, .string g.f3, .int .i64 g.f4.f0, .int .i64 g.f4.f1, .int .i64 g.f4.f2, .string g.f4.f3, .int .u64 g.f5, .slice A g.f6.length c] TFr (0, 0)), (p2, .cells #[.int .i64 g.f0, .int .i64 g.f1, .bool g.f2, .string ⟨#[]⟩, .int .i64 0, .int .i64 0, .int .i64 0, .string ⟨#[]⟩, .int .u64 0, .slice none 0 0] TFr (0, 0))] nil tt [V kSe (.slice A g.f6.length c) g.f6] w6 := S
   generalize hg : World.setCell w6 ⟨p2, 3, none⟩ _ = w7
   replace S := S.set 1 hg rfl
   clear hg
   generalize hg : World.setCell w7 ⟨p2, 4, none⟩ _ = w8
   replace S := S.set 1 hg rfl
   clear hg
   generalize hg : World.setCell w8 ⟨p2, 5, none⟩ _ = w9
   replace S := S.set 1 hg rfl
   clear hg
   replace S : Kn ok w0 [(p7, .cells #[.int .i64 g.f0, .int .i64 g.f1, .bool g.f2, .string g.f3, .int .i64 g.f4.f0, .int .i64 g.f4.f1, .int .i64 g.f4.f2, .string g.f4.f3, .int .u64 g.f5, .slice A g.f6.length c] TFr (0, 0)), (p2, .cells #[.int .i64 g.f0, .int .i64 g.f1, .bool g.f2, .string g.f3, .int .i64 g.f4.f0, .int .i64 g.f4.f1, .int .i64 0, .string ⟨#[]⟩, .int .u64 0, .slice none 0 0] TFr (0, 0))] nil tt [V kSe (.slice A g.f6.length c) g.f6] w9 := S
   generalize hg : World.setCell w9 ⟨p2, 6, none⟩ _ = w10
   replace S := S.set 1 hg rfl
   clear hg
   generalize hg : World.setCell w10 ⟨p2, 7, none⟩ _ = w11
   replace S := S.set 1 hg rfl
   clear hg
   generalize hg : World.setCell w11 ⟨p2, 8, none⟩ _ = w12
   replace S := S.set 1 hg rfl
   clear hg
   replace S : Kn ok w0 [(p7, .cells #[.int .i64 g.f0, .int .i64 g.f1, .bool g.f2, .string g.f3, .int .i64 g.f4.f0, .int .i64 g.f4.f1, .int .i64 g.f4.f2, .string g.f4.f3, .int .u64 g.f5, .slice A g.f6.length c] TFr (0, 0)), (p2, .cells #[.int .i64 g.f0, .int .i64 g.f1, .bool g.f2, .string g.f3, .int .i64 g.f4.f0, .int .i64 g.f4.f1, .int .i64 g.f4.f2, .string g.f4.f3, .int .u64 g.f5, .slice none 0 0] TFr (0, 0))] nil tt [V kSe (.slice A g.f6.length c) g.f6] w12 := S
   generalize hg : World.setCell w12 ⟨p2, 9, none⟩ _ = w13
   replace S := S.set 1 hg rfl
   clear hg
   replace S : Kn ok w0 [(p7, .cells #[.int .i64 g.f0, .int .i64 g.f1, .bool g.f2, .string g.f3, .int .i64 g.f4.f0, .int .i64 g.f4.f1, .int .i64 g.f4.f2, .string g.f4.f3, .int .u64 g.f5, .slice A g.f6.length c] TFr (0, 0)), (p2, .cells #[.int .i64 g.f0, .int .i64 g.f1, .bool g.f2, .string g.f3, .int .i64 g.f4.f0, .int .i64 g.f4.f1, .int .i64 g.f4.f2, .string g.f4.f3, .int .u64 g.f5, .slice A g.f6.length c] TFr (0, 0))] nil tt [V kSe (.slice A g.f6.length c) g.f6] w13 := S
   have b6 := S.get 1 rfl
   have hV := S.out 0 rfl
   have hBe := S.bel
   clear S
   refine bodyPost_ret (results_ct rfl _ _ p2 TFr #[.int .i64 g.f0, .int .i64 g.f1, .bool g.f2, .string g.f3, .int .i64 g.f4.f0, .int .i64 g.f4.f1, .int .i64 g.f4.f2, .string g.f4.f3, .int .u64 g.f5, .slice A g.f6.length c] (0, 0) _ rfl b6 Try.underlying27 rfl (by kernel_rfl)) rfl ?_
   exact ⟨A, c, rfl, hV, hBe⟩
  | false =>
   go_wp2
   clear f_0 f_1 f_2 f_3 f_4 f_5 f_6 f_7 f_8 f_9 r_0 zr_0 r_1 zr_1 r_2 zr_2 r_3 zr_3 r_4 zr_4 r_5 zr_5 r_6 zr_6 r_7 zr_7 r_8 zr_8 r_9 zr_9
   generalize hg : World.setCell wc ⟨p2, 0, none⟩ _ = w4
   replace S := S.set 1 hg rfl
   clear hg
   generalize hg : World.setCell w4 ⟨p2, 1, none⟩ _ = w5
   replace S := S.set 1 hg rfl
   clear hg
   generalize hg : World.setCell w5 ⟨p2, 2, none⟩ _ = w6
   replace S := S.set 1 hg rfl
   clear hg
   replace S : Kn ok w0 [(p7, .cells #[.int .i64 g.f0, .int .i64 g.f1, .bool g.f2, .string g.f3, .int .i64 g.f4.f0, .int .i64 g.f4.f1, .int .i64 g.f4.f2, .string g.f4.f3, .int .u64 g.f5, .slice A g.f6.length c] TFr (0, 0)), (p2, .cells #[.int .i64 g.f0, .int .i64 g.f1, .bool g.f2, .string ⟨#[]⟩, .int .i64 0, .int .i64 0, .int .i64 0, .string ⟨#[]⟩, .int .u64 0, .slice none 0 0] TFr (0, 0))] nil tt [V kSe (.slice A g.f6.length c) g.f6] w6 := S
   generalize hg : World.setCell w6 ⟨p2, 3, none⟩ _ = w7
   replace S := S.set 1 hg rfl
   clear hg
   generalize hg : World.setCell w7 ⟨p2, 4, none⟩ _ = w8
   replace S := S.set 1 hg rfl
   clear hg
   generalize hg : World.setCell w8 ⟨p2, 5, none⟩ _ = w9
   replace S := S.set 1 hg rfl
   clear hg
   replace S : Kn ok w0 [(p7, .cells #[.int .i64 g.f0, .int .i64 g.f1, .bool g.f2, .string g.f3, .int .i64 g.f4.f0, .int .i64 g.f4.f1, .int .i64 g.f4.f2, .string g.f4.f3, .int .u64 g.f5, .slice A g.f6.length c] TFr (0, 0)), (p2, .cells #[.int .i64 g.f0, .int .i64 g.f1, .bool g.f2, .string g.f3, .int .i64 g.f4.f0, .int .i64 g.f4.f1, .int .i64 0, .string ⟨#[]⟩, .int .u64 0, .slice none 0 0] TFr (0, 0))] nil tt [V kSe (.slice A g.f6.length c) g.f6] w9 := S
   generalize hg : World.setCell w9 ⟨p2, 6, none⟩ _ = w10
   replace S := S.set 1 hg rfl
   clear hg
   generalize hg : World.setCell w10 ⟨p2, 7, none⟩ _ = w11
   replace S := S.set 1 hg rfl
   clear hg
   generalize hg : World.setCell w11 ⟨p2, 8, none⟩ _ = w12
   replace S := S.set 1 hg rfl
   clear hg
   replace S : Kn ok w0 [(p7, .cells #[.int .i64 g.f0, .int .i64 g.f1, .bool g.f2, .string g.f3, .int .i64 g.f4.f0, .int .i64 g.f4.f1, .int .i64 g.f4.f2, .string g.f4.f3, .int .u64 g.f5, .slice A g.f6.length c] TFr (0, 0)), (p2, .cells #[.int .i64 g.f0, .int .i64 g.f1, .bool g.f2, .string g.f3, .int .i64 g.f4.f0, .int .i64 g.f4.f1, .int .i64 g.f4.f2, .string g.f4.f3, .int .u64 g.f5, .slice none 0 0] TFr (0, 0))] nil tt [V kSe (.slice A g.f6.length c) g.f6] w12 := S
   generalize hg : World.setCell w12 ⟨p2, 9, none⟩ _ = w13
   replace S := S.set 1 hg rfl
   clear hg
   replace S : Kn ok w0 [(p7, .cells #[.int .i64 g.f0, .int .i64 g.f1, .bool g.f2, .string g.f3, .int .i64 g.f4.f0, .int .i64 g.f4.f1, .int .i64 g.f4.f2, .string g.f4.f3, .int .u64 g.f5, .slice A g.f6.length c] TFr (0, 0)), (p2, .cells #[.int .i64 g.f0, .int .i64 g.f1, .bool g.f2, .string g.f3, .int .i64 g.f4.f0, .int .i64 g.f4.f1, .int .i64 g.f4.f2, .string g.f4.f3, .int .u64 g.f5, .slice A g.f6.length c] TFr (0, 0))] nil tt [V kSe (.slice A g.f6.length c) g.f6] w13 := S
   have b6 := S.get 1 rfl
   have hV := S.out 0 rfl
   have hBe := S.bel
   clear S
   refine bodyPost_ret (results_ct rfl _ _ p2 TFr #[.int .i64 g.f0, .int .i64 g.f1, .bool g.f2, .string g.f3, .int .i64 g.f4.f0, .int .i64 g.f4.f1, .int .i64 g.f4.f2, .string g.f4.f3, .int .u64 g.f5, .slice A g.f6.length c] (0, 0) _ rfl b6 Try.underlying27 rfl (by kernel_rfl)) rfl ?_
   exact ⟨A, c, rfl, hV, hBe⟩
set_option maxHeartbeats 8000000 in
theorem read_k3 (ok : Nat → Prop) (s : ByteArray) (hs : s.size ≤ 100000) (w0 w : World) (S : Kn ok w0 [] nil tt [] w) (n q : Int) (hx : ∀ h : 0 < s.size, ((s[0]'h).toNat : Int) = 3) (HG : Aside0 (∀ w : World, Calls Try.prog 42 #[.string s, .int .i64 1] w fun e w' => e = .returned (.tuple #[.int .u64 n, .int .i64 q, .int .i64 0]) ∧ Below w.heap.size w w')) (cb : (s.toList == ([] : List UInt8)) = false) (c00 : (0 : Int) < (s.size : Int)) (hq0 : 0 ≤ q) (hq1 : q ≤ s.size) (hwn : IntKind.i64.wrap n = n) (c4b : decide (n > 1099511627776) = false) (c4d : decide (1099511627776 < n) = false) :
  Calls Try.prog 32 #[.string s] w fun e w' => ∃ A c, e = .returned (.tuple #[.agg (cF (rdBody (⟨3, n, false, ⟨#[]⟩, zv, 0, []⟩ : Fr) s q).1 (.slice A (rdBody (⟨3, n, false, ⟨#[]⟩, zv, 0, []⟩ : Fr) s q).1.f6.length c)), .bool ((rdBody (⟨3, n, false, ⟨#[]⟩, zv, 0, []⟩ : Fr) s q).2.2 && decide ((rdBody (⟨3, n, false, ⟨#[]⟩, zv, 0, []⟩ : Fr) s q).2.1 = s.size))]) ∧ (V kSe (.slice A (rdBody (⟨3, n, false, ⟨#[]⟩, zv, 0, []⟩ : Fr) s q).1.f6.length c) (rdBody (⟨3, n, false, ⟨#[]⟩, zv, 0, []⟩ : Fr) s q).1.f6).P w' (fun k => ok k ∨ w0.heap.size ≤ k) ∧ Below w0.heap.size w0 w' := by
 have HRB := Aside0.mk (fun (L : List (Nat × Obj)) (p : Nat) (z : World) (S : Kn ok w0 ((p, .cells (cF (⟨3, n, false, ⟨#[]⟩, zv, 0, []⟩ : Fr) (.slice none 0 0)) TFr (0, 0)) :: L) nil tt [] z) => rdb3 ok (⟨3, n, false, ⟨#[]⟩, zv, 0, []⟩ : Fr) p s q hs hq0 hq1 L nil tt [] w0 z S rfl rfl rfl)
 have hg0 : (rdBody (⟨3, n, false, ⟨#[]⟩, zv, 0, []⟩ : Fr) s q).1.f0 = 3 := rdBody_kind (⟨3, n, false, ⟨#[]⟩, zv, 0, []⟩ : Fr) s q
 generalize rdBody (⟨3, n, false, ⟨#[]⟩, zv, 0, []⟩ : Fr) s q = rb at HRB hg0 ⊢
 obtain ⟨g, tq, is⟩ := rb
 dsimp only at HRB hg0 ⊢
 have HG0 := Aside0.mk hg0
 clear hg0
 go_enter Try.func32, Try.ntmps32
 go_upto_region 1 with (fail)
 generalize hg : World.alloc _ _ = w1
 replace S := S.new hg
 clear hg
 generalize w.heap.size = p2 at S ⊢
 replace S : Kn ok w0 [(p2, .cells #[.int .i64 0, .int .i64 0, .bool false, .string ⟨#[]⟩, .int .i64 0, .int .i64 0, .int .i64 0, .string ⟨#[]⟩, .int .u64 0, .slice none 0 0] TFr (0, 0))] nil tt [] w1 := S
 go_wp2_with fail
 refine (HG.out _).mono ?_
 rintro e w2 ⟨rfl, hb⟩
 replace S := S.below hb
 clear hb HG
 go_upto_region 7 with (fail)
 generalize hg : World.alloc _ _ = w3
 replace S := S.new hg
 clear hg
 generalize w2.heap.size = p7 at S ⊢
 replace S : Kn ok w0 [(p7, .cells #[.int .i64 3, .int .i64 n, .bool false, .string ⟨#[]⟩, .int .i64 0, .int .i64 0, .int .i64 0, .string ⟨#[]⟩, .int .u64 0, .slice none 0 0] TFr (0, 0)), (p2, .cells #[.int .i64 0, .int .i64 0, .bool false, .string ⟨#[]⟩, .int .i64 0, .int .i64 0, .int .i64 0, .string ⟨#[]⟩, .int .u64 0, .slice none 0 0] TFr (0, 0))] nil tt [] w3 := S
 have hu := Try.underlying64
 have hcell : ∀ w' : World, Below w3.heap.size w3 w' → w'.cell? ⟨p7, 0, none⟩ = some (.int .i64 3) := fun w' hb => (S.below hb).cell 0 0 rfl rfl
 have HS := Aside0.mk S
 clear S
 go_cut [8, 9] (fun v8 v9 wx => ∃ A c, v8 = .int .i64 tq ∧ v9 = .bool is ∧ Aside0 (Kn ok w0 [(p7, .cells (cF g (.slice A g.f6.length c)) TFr (0, 0)), (p2, .cells #[.int .i64 0, .int .i64 0, .bool false, .string ⟨#[]⟩, .int .i64 0, .int .i64 0, .int .i64 0, .string ⟨#[]⟩, .int .u64 0, .slice none 0 0] TFr (0, 0))] nil tt [V kSe (.slice A g.f6.length c) g.f6] wx))
 case first =>
  go_region_held3 (fun w' => w'.cell? ⟨p7, 0, none⟩ = some (.int .i64 3)) (first | (have h0_ : _ = some (Value.int .i64 g.f0) := S.cell 0 0 rfl rfl; rw [HG0.out] at h0_; exact h0_) | exact hcell _ (by with_reducible repeat (first | assumption | apply below_alloc | apply below_drew1 | exact Below.refl _ _))) (first | (go_at_call 38; (with_reducible refine (kinds_calls _).mono ?_); rintro e zw1 ⟨rfl, hb⟩; have hb1 := below_step (show Below w3.heap.size w3 _ from (by with_reducible repeat (first | assumption | apply below_alloc | apply below_drew1 | exact Below.refl _ _))) hb; clear hb) | (go_at_call 55; (with_reducible refine (HRB.out _ p7 _ (HS.out.below (by with_reducible repeat (first | assumption | apply below_alloc | apply below_drew1 | exact Below.refl _ _)))).mono ?_); rintro e zw2 ⟨A, c, rfl, S⟩))
  all_goals (go_wp2_with fail; go_meet; exact ⟨A, c, rfl, rfl, ⟨S⟩⟩)
 case rest =>
  obtain ⟨A, c, rfl, rfl, hK⟩ := hcut
  have S := hK.out
  clear hK HS HRB hcell hu
  replace S : Kn ok w0 [(p7, .cells #[.int .i64 g.f0, .int .i64 g.f1, .bool g.f2, .string g.f3, .int .i64 g.f4.f0, .int .i64 g.f4.f1, .int .i64 g.f4.f2, .string g.f4.f3, .int .u64 g.f5, .slice A g.f6.length c] TFr (0, 0)), (p2, .cells #[.int .i64 0, .int .i64 0, .bool false, .string ⟨#[]⟩, .int .i64 0, .int .i64 0, .int .i64 0, .string ⟨#[]⟩, .int .u64 0, .slice none 0 0] TFr (0, 0))] nil tt [V kSe (.slice A g.f6.length c) g.f6] wc := S
  have f_0 : wc.cell? ⟨p7, 0, none⟩ = some (.int .i64 g.f0) := S.cell 0 0 rfl rfl
  have f_1 : wc.cell? ⟨p7, 1, none⟩ = some (.int .i64 g.f1) := S.cell 0 1 rfl rfl
  have f_2 : wc.cell? ⟨p7, 2, none⟩ = some (.bool g.f2) := S.cell 0 2 rfl rfl
  have f_3 : wc.cell? ⟨p7, 3, none⟩ = some (.string g.f3) := S.cell 0 3 rfl rfl
  have f_4 : wc.cell? ⟨p7, 4, none⟩ = some (.int .i64 g.f4.f0) := S.cell 0 4 rfl rfl
  have f_5 : wc.cell? ⟨p7, 5, none⟩ = some (.int .i64 g.f4.f1) := S.cell 0 5 rfl rfl
  have f_6 : wc.cell? ⟨p7, 6, none⟩ = some (.int .i64 g.f4.f2) := S.cell 0 6 rfl rfl
  have f_7 : wc.cell? ⟨p7, 7, none⟩ = some (.string g.f4.f3) := S.cell 0 7 rfl rfl
  have f_8 : wc.cell? ⟨p7, 8, none⟩ = some (.int .u64 g.f5) := S.cell 0 8 rfl rfl
  have f_9 : wc.cell? ⟨p7, 9, none⟩ = some (.slice A g.f6.length c) := S.cell 0 9 rfl rfl
  have r_0 : wc.cell? ⟨p2, 0, none⟩ = some (.int .i64 0) := S.cell 1 0 rfl rfl
  have zr_0 : wc.frozen? ⟨p2, 0, none⟩ = false := S.frozen 1 0 rfl
  have r_1 : wc.cell? ⟨p2, 1, none⟩ = some (.int .i64 0) := S.cell 1 1 rfl rfl
  have zr_1 : wc.frozen? ⟨p2, 1, none⟩ = false := S.frozen 1 1 rfl
  have r_2 : wc.cell? ⟨p2, 2, none⟩ = some (.bool false) := S.cell 1 2 rfl rfl
  have zr_2 : wc.frozen? ⟨p2, 2, none⟩ = false := S.frozen 1 2 rfl
  have r_3 : wc.cell? ⟨p2, 3, none⟩ = some (.string ⟨#[]⟩) := S.cell 1 3 rfl rfl
  have zr_3 : wc.frozen? ⟨p2, 3, none⟩ = false := S.frozen 1 3 rfl
  have r_4 : wc.cell? ⟨p2, 4, none⟩ = some (.int .i64 0) := S.cell 1 4 rfl rfl
  have zr_4 : wc.frozen? ⟨p2, 4, none⟩ = false := S.frozen 1 4 rfl
  have r_5 : wc.cell? ⟨p2, 5, none⟩ = some (.int .i64 0) := S.cell 1 5 rfl rfl
  have zr_5 : wc.frozen? ⟨p2, 5, none⟩ = false := S.frozen 1 5 rfl
  have r_6 : wc.cell? ⟨p2, 6, none⟩ = some (.int .i64 0) := S.cell 1 6 rfl rfl
  have zr_6 : wc.frozen? ⟨p2, 6, none⟩ = false := S.frozen 1 6 rfl
  have r_7 : wc.cell? ⟨p2, 7, none⟩ = some (.string ⟨#[]⟩) := S.cell 1 7 rfl rfl
  have zr_7 : wc.frozen? ⟨p2, 7, none⟩ = false := S.frozen 1 7 rfl
  have r_8 : wc.cell? ⟨p2, 8, none⟩ = some (.int .u64 0) := S.cell 1 8 rfl rfl
  have zr_8 : wc.frozen? ⟨p2, 8, none⟩ = false := S.frozen 1 8 rfl
  have r_9 : wc.cell? ⟨p2, 9, none⟩ = some (.slice none 0 0) := S.cell 1 9 rfl rfl
  have zr_9 : wc.frozen? ⟨p2, 9, none⟩ = false := S.frozen 1 9 rfl
  have hbq1 : (tq == (s.size : Int)) = decide (tq = (s.size : Int)) := rfl
  cases is with
  | true =>
   go_wp2
   clear f_0 f_1 f_2 f_3 f_4 f_5 f_6 f_7 f_8 f_9 r_0 zr_0 r_1 zr_1 r_2 zr_2 r_3 zr_3 r_4 zr_4 r_5 zr_5 r_6 zr_6 r_7 zr_7 r_8 zr_8 r_9 zr_9
   generalize hg : World.setCell wc ⟨p2, 0, none⟩ _ = w4
   replace S := S.set 1 hg rfl
   clear hg
   generalize hg : World.setCell w4 ⟨p2, 1, none⟩ _ = w5
   replace S := S.set 1 hg rfl
   clear hg
   generalize hg : World.setCell w5 ⟨p2, 2, none⟩ _ = w6
   replace S := S.set 1 hg rfl
   clear hg
   replace S : Kn ok w0 [(p7, .cells #[.int .i64 g.f0, .int .i64 g.f1, .bool g.f2, .string g.f3, .int .i64 g.f4.f0, .int .i64 g.f4.f1, .int .i64 g.f4.f2, .string g.f4.f3, .int .u64 g.f5, .slice A g.f6.length c] TFr (0, 0)), (p2, .cells #[.int .i64 g.f0, .int .i64 g.f1, .bool g.f2, .string ⟨#[]⟩, .int .i64 0, .int .i64 0, .int .i64 0, .string ⟨#[]⟩, .int .u64 0, .slice none 0 0] TFr (0, 0))] nil tt [V kSe (.slice A g.f6.length c) g.f6] w6 := S
   generalize hg : World.setCell w6 ⟨p2, 3, none⟩ _ = w7
   replace S := S.set 1 hg rfl
   clear hg
   generalize hg : World.setCell w7 ⟨p2, 4, none⟩ _ = w8
   replace S := S.set 1 hg rfl
   clear hg
   generalize hg : World.setCell w8 ⟨p2, 5, none⟩ _ = w9
   replace S := S.set 1 hg rfl
   clear hg
   replace S : Kn ok w0 [(p7, .cells #[.int .i64 g.f0, .int .i64 g.f1, .bool g.f2, .string g.f3, .int .i64 g.f4.f0, .int .i64 g.f4.f1, .int .i64 g.f4.f2, .string g.f4.f3, .int .u64 g.f5, .slice A g.f6.length c] TFr (0, 0)), (p2, .cells #[.int .i64 g.f0, .int .i64 g.f1, .bool g.f2, .string g.f3, .int .i64 g.f4.f0, .int .i64 g.f4.f1, .int .i64 0, .string ⟨#[]⟩, .int .u64 0, .slice none 0 0] TFr (0, 0))] nil tt [V kSe (.slice A g.f6.length c) g.f6] w9 := S
   generalize hg : World.setCell w9 ⟨p2, 6, none⟩ _ = w10
   replace S := S.set 1 hg rfl
   clear hg
   generalize hg : World.setCell w10 ⟨p2, 7, none⟩ _ = w11
   replace S := S.set 1 hg rfl
   clear hg
   generalize hg : World.setCell w11 ⟨p2, 8, none⟩ _ = w12
   replace S := S.set 1 hg rfl
   clear hg
   replace S : Kn ok w0 [(p7, .cells #[.int .i64 g.f0, .int .i64 g.f1, .bool g.f2, .string g.f3, .int .i64 g.f4.f0, .int .i64 g.f4.f1, .int .i64 g.f4.f2, .string g.f4.f3, .int .u64 g.f5, .slice A g.f6.length c] TFr (0, 0)), (p2, .cells #[.int .i64 g.f0, .int .i64 g.f1, .bool g.f2, .string g.f3, .int .i64 g.f4.f0, .int .i64 g.f4.f1, .int .i64 g.f4.f2, .string g.f4.f3, .int .u64 g.f5, .slice none 0 0] TFr (0, 0))] nil tt [V kSe (.slice A g.f6.length c) g.f6] w12 := S
   generalize hg : World.setCell w12 ⟨p2, 9, none⟩ _ = w13
   replace S := S.set 1 hg rfl
   clear hg
   replace S : Kn ok w0 [(p7, .cells #[.int .i64 g.f0, .int .i64 g.f1, .bool g.f2, .string g.f3, .int .i64 g.f4.f0, .int .i64 g.f4.f1, .int .i64 g.f4.f2, .string g.f4.f3, .int .u64 g.f5, .slice A g.f6.length c] TFr (0, 0)), (p2, .cells #[.int .i64 g.f0, .int .i64 g.f1, .bool g.f2, .string g.f3, .int .i64 g.f4.f0, .int .i64 g.f4.f1, .int .i64 g.f4.f2, .string g.f4.f3, .int .u64 g.f5, .slice A g.f6.length c] TFr (0, 0))] nil tt [V kSe (.slice A g.f6.length c) g.f6] w13 := S
   have b6 := S.get 1 rfl
   have hV := S.out 0 rfl
   have hBe := S.bel
   clear S
   refine bodyPost_ret (results_ct rfl _ _ p2 TFr #[.int .i64 g.f0, .int .i64 g.f1, .bool g.f2, .string g.f3, .int .i64 g.f4.f0, .int .i64 g.f4.f1, .int .i64 g.f4.f2, .string g.f4.f3, .int .u64 g.f5, .slice A g.f6.length c] (0, 0) _ rfl b6 Try.underlying27 rfl (by kernel_rfl)) rfl ?_
   exact ⟨A, c, rfl, hV, hBe⟩
  | false =>
   go_wp2
   clear f_0 f_1 f_2 f_3 f_4 f_5 f_6 f_7 f_8 f_9 r_0 zr_0 r_1 zr_1 r_2 zr_2 r_3 zr_3 r_4 zr_4 r_5 zr_5 r_6 zr_6 r_7 zr_7 r_8 zr_8 r_9 zr_9
   generalize hg : World.setCell wc ⟨p2, 0, none⟩ _ = w4
   replace S := S.set 1 hg rfl
   clear hg
   generalize hg : World.setCell w4 ⟨p2, 1, none⟩ _ = w5
   replace S := S.set 1 hg rfl
   clear hg
   generalize hg : World.setCell w5 ⟨p2, 2, none⟩ _ = w6
   replace S := S.set 1 hg rfl
   clear hg
   replace S : Kn ok w0 [(p7, .cells #[.int .i64 g.f0, .int .i64 g.f1, .bool g.f2, .string g.f3, .int .i64 g.f4.f0, .int .i64 g.f4.f1, .int .i64 g.f4.f2, .string g.f4.f3, .int .u64 g.f5, .slice A g.f6.length c] TFr (0, 0)), (p2, .cells #[.int .i64 g.f0, .int .i64 g.f1, .bool g.f2, .string ⟨#[]⟩, .int .i64 0, .int .i64 0, .int .i64 0, .string ⟨#[]⟩, .int .u64 0, .slice none 0 0] TFr (0, 0))] nil tt [V kSe (.slice A g.f6.length c) g.f6] w6 := S
   generalize hg : World.setCell w6 ⟨p2, 3, none⟩ _ = w7
   replace S := S.set 1 hg rfl
   clear hg
   generalize hg : World.setCell w7 ⟨p2, 4, none⟩ _ = w8
   replace S := S.set 1 hg rfl
   clear hg
   generalize hg : World.setCell w8 ⟨p2, 5, none⟩ _ = w9
   replace S := S.set 1 hg rfl
   clear hg
   replace S : Kn ok w0 [(p7, .cells #[.int .i64 g.f0, .int .i64 g.f1, .bool g.f2, .string g.f3, .int .i64 g.f4.f0, .int .i64 g.f4.f1, .int .i64 g.f4.f2, .string g.f4.f3, .int .u64 g.f5, .slice A g.f6.length c] TFr (0, 0)), (p2, .cells #[.int .i64 g.f0, .int .i64 g.f1, .bool g.f2, .string g.f3, .int .i64 g.f4.f0, .int .i64 g.f4.f1, .int .i64 0, .string ⟨#[]⟩, .int .u64 0, .slice none 0 0] TFr (0, 0))] nil tt [V kSe (.slice A g.f6.length c) g.f6] w9 := S
   generalize hg : World.setCell w9 ⟨p2, 6, none⟩ _ = w10
   replace S := S.set 1 hg rfl
   clear hg
   generalize hg : World.setCell w10 ⟨p2, 7, none⟩ _ = w11
   replace S := S.set 1 hg rfl
   clear hg
   generalize hg : World.setCell w11 ⟨p2, 8, none⟩ _ = w12
   replace S := S.set 1 hg rfl
   clear hg
   replace S : Kn ok w0 [(p7, .cells #[.int .i64 g.f0, .int .i64 g.f1, .bool g.f2, .string g.f3, .int .i64 g.f4.f0, .int .i64 g.f4.f1, .int .i64 g.f4.f2, .string g.f4.f3, .int .u64 g.f5, .slice A g.f6.length c] TFr (0, 0)), (p2, .cells #[.int .i64 g.f0, .int .i64 g.f1, .bool g.f2, .string g.f3, .int .i64 g.f4.f0, .int .i64 g.f4.f1, .int .i64 g.f4.f2, .string g.f4.f3, .int .u64 g.f5, .slice none 0 0] TFr (0, 0))] nil tt [V kSe (.slice A g.f6.length c) g.f6] w12 := S
   generalize hg : World.setCell w12 ⟨p2, 9, none⟩ _ = w13
   replace S := S.set 1 hg rfl
   clear hg
   replace S : Kn ok w0 [(p7, .cells #[.int .i64 g.f0, .int .i64 g.f1, .bool g.f2, .string g.f3, .int .i64 g.f4.f0, .int .i64 g.f4.f1, .int .i64 g.f4.f2, .string g.f4.f3, .int .u64 g.f5, .slice A g.f6.length c] TFr (0, 0)), (p2, .cells #[.int .i64 g.f0, .int .i64 g.f1, .bool g.f2, .string g.f3, .int .i64 g.f4.f0, .int .i64 g.f4.f1, .int .i64 g.f4.f2, .string g.f4.f3, .int .u64 g.f5, .slice A g.f6.length c] TFr (0, 0))] nil tt [V kSe (.slice A g.f6.length c) g.f6] w13 := S
   have b6 := S.get 1 rfl
   have hV := S.out 0 rfl
   have hBe := S.bel
   clear S
   refine bodyPost_ret (results_ct rfl _ _ p2 TFr #[.int .i64 g.f0, .int .i64 g.f1, .bool g.f2, .string g.f3, .int .i64 g.f4.f0, .int .i64 g.f4.f1, .int .i64 g.f4.f2, .string g.f4.f3, .int .u64 g.f5, .slice A g.f6.length c] (0, 0) _ rfl b6 Try.underlying27 rfl (by kernel_rfl)) rfl ?_
   exact ⟨A, c, rfl, hV, hBe⟩
set_option maxHeartbeats 8000000 in
theorem read_k4 (ok : Nat → Prop) (s : ByteArray) (hs : s.size ≤ 100000) (w0 w : World) (S : Kn ok w0 [] nil tt [] w) (n q : Int) (hx : ∀ h : 0 < s.size, ((s[0]'h).toNat : Int) = 4) (HG : Aside0 (∀ w : World, Calls Try.prog 42 #[.string s, .int .i64 1] w fun e w' => e = .returned (.tuple #[.int .u64 n, .int .i64 q, .int .i64 0]) ∧ Below w.heap.size w w')) (cb : (s.toList == ([] : List UInt8)) = false) (c00 : (0 : Int) < (s.size : Int)) (hq0 : 0 ≤ q) (hq1 : q ≤ s.size) (hwn : IntKind.i64.wrap n = n) (c4b : decide (n > 1099511627776) = false) (c4d : decide (1099511627776 < n) = false) :
  Calls Try.prog 32 #[.string s] w fun e w' => ∃ A c, e = .returned (.tuple #[.agg (cF (rdBody (⟨4, n, false, ⟨#[]⟩, zv, 0, []⟩ : Fr) s q).1 (.slice A (rdBody (⟨4, n, false, ⟨#[]⟩, zv, 0, []⟩ : Fr) s q).1.f6.length c)), .bool ((rdBody (⟨4, n, false, ⟨#[]⟩, zv, 0, []⟩ : Fr) s q).2.2 && decide ((rdBody (⟨4, n, false, ⟨#[]⟩, zv, 0, []⟩ : Fr) s q).2.1 = s.size))]) ∧ (V kSe (.slice A (rdBody (⟨4, n, false, ⟨#[]⟩, zv, 0, []⟩ : Fr) s q).1.f6.length c) (rdBody (⟨4, n, false, ⟨#[]⟩, zv, 0, []⟩ : Fr) s q).1.f6).P w' (fun k => ok k ∨ w0.heap.size ≤ k) ∧ Below w0.heap.size w0 w' := by
 have HRB := Aside0.mk (fun (L : List (Nat × Obj)) (p : Nat) (z : World) (S : Kn ok w0 ((p, .cells (cF (⟨4, n, false, ⟨#[]⟩, zv, 0, []⟩ : Fr) (.slice none 0 0)) TFr (0, 0)) :: L) nil tt [] z) => rdb4 ok (⟨4, n, false, ⟨#[]⟩, zv, 0, []⟩ : Fr) p s q hs hq0 hq1 L nil tt [] w0 z S rfl rfl rfl)
 have hg0 : (rdBody (⟨4, n, false, ⟨#[]⟩, zv, 0, []⟩ : Fr) s q).1.f0 = 4 := rdBody_kind (⟨4, n, false, ⟨#[]⟩, zv, 0, []⟩ : Fr) s q
 generalize rdBody (⟨4, n, false, ⟨#[]⟩, zv, 0, []⟩ : Fr) s q = rb at HRB hg0 ⊢
 obtain ⟨g, tq, is⟩ := rb
 dsimp only at HRB hg0 ⊢
 have HG0 := Aside0.mk hg0
 clear hg0
 go_enter Try.func32, Try.ntmps32
 go_upto_region 1 with (fail)
 generalize hg : World.alloc _ _ = w1
 replace S := S.new hg
 clear hg
 generalize w.heap.size = p2 at S ⊢
 replace S : Kn ok w0 [(p2, .cells #[.int .i64 0, .int .i64 0, .bool false, .string ⟨#[]⟩, .int .i64 0, .int .i64 0, .int .i64 0, .string ⟨#[]⟩, .int .u64 0, .slice none 0 0] TFr (0, 0))] nil tt [] w1 := S
 go_wp2_with fail
 refine (HG.out _).mono ?_
 rintro e w2 ⟨rfl, hb⟩
 replace S := S.below hb
 clear hb HG
 go_upto_region 7 with (fail)
 generalize hg : World.alloc _ _ = w3
 replace S := S.new hg
 clear hg
 generalize w2.heap.size = p7 at S ⊢
 replace S : Kn ok w0 [(p7, .cells #[.int .i64 4, .int .i64 n, .bool false, .string ⟨#[]⟩, .int .i64 0, .int .i64 0, .int .i64 0, .string ⟨#[]⟩, .int .u64 0, .slice none 0 0] TFr (0, 0)), (p2, .cells #[.int .i64 0, .int .i64 0, .bool false, .string ⟨#[]⟩, .int .i64 0, .int .i64 0, .int .i64 0, .string ⟨#[]⟩, .int .u64 0, .slice none 0 0] TFr (0, 0))] nil tt [] w3 := S
 have hu := Try.underlying64
 have hcell : ∀ w' : World, Below w3.heap.size w3 w' → w'.cell? ⟨p7, 0, none⟩ = some (.int .i64 4) := fun w' hb => (S.below hb).cell 0 0 rfl rfl
 have HS := Aside0.mk S
 clear S
 go_cut [8, 9] (fun v8 v9 wx => ∃ A c, v8 = .int .i64 tq ∧ v9 = .bool is ∧ Aside0 (Kn ok w0 [(p7, .cells (cF g (.slice A g.f6.length c)) TFr (0, 0)), (p2, .cells #[.int .i64 0, .int .i64 0, .bool false, .string ⟨#[]⟩, .int .i64 0, .int .i64 0, .int .i64 0, .string ⟨#[]⟩, .int .u64 0, .slice none 0 0] TFr (0, 0))] nil tt [V kSe (.slice A g.f6.length c) g.f6] wx))
 case first =>
  go_region_held3 (fun w' => w'.cell? ⟨p7, 0, none⟩ = some (.int .i64 4)) (first | (have h0_ : _ = some (Value.int .i64 g.f0) := S.cell 0 0 rfl rfl; rw [HG0.out] at h0_; exact h0_) | exact hcell _ (by with_reducible repeat (first | assumption | apply below_alloc | apply below_drew1 | exact Below.refl _ _))) (first | (go_at_call 38; (with_reducible refine (kinds_calls _).mono ?_); rintro e zw1 ⟨rfl, hb⟩; have hb1 := below_step (show Below w3.heap.size w3 _ from (by with_reducible repeat (first | assumption | apply below_alloc | apply below_drew1 | exact Below.refl _ _))) hb; clear hb) | (go_at_call 58; (with_reducible refine (HRB.out _ p7 _ (HS.out.below (by with_reducible repeat (first | assumption | apply below_alloc | apply below_drew1 | exact Below.refl _ _)))).mono ?_); rintro e zw2 ⟨A, c, rfl, S⟩))
  all_goals (go_wp2_with fail; go_meet; exact ⟨A, c, rfl, rfl, ⟨S⟩⟩)
 case rest =>
  obtain ⟨A, c, rfl, rfl, hK⟩ := hcut
  have S := hK.out
  clear hK HS HRB hcell hu
  replace S : Kn ok w0 [(p7, .cells #[.int .i64 g.f0, .int .i64 g.f1, .bool g.f2, .string g.f3, .int .i64 g.f4.f0, .int .i64 g.f4.f1, .int .i64 g.f4.f2, .string g.f4.f3, .int .u64 g.f5, .slice A g.f6.length c] TFr (0, 0)), (p2, .cells #[.int .i64 0, .int .i64 0, .bool false, .string ⟨#[]⟩, .int .i64 0, .int .i64 0, .int .i64 0, .string ⟨#[]⟩, .int .u64 0, .slice none 0 0] TFr (0, 0))] nil tt [V kSe (.slice A g.f6.length c) g.f6] wc := S
  have f_0 : wc.cell? ⟨p7, 0, none⟩ = some (.int .i64 g.f0) := S.cell 0 0 rfl rfl
  have f_1 : wc.cell? ⟨p7, 1, none⟩ = some (.int .i64 g.f1) := S.cell 0 1 rfl rfl
  have f_2 : wc.cell? ⟨p7, 2, none⟩ = some (.bool g.f2) := S.cell 0 2 rfl rfl
  have f_3 : wc.cell? ⟨p7, 3, none⟩ = some (.string g.f3) := S.cell 0 3 rfl rfl
  have f_4 : wc.cell? ⟨p7, 4, none⟩ = some (.int .i64 g.f4.f0) := S.cell 0 4 rfl rfl
  have f_5 : wc.cell? ⟨p7, 5, none⟩ = some (.int .i64 g.f4.f1) := S.cell 0 5 rfl rfl
  have f_6 : wc.cell? ⟨p7, 6, none⟩ = some (.int .i64 g.f4.f2) := S.cell 0 6 rfl rfl
  have f_7 : wc.cell? ⟨p7, 7, none⟩ = some (.string g.f4.f3) := S.cell 0 7 rfl rfl
  have f_8 : wc.cell? ⟨p7, 8, none⟩ = some (.int .u64 g.f5) := S.cell 0 8 rfl rfl
  have f_9 : wc.cell? ⟨p7, 9, none⟩ = some (.slice A g.f6.length c) := S.cell 0 9 rfl rfl
  have r_0 : wc.cell? ⟨p2, 0, none⟩ = some (.int .i64 0) := S.cell 1 0 rfl rfl
  have zr_0 : wc.frozen? ⟨p2, 0, none⟩ = false := S.frozen 1 0 rfl
  have r_1 : wc.cell? ⟨p2, 1, none⟩ = some (.int .i64 0) := S.cell 1 1 rfl rfl
  have zr_1 : wc.frozen? ⟨p2, 1, none⟩ = false := S.frozen 1 1 rfl
  have r_2 : wc.cell? ⟨p2, 2, none⟩ = some (.bool false) := S.cell 1 2 rfl rfl
  have zr_2 : wc.frozen? ⟨p2, 2, none⟩ = false := S.frozen 1 2 rfl
  have r_3 : wc.cell? ⟨p2, 3, none⟩ = some (.string ⟨#[]⟩) := S.cell 1 3 rfl rfl
  have zr_3 : wc.frozen? ⟨p2, 3, none⟩ = false := S.frozen 1 3 rfl
  have r_4 : wc.cell? ⟨p2, 4, none⟩ = some (.int .i64 0) := S.cell 1 4 rfl rfl
  have zr_4 : wc.frozen? ⟨p2, 4, none⟩ = false := S.frozen 1 4 rfl
  have r_5 : wc.cell? ⟨p2, 5, none⟩ = some (.int .i64 0) := S.cell 1 5 rfl rfl
  have zr_5 : wc.frozen? ⟨p2, 5, none⟩ = false := S.frozen 1 5 rfl
  have r_6 : wc.cell? ⟨p2, 6, none⟩ = some (.int .i64 0) := S.cell 1 6 rfl rfl
  have zr_6 : wc.frozen? ⟨p2, 6, none⟩ = false := S.frozen 1 6 rfl
  have r_7 : wc.cell? ⟨p2, 7, none⟩ = some (.string ⟨#[]⟩) := S.cell 1 7 rfl rfl
  have zr_7 : wc.frozen? ⟨p2, 7, none⟩ = false := S.frozen 1 7 rfl
  have r_8 : wc.cell? ⟨p2, 8, none⟩ = some (.int .u64 0) := S.cell 1 8 rfl rfl
  have zr_8 : wc.frozen? ⟨p2, 8, none⟩ = false := S.frozen 1 8 rfl
  have r_9 : wc.cell? ⟨p2, 9, none⟩ = some (.slice none 0 0) := S.cell 1 9 rfl rfl
  have zr_9 : wc.frozen? ⟨p2, 9, none⟩ = false := S.frozen 1 9 rfl
  have hbq1 : (tq == (s.size : Int)) = decide (tq = (s.size : Int)) := rfl
  cases is with
  | true =>
   go_wp2
   clear f_0 f_1 f_2 f_3 f_4 f_5 f_6 f_7 f_8 f_9 r_0 zr_0 r_1 zr_1 r_2 zr_2 r_3 zr_3 r_4 zr_4 r_5 zr_5 r_6 zr_6 r_7 zr_7 r_8 zr_8 r_9 zr_9
   generalize hg : World.setCell wc ⟨p2, 0, none⟩ _ = w4
   replace S := S.set 1 hg rfl
   clear hg
   generalize hg : World.setCell w4 ⟨p2, 1, none⟩ _ = w5
   replace S := S.set 1 hg rfl
   clear hg
   generalize hg : World.setCell w5 ⟨p2, 2, none⟩ _ = w6
   replace S := S.set 1 hg rfl
   clear hg
   replace S : Kn ok w0 [(p7, .cells #[.int .i64 g.f0, .int .i64 g.f1, .bool g.f2, .string g.f3, .int .i64 g.f4.f0, .int .i64 g.f4.f1, .int .i64 g.f4.f2, .string g.f4.f3, .int .u64 g.f5, .slice A g.f6.length c] TFr (0, 0)), (p2, .cells #[.int .i64 g.f0, .int .i64 g.f1, .bool g.f2, .string ⟨#[]⟩, .int .i64 0, .int .i64 0, .int .i64 0, .string ⟨#[]⟩, .int .u64 0, .slice none 0 0] TFr (0, 0))] nil tt [V kSe (.slice A g.f6.length c) g.f6] w6 := S
   generalize hg : World.setCell w6 ⟨p2, 3, none⟩ _ = w7
   replace S := S.set 1 hg rfl
   clear hg
   generalize hg : World.setCell w7 ⟨p2, 4, none⟩ _ = w8
   replace S := S.set 1 hg rfl
   clear hg
   generalize hg : World.setCell w8 ⟨p2, 5, none⟩ _ = w9
   replace S := S.set 1 hg rfl
   clear hg
   replace S : Kn ok w0 [(p7, .cells #[.int .i64 g.f0, .int .i64 g.f1, .bool g.f2, .string g.f3, .int .i64 g.f4.f0, .int .i64 g.f4.f1, .int .i64 g.f4.f2, .string g.f4.f3, .int .u64 g.f5, .slice A g.f6.length c] TFr (0, 0)), (p2, .cells #[.int .i64 g.f0, .int .i64 g.f1, .bool g.f2, .string g.f3, .int .i64 g.f4.f0, .int .i64 g.f4.f1, .int .i64 0, .string ⟨#[]⟩, .int .u64 0, .slice none 0 0] TFr (0, 0))] nil tt [V kSe (.slice A g.f6.length c) g.f6] w9 := S
   generalize hg : World.setCell w9 ⟨p2, 6, none⟩ _ = w10
   replace S := S.set 1 hg rfl
   clear hg
   generalize hg : World.setCell w10 ⟨p2, 7, none⟩ _ = w11
   replace S := S.set 1 hg rfl
   clear hg
   generalize hg : World.setCell w11 ⟨p2, 8, none⟩ _ = w12
   replace S := S.set 1 hg rfl
   clear hg
   replace S : Kn ok w0 [(p7, .cells #[.int .i64 g.f0, .int .i64 g.f1, .bool g.f2, .string g.f3, .int .i64 g.f4.f0, .int .i64 g.f4.f1, .int .i64 g.f4.f2, .string g.f4.f3, .int .u64 g.f5, .slice A g.f6.length c] TFr (0, 0)), (p2, .cells #[.int .i64 g.f0, .int .i64 g.f1, .bool g.f2, .string g.f3, .int .i64 g.f4.f0, .int .i64 g.f4.f1, .int .i64 g.f4.f2, .string g.f4.f3, .int .u64 g.f5, .slice none 0 0] TFr (0, 0))] nil tt [V kSe (.slice A g.f6.length c) g.f6] w12 := S
   generalize hg : World.setCell w12 ⟨p2, 9, none⟩ _ = w13
   replace S := S.set 1 hg rfl
   clear hg
   replace S : Kn ok w0 [(p7, .cells #[.int .i64 g.f0, .int .i64 g.f1, .bool g.f2, .string g.f3, .int .i64 g.f4.f0, .int .i64 g.f4.f1, .int .i64 g.f4.f2, .string g.f4.f3, .int .u64 g.f5, .slice A g.f6.length c] TFr (0, 0)), (p2, .cells #[.int .i64 g.f0, .int .i64 g.f1, .bool g.f2, .string g.f3, .int .i64 g.f4.f0, .int .i64 g.f4.f1, .int .i64 g.f4.f2, .string g.f4.f3, .int .u64 g.f5, .slice A g.f6.length c] TFr (0, 0))] nil tt [V kSe (.slice A g.f6.length c) g.f6] w13 := S
   have b6 := S.get 1 rfl
   have hV := S.out 0 rfl
   have hBe := S.bel
   clear S
   refine bodyPost_ret (results_ct rfl _ _ p2 TFr #[.int .i64 g.f0, .int .i64 g.f1, .bool g.f2, .string g.f3, .int .i64 g.f4.f0, .int .i64 g.f4.f1, .int .i64 g.f4.f2, .string g.f4.f3, .int .u64 g.f5, .slice A g.f6.length c] (0, 0) _ rfl b6 Try.underlying27 rfl (by kernel_rfl)) rfl ?_
   exact ⟨A, c, rfl, hV, hBe⟩
  | false =>
   go_wp2
   clear f_0 f_1 f_2 f_3 f_4 f_5 f_6 f_7 f_8 f_9 r_0 zr_0 r_1 zr_1 r_2 zr_2 r_3 zr_3 r_4 zr_4 r_5 zr_5 r_6 zr_6 r_7 zr_7 r_8 zr_8 r_9 zr_9
   generalize hg : World.setCell wc ⟨p2, 0, none⟩ _ = w4
   replace S := S.set 1 hg rfl
   clear hg
   generalize hg : World.setCell w4 ⟨p2, 1, none⟩ _ = w5
   replace S := S.set 1 hg rfl
   clear hg
   generalize hg : World.setCell w5 ⟨p2, 2, none⟩ _ = w6
   replace S := S.set 1 hg rfl
   clear hg
   replace S : Kn ok w0 [(p7, .cells #[.int .i64 g.f0, .int .i64 g.f1, .bool g.f2, .string g.f3, .int .i64 g.f4.f0, .int .i64 g.f4.f1, .int .i64 g.f4.f2, .string g.f4.f3, .int .u64 g.f5, .slice A g.f6.length c] TFr (0, 0)), (p2, .cells #[.int .i64 g.f0, .int .i64 g.f1, .bool g.f2, .string ⟨#[]⟩, .int .i64 0, .int .i64 0, .int .i64 0, .string ⟨#[]⟩, .int .u64 0, .slice none 0 0] TFr (0, 0))] nil tt [V kSe (.slice A g.f6.length c) g.f6] w6 := S
   generalize hg : World.setCell w6 ⟨p2, 3, none⟩ _ = w7
   replace S := S.set 1 hg rfl
   clear hg
   generalize hg : World.setCell w7 ⟨p2, 4, none⟩ _ = w8
   replace S := S.set 1 hg rfl
   clear hg
   generalize hg : World.setCell w8 ⟨p2, 5, none⟩ _ = w9
   replace S := S.set 1 hg rfl
   clear hg
   replace S : Kn ok w0 [(p7, .cells #[.int .i64 g.f0, .int .i64 g.f1, .bool g.f2, .string g.f3, .int .i64 g.f4.f0, .int .i64 g.f4.f1, .int .i64 g.f4.f2, .string g.f4.f3, .int .u64 g.f5, .slice A g.f6.length c] TFr (0, 0)), (p2, .cells #[.int .i64 g.f0, .int .i64 g.f1, .bool g.f2, .string g.f3, .int .i64 g.f4.f0, .int .i64 g.f4.f1, .int .i64 0, .string ⟨#[]⟩, .int .u64 0, .slice none 0 0] TFr (0, 0))] nil tt [V kSe (.slice A g.f6.length c) g.f6] w9 := S
   generalize hg : World.setCell w9 ⟨p2, 6, none⟩ _ = w10
   replace S := S.set 1 hg rfl
   clear hg
   generalize hg : World.setCell w10 ⟨p2, 7, none⟩ _ = w11
   replace S := S.set 1 hg rfl
   clear hg
   generalize hg : World.setCell w11 ⟨p2, 8, none⟩ _ = w12
   replace S := S.set 1 hg rfl
   clear hg
   replace S : Kn ok w0 [(p7, .cells #[.int .i64 g.f0, .int .i64 g.f1, .bool g.f2, .string g.f3, .int .i64 g.f4.f0, .int .i64 g.f4.f1, .int .i64 g.f4.f2, .string g.f4.f3, .int .u64 g.f5, .slice A g.f6.length c] TFr (0, 0)), (p2, .cells #[.int .i64 g.f0, .int .i64 g.f1, .bool g.f2, .string g.f3, .int .i64 g.f4.f0, .int .i64 g.f4.f1, .int .i64 g.f4.f2, .string g.f4.f3, .int .u64 g.f5, .slice none 0 0] TFr (0, 0))] nil tt [V kSe (.slice A g.f6.length c) g.f6] w12 := S
   generalize hg : World.setCell w12 ⟨p2, 9, none⟩ _ = w13
   replace S := S.set 1 hg rfl
   clear hg
   replace S : Kn ok w0 [(p7, .cells #[.int .i64 g.f0, .int .i64 g.f1, .bool g.f2, .string g.f3, .int .i64 g.f4.f0, .int .i64 g.f4.f1, .int .i64 g.f4.f2, .string g.f4.f3, .int .u64 g.f5, .slice A g.f6.length c] TFr (0, 0)), (p2, .cells #[.int .i64 g.f0, .int .i64 g.f1, .bool g.f2, .string g.f3, .int .i64 g.f4.f0, .int .i64 g.f4.f1, .int .i64 g.f4.f2, .string g.f4.f3, .int .u64 g.f5, .slice A g.f6.length c] TFr (0, 0))] nil tt [V kSe (.slice A g.f6.length c) g.f6] w13 := S
   have b6 := S.get 1 rfl
   have hV := S.out 0 rfl
   have hBe := S.bel
   clear S
   refine bodyPost_ret (results_ct rfl _ _ p2 TFr #[.int .i64 g.f0, .int .i64 g.f1, .bool g.f2, .string g.f3, .int .i64 g.f4.f0, .int .i64 g.f4.f1, .int .i64 g.f4.f2, .string g.f4.f3, .int .u64 g.f5, .slice A g.f6.length c] (0, 0) _ rfl b6 Try.underlying27 rfl (by kernel_rfl)) rfl ?_
   exact ⟨A, c, rfl, hV, hBe⟩
set_option maxHeartbeats 16000000 in
theorem read_go (ok : Nat → Prop) (s : ByteArray) (hs : s.size ≤ 100000) (w0 w : World) (S : Kn ok w0 [] nil tt [] w) :
  Calls Try.prog 32 #[.string s] w fun e w' => ∃ A c, e = .returned (.tuple #[.agg (cF (readF s).1 (.slice A (readF s).1.f6.length c)), .bool (readF s).2]) ∧ (V kSe (.slice A (readF s).1.f6.length c) (readF s).1.f6).P w' (fun k => ok k ∨ w0.heap.size ≤ k) ∧ Below w0.heap.size w0 w' := by
 have hx : ∀ h : 0 < s.size, ((s[0]'h).toNat : Int) = bt s 0 := bt_at s 0
 have hr := bt_range s 0
 have HG := Aside0.mk (get_calls s 1 (by omega))
 have HGs := Aside0.mk (XV01.G_shape s 1)
 by_cases c0 : s.size = 0
 ·have e : readF s = (zF, false) := by unfold readF; rw [if_pos (Or.inl c0)]
  rw [e]
  have cn : s.toList = [] := by rw [Lib.toList_data]; exact List.eq_nil_of_length_eq_zero (by rw [data_length]; exact c0)
  have cb : (s.toList == ([] : List UInt8)) = true := by rw [cn]; rfl
  clear cn
  clear hx hr HG HGs
  go_enter Try.func32, Try.ntmps32
  go_upto_region 1 with (fail)
  generalize hg : World.alloc _ _ = w1
  replace S := S.new hg
  clear hg
  generalize w.heap.size = p2 at S ⊢
  replace S : Kn ok w0 [(p2, .cells #[.int .i64 0, .int .i64 0, .bool false, .string ⟨#[]⟩, .int .i64 0, .int .i64 0, .int .i64 0, .string ⟨#[]⟩, .int .u64 0, .slice none 0 0] TFr (0, 0))] nil tt [] w1 := S
  have r_0 : w1.cell? ⟨p2, 0, none⟩ = some (.int .i64 0) := S.cell 0 0 rfl rfl
  have zr_0 : w1.frozen? ⟨p2, 0, none⟩ = false := S.frozen 0 0 rfl
  have r_1 : w1.cell? ⟨p2, 1, none⟩ = some (.int .i64 0) := S.cell 0 1 rfl rfl
  have zr_1 : w1.frozen? ⟨p2, 1, none⟩ = false := S.frozen 0 1 rfl
  have r_2 : w1.cell? ⟨p2, 2, none⟩ = some (.bool false) := S.cell 0 2 rfl rfl
  have zr_2 : w1.frozen? ⟨p2, 2, none⟩ = false := S.frozen 0 2 rfl
  have r_3 : w1.cell? ⟨p2, 3, none⟩ = some (.string ⟨#[]⟩) := S.cell 0 3 rfl rfl
  have zr_3 : w1.frozen? ⟨p2, 3, none⟩ = false := S.frozen 0 3 rfl
  have r_4 : w1.cell? ⟨p2, 4, none⟩ = some (.int .i64 0) := S.cell 0 4 rfl rfl
  have zr_4 : w1.frozen? ⟨p2, 4, none⟩ = false := S.frozen 0 4 rfl
  have r_5 : w1.cell? ⟨p2, 5, none⟩ = some (.int .i64 0) := S.cell 0 5 rfl rfl
  have zr_5 : w1.frozen? ⟨p2, 5, none⟩ = false := S.frozen 0 5 rfl
  have r_6 : w1.cell? ⟨p2, 6, none⟩ = some (.int .i64 0) := S.cell 0 6 rfl rfl
  have zr_6 : w1.frozen? ⟨p2, 6, none⟩ = false := S.frozen 0 6 rfl
  have r_7 : w1.cell? ⟨p2, 7, none⟩ = some (.string ⟨#[]⟩) := S.cell 0 7 rfl rfl
  have zr_7 : w1.frozen? ⟨p2, 7, none⟩ = false := S.frozen 0 7 rfl
  have r_8 : w1.cell? ⟨p2, 8, none⟩ = some (.int .u64 0) := S.cell 0 8 rfl rfl
  have zr_8 : w1.frozen? ⟨p2, 8, none⟩ = false := S.frozen 0 8 rfl
  have r_9 : w1.cell? ⟨p2, 9, none⟩ = some (.slice none 0 0) := S.cell 0 9 rfl rfl
  have zr_9 : w1.frozen? ⟨p2, 9, none⟩ = false := S.frozen 0 9 rfl
  go_wp2
  clear r_0 zr_0 r_1 zr_1 r_2 zr_2 r_3 zr_3 r_4 zr_4 r_5 zr_5 r_6 zr_6 r_7 zr_7 r_8 zr_8 r_9 zr_9
  generalize hg : World.setCell w1 ⟨p2, 0, none⟩ _ = w2
  replace S := S.set 0 hg rfl
  clear hg
  generalize hg : World.setCell w2 ⟨p2, 1, none⟩ _ = w3
  replace S := S.set 0 hg rfl
  clear hg
  generalize hg : World.setCell w3 ⟨p2, 2, none⟩ _ = w4
  replace S := S.set 0 hg rfl
  clear hg
  replace S : Kn ok w0 [(p2, .cells #[.int .i64 0, .int .i64 0, .bool false, .string ⟨#[]⟩, .int .i64 0, .int .i64 0, .int .i64 0, .string ⟨#[]⟩, .int .u64 0, .slice none 0 0] TFr (0, 0))] nil tt [] w4 := S
  generalize hg : World.setCell w4 ⟨p2, 3, none⟩ _ = w5
  replace S := S.set 0 hg rfl
  clear hg
  generalize hg : World.setCell w5 ⟨p2, 4, none⟩ _ = w6
  replace S := S.set 0 hg rfl
  clear hg
  generalize hg : World.setCell w6 ⟨p2, 5, none⟩ _ = w7
  replace S := S.set 0 hg rfl
  clear hg
  replace S : Kn ok w0 [(p2, .cells #[.int .i64 0, .int .i64 0, .bool false, .string ⟨#[]⟩, .int .i64 0, .int .i64 0, .int .i64 0, .string ⟨#[]⟩, .int .u64 0, .slice none 0 0] TFr (0, 0))] nil tt [] w7 := S
  generalize hg : World.setCell w7 ⟨p2, 6, none⟩ _ = w8
  replace S := S.set 0 hg rfl
  clear hg
  generalize hg : World.setCell w8 ⟨p2, 7, none⟩ _ = w9
  replace S := S.set 0 hg rfl
  clear hg
  generalize hg : World.setCell w9 ⟨p2, 8, none⟩ _ = w10
  replace S := S.set 0 hg rfl
  clear hg
  replace S : Kn ok w0 [(p2, .cells #[.int .i64 0, .int .i64 0, .bool false, .string ⟨#[]⟩, .int .i64 0, .int .i64 0, .int .i64 0, .string ⟨#[]⟩, .int .u64 0, .slice none 0 0] TFr (0, 0))] nil tt [] w10 := S
  generalize hg : World.setCell w10 ⟨p2, 9, none⟩ _ = w11
  replace S := S.set 0 hg rfl
  clear hg
  replace S : Kn ok w0 [(p2, .cells #[.int .i64 0, .int .i64 0, .bool false, .string ⟨#[]⟩, .int .i64 0, .int .i64 0, .int .i64 0, .string ⟨#[]⟩, .int .u64 0, .slice none 0 0] TFr (0, 0))] nil tt [] w11 := S
  have b6 := S.get 0 rfl
  have hV := (V_any (Kd.V_nil kSe 0 _ 0 _) : (V kSe (.slice none 0 0) []).P w11 (fun k => ok k ∨ w0.heap.size ≤ k))
  have hBe := S.bel
  clear S
  refine bodyPost_ret (results_ct rfl _ _ p2 TFr #[.int .i64 0, .int .i64 0, .bool false, .string ⟨#[]⟩, .int .i64 0, .int .i64 0, .int .i64 0, .string ⟨#[]⟩, .int .u64 0, .slice none 0 0] (0, 0) _ rfl b6 Try.underlying27 rfl (by kernel_rfl)) rfl ?_
  exact ⟨none, 0, rfl, hV, hBe⟩
 have cb : (s.toList == ([] : List UInt8)) = false := by
  have : s.toList ≠ [] := fun h => c0 (by rw [← data_length, ← Lib.toList_data, h]; rfl)
  exact beq_eq_false_iff_ne.mpr this
 have c00 : (0 : Int) < (s.size : Int) := by omega
 by_cases c1 : bt s 0 < 1
 ·have e : readF s = (zF, false) := by unfold readF; rw [if_pos (by omega)]
  rw [e]
  have c1b : decide (bt s 0 < 1) = true := decide_eq_true c1
  clear hr HG HGs c1 c0
  go_enter Try.func32, Try.ntmps32
  go_upto_region 1 with (fail)
  generalize hg : World.alloc _ _ = w1
  replace S := S.new hg
  clear hg
  generalize w.heap.size = p2 at S ⊢
  replace S : Kn ok w0 [(p2, .cells #[.int .i64 0, .int .i64 0, .bool false, .string ⟨#[]⟩, .int .i64 0, .int .i64 0, .int .i64 0, .string ⟨#[]⟩, .int .u64 0, .slice none 0 0] TFr (0, 0))] nil tt [] w1 := S
  have r_0 : w1.cell? ⟨p2, 0, none⟩ = some (.int .i64 0) := S.cell 0 0 rfl rfl
  have zr_0 : w1.frozen? ⟨p2, 0, none⟩ = false := S.frozen 0 0 rfl
  have r_1 : w1.cell? ⟨p2, 1, none⟩ = some (.int .i64 0) := S.cell 0 1 rfl rfl
  have zr_1 : w1.frozen? ⟨p2, 1, none⟩ = false := S.frozen 0 1 rfl
  have r_2 : w1.cell? ⟨p2, 2, none⟩ = some (.bool false) := S.cell 0 2 rfl rfl
  have zr_2 : w1.frozen? ⟨p2, 2, none⟩ = false := S.frozen 0 2 rfl
  have r_3 : w1.cell? ⟨p2, 3, none⟩ = some (.string ⟨#[]⟩) := S.cell 0 3 rfl rfl
  have zr_3 : w1.frozen? ⟨p2, 3, none⟩ = false := S.frozen 0 3 rfl
  have r_4 : w1.cell? ⟨p2, 4, none⟩ = some (.int .i64 0) := S.cell 0 4 rfl rfl
  have zr_4 : w1.frozen? ⟨p2, 4, none⟩ = false := S.frozen 0 4 rfl
  have r_5 : w1.cell? ⟨p2, 5, none⟩ = some (.int .i64 0) := S.cell 0 5 rfl rfl
  have zr_5 : w1.frozen? ⟨p2, 5, none⟩ = false := S.frozen 0 5 rfl
  have r_6 : w1.cell? ⟨p2, 6, none⟩ = some (.int .i64 0) := S.cell 0 6 rfl rfl
  have zr_6 : w1.frozen? ⟨p2, 6, none⟩ = false := S.frozen 0 6 rfl
  have r_7 : w1.cell? ⟨p2, 7, none⟩ = some (.string ⟨#[]⟩) := S.cell 0 7 rfl rfl
  have zr_7 : w1.frozen? ⟨p2, 7, none⟩ = false := S.frozen 0 7 rfl
  have r_8 : w1.cell? ⟨p2, 8, none⟩ = some (.int .u64 0) := S.cell 0 8 rfl rfl
  have zr_8 : w1.frozen? ⟨p2, 8, none⟩ = false := S.frozen 0 8 rfl
  have r_9 : w1.cell? ⟨p2, 9, none⟩ = some (.slice none 0 0) := S.cell 0 9 rfl rfl
  have zr_9 : w1.frozen? ⟨p2, 9, none⟩ = false := S.frozen 0 9 rfl
  go_wp2
  clear r_0 zr_0 r_1 zr_1 r_2 zr_2 r_3 zr_3 r_4 zr_4 r_5 zr_5 r_6 zr_6 r_7 zr_7 r_8 zr_8 r_9 zr_9
  generalize hg : World.setCell w1 ⟨p2, 0, none⟩ _ = w2
  replace S := S.set 0 hg rfl
  clear hg
  generalize hg : World.setCell w2 ⟨p2, 1, none⟩ _ = w3
  replace S := S.set 0 hg rfl
  clear hg
  generalize hg : World.setCell w3 ⟨p2, 2, none⟩ _ = w4
  replace S := S.set 0 hg rfl
  clear hg
  replace S : Kn ok w0 [(p2, .cells #[.int .i64 0, .int .i64 0, .bool false, .string ⟨#[]⟩, .int .i64 0, .int .i64 0, .int .i64 0, .string ⟨#[]⟩, .int .u64 0, .slice none 0 0] TFr (0, 0))] nil tt [] w4 := S
  generalize hg : World.setCell w4 ⟨p2, 3, none⟩ _ = w5
  replace S := S.set 0 hg rfl
  clear hg
  generalize hg : World.setCell w5 ⟨p2, 4, none⟩ _ = w6
  replace S := S.set 0 hg rfl
  clear hg
  generalize hg : World.setCell w6 ⟨p2, 5, none⟩ _ = w7
  replace S := S.set 0 hg rfl
  clear hg
  replace S : Kn ok w0 [(p2, .cells #[.int .i64 0, .int .i64 0, .bool false, .string ⟨#[]⟩, .int .i64 0, .int .i64 0, .int .i64 0, .string ⟨#[]⟩, .int .u64 0, .slice none 0 0] TFr (0, 0))] nil tt [] w7 := S
  generalize hg : World.setCell w7 ⟨p2, 6, none⟩ _ = w8
  replace S := S.set 0 hg rfl
  clear hg
  generalize hg : World.setCell w8 ⟨p2, 7, none⟩ _ = w9
  replace S := S.set 0 hg rfl
  clear hg
  generalize hg : World.setCell w9 ⟨p2, 8, none⟩ _ = w10
  replace S := S.set 0 hg rfl
  clear hg
  replace S : Kn ok w0 [(p2, .cells #[.int .i64 0, .int .i64 0, .bool false, .string ⟨#[]⟩, .int .i64 0, .int .i64 0, .int .i64 0, .string ⟨#[]⟩, .int .u64 0, .slice none 0 0] TFr (0, 0))] nil tt [] w10 := S
  generalize hg : World.setCell w10 ⟨p2, 9, none⟩ _ = w11
  replace S := S.set 0 hg rfl
  clear hg
  replace S : Kn ok w0 [(p2, .cells #[.int .i64 0, .int .i64 0, .bool false, .string ⟨#[]⟩, .int .i64 0, .int .i64 0, .int .i64 0, .string ⟨#[]⟩, .int .u64 0, .slice none 0 0] TFr (0, 0))] nil tt [] w11 := S
  have b6 := S.get 0 rfl
  have hV := (V_any (Kd.V_nil kSe 0 _ 0 _) : (V kSe (.slice none 0 0) []).P w11 (fun k => ok k ∨ w0.heap.size ≤ k))
  have hBe := S.bel
  clear S
  refine bodyPost_ret (results_ct rfl _ _ p2 TFr #[.int .i64 0, .int .i64 0, .bool false, .string ⟨#[]⟩, .int .i64 0, .int .i64 0, .int .i64 0, .string ⟨#[]⟩, .int .u64 0, .slice none 0 0] (0, 0) _ rfl b6 Try.underlying27 rfl (by kernel_rfl)) rfl ?_
  exact ⟨none, 0, rfl, hV, hBe⟩
 have c1b : decide (bt s 0 < 1) = false := decide_eq_false c1
 by_cases c2 : bt s 0 > 4
 ·have e : readF s = (zF, false) := by unfold readF; rw [if_pos (by omega)]
  rw [e]
  have c2b : decide (bt s 0 > 4) = true := decide_eq_true c2
  have c2d : decide (4 < bt s 0) = true := decide_eq_true c2
  clear hr HG HGs c2 c0
  go_enter Try.func32, Try.ntmps32
  go_upto_region 1 with (fail)
  generalize hg : World.alloc _ _ = w1
  replace S := S.new hg
  clear hg
  generalize w.heap.size = p2 at S ⊢
  replace S : Kn ok w0 [(p2, .cells #[.int .i64 0, .int .i64 0, .bool false, .string ⟨#[]⟩, .int .i64 0, .int .i64 0, .int .i64 0, .string ⟨#[]⟩, .int .u64 0, .slice none 0 0] TFr (0, 0))] nil tt [] w1 := S
  have r_0 : w1.cell? ⟨p2, 0, none⟩ = some (.int .i64 0) := S.cell 0 0 rfl rfl
  have zr_0 : w1.frozen? ⟨p2, 0, none⟩ = false := S.frozen 0 0 rfl
  have r_1 : w1.cell? ⟨p2, 1, none⟩ = some (.int .i64 0) := S.cell 0 1 rfl rfl
  have zr_1 : w1.frozen? ⟨p2, 1, none⟩ = false := S.frozen 0 1 rfl
  have r_2 : w1.cell? ⟨p2, 2, none⟩ = some (.bool false) := S.cell 0 2 rfl rfl
  have zr_2 : w1.frozen? ⟨p2, 2, none⟩ = false := S.frozen 0 2 rfl
  have r_3 : w1.cell? ⟨p2, 3, none⟩ = some (.string ⟨#[]⟩) := S.cell 0 3 rfl rfl
  have zr_3 : w1.frozen? ⟨p2, 3, none⟩ = false := S.frozen 0 3 rfl
  have r_4 : w1.cell? ⟨p2, 4, none⟩ = some (.int .i64 0) := S.cell 0 4 rfl rfl
  have zr_4 : w1.frozen? ⟨p2, 4, none⟩ = false := S.frozen 0 4 rfl
  have r_5 : w1.cell? ⟨p2, 5, none⟩ = some (.int .i64 0) := S.cell 0 5 rfl rfl
  have zr_5 : w1.frozen? ⟨p2, 5, none⟩ = false := S.frozen 0 5 rfl
  have r_6 : w1.cell? ⟨p2, 6, none⟩ = some (.int .i64 0) := S.cell 0 6 rfl rfl
  have zr_6 : w1.frozen? ⟨p2, 6, none⟩ = false := S.frozen 0 6 rfl
  have r_7 : w1.cell? ⟨p2, 7, none⟩ = some (.string ⟨#[]⟩) := S.cell 0 7 rfl rfl
  have zr_7 : w1.frozen? ⟨p2, 7, none⟩ = false := S.frozen 0 7 rfl
  have r_8 : w1.cell? ⟨p2, 8, none⟩ = some (.int .u64 0) := S.cell 0 8 rfl rfl
  have zr_8 : w1.frozen? ⟨p2, 8, none⟩ = false := S.frozen 0 8 rfl
  have r_9 : w1.cell? ⟨p2, 9, none⟩ = some (.slice none 0 0) := S.cell 0 9 rfl rfl
  have zr_9 : w1.frozen? ⟨p2, 9, none⟩ = false := S.frozen 0 9 rfl
  go_wp2
  clear r_0 zr_0 r_1 zr_1 r_2 zr_2 r_3 zr_3 r_4 zr_4 r_5 zr_5 r_6 zr_6 r_7 zr_7 r_8 zr_8 r_9 zr_9
  generalize hg : World.setCell w1 ⟨p2, 0, none⟩ _ = w2
  replace S := S.set 0 hg rfl
  clear hg
  generalize hg : World.setCell w2 ⟨p2, 1, none⟩ _ = w3
  replace S := S.set 0 hg rfl
  clear hg
  generalize hg : World.setCell w3 ⟨p2, 2, none⟩ _ = w4
  replace S := S.set 0 hg rfl
  clear hg
  replace S : Kn ok w0 [(p2, .cells #[.int .i64 0, .int .i64 0, .bool false, .string ⟨#[]⟩, .int .i64 0, .int .i64 0, .int .i64 0, .string ⟨#[]⟩, .int .u64 0, .slice none 0 0] TFr (0, 0))] nil tt [] w4 := S
  generalize hg : World.setCell w4 ⟨p2, 3, none⟩ _ = w5
  replace S := S.set 0 hg rfl
  clear hg
  generalize hg : World.setCell w5 ⟨p2, 4, none⟩ _ = w6
  replace S := S.set 0 hg rfl
  clear hg
  generalize hg : World.setCell w6 ⟨p2, 5, none⟩ _ = w7
  replace S := S.set 0 hg rfl
  clear hg
  replace S : Kn ok w0 [(p2, .cells #[.int .i64 0, .int .i64 0, .bool false, .string ⟨#[]⟩, .int .i64 0, .int .i64 0, .int .i64 0, .string ⟨#[]⟩, .int .u64 0, .slice none 0 0] TFr (0, 0))] nil tt [] w7 := S
  generalize hg : World.setCell w7 ⟨p2, 6, none⟩ _ = w8
  replace S := S.set 0 hg rfl
  clear hg
  generalize hg : World.setCell w8 ⟨p2, 7, none⟩ _ = w9
  replace S := S.set 0 hg rfl
  clear hg
  generalize hg : World.setCell w9 ⟨p2, 8, none⟩ _ = w10
  replace S := S.set 0 hg rfl
  clear hg
  replace S : Kn ok w0 [(p2, .cells #[.int .i64 0, .int .i64 0, .bool false, .string ⟨#[]⟩, .int .i64 0, .int .i64 0, .int .i64 0, .string ⟨#[]⟩, .int .u64 0, .slice none 0 0] TFr (0, 0))] nil tt [] w10 := S
  generalize hg : World.setCell w10 ⟨p2, 9, none⟩ _ = w11
  replace S := S.set 0 hg rfl
  clear hg
  replace S : Kn ok w0 [(p2, .cells #[.int .i64 0, .int .i64 0, .bool false, .string ⟨#[]⟩, .int .i64 0, .int .i64 0, .int .i64 0, .string ⟨#[]⟩, .int .u64 0, .slice none 0 0] TFr (0, 0))] nil tt [] w11 := S
  have b6 := S.get 0 rfl
  have hV := (V_any (Kd.V_nil kSe 0 _ 0 _) : (V kSe (.slice none 0 0) []).P w11 (fun k => ok k ∨ w0.heap.size ≤ k))
  have hBe := S.bel
  clear S
  refine bodyPost_ret (results_ct rfl _ _ p2 TFr #[.int .i64 0, .int .i64 0, .bool false, .string ⟨#[]⟩, .int .i64 0, .int .i64 0, .int .i64 0, .string ⟨#[]⟩, .int .u64 0, .slice none 0 0] (0, 0) _ rfl b6 Try.underlying27 rfl (by kernel_rfl)) rfl ?_
  exact ⟨none, 0, rfl, hV, hBe⟩
 have c2b : decide (bt s 0 > 4) = false := decide_eq_false c2
 have c2d : decide (4 < bt s 0) = false := decide_eq_false c2
 rcases hg : G s 1 with ⟨n, q, e0⟩
 rw [hg] at HG HGs
 dsimp only at HG HGs
 by_cases c3 : e0 ≠ 0
 ·have e : readF s = (zF, false) := by unfold readF; rw [if_neg (by omega), hg, if_pos (by left; exact c3)]
  rw [e]
  have c3b : (e0 != 0) = true := bne_iff_ne.mpr c3
  clear hr HGs c3 c0 hg c1 c2
  go_enter Try.func32, Try.ntmps32
  go_upto_region 1 with (fail)
  generalize hg : World.alloc _ _ = w1
  replace S := S.new hg
  clear hg
  generalize w.heap.size = p2 at S ⊢
  replace S : Kn ok w0 [(p2, .cells #[.int .i64 0, .int .i64 0, .bool false, .string ⟨#[]⟩, .int .i64 0, .int .i64 0, .int .i64 0, .string ⟨#[]⟩, .int .u64 0, .slice none 0 0] TFr (0, 0))] nil tt [] w1 := S
  go_wp2_with fail
  refine (HG.out _).mono ?_
  rintro e w2 ⟨rfl, hb⟩
  replace S := S.below hb
  clear hb HG
  have r_0 : w2.cell? ⟨p2, 0, none⟩ = some (.int .i64 0) := S.cell 0 0 rfl rfl
  have zr_0 : w2.frozen? ⟨p2, 0, none⟩ = false := S.frozen 0 0 rfl
  have r_1 : w2.cell? ⟨p2, 1, none⟩ = some (.int .i64 0) := S.cell 0 1 rfl rfl
  have zr_1 : w2.frozen? ⟨p2, 1, none⟩ = false := S.frozen 0 1 rfl
  have r_2 : w2.cell? ⟨p2, 2, none⟩ = some (.bool false) := S.cell 0 2 rfl rfl
  have zr_2 : w2.frozen? ⟨p2, 2, none⟩ = false := S.frozen 0 2 rfl
  have r_3 : w2.cell? ⟨p2, 3, none⟩ = some (.string ⟨#[]⟩) := S.cell 0 3 rfl rfl
  have zr_3 : w2.frozen? ⟨p2, 3, none⟩ = false := S.frozen 0 3 rfl
  have r_4 : w2.cell? ⟨p2, 4, none⟩ = some (.int .i64 0) := S.cell 0 4 rfl rfl
  have zr_4 : w2.frozen? ⟨p2, 4, none⟩ = false := S.frozen 0 4 rfl
  have r_5 : w2.cell? ⟨p2, 5, none⟩ = some (.int .i64 0) := S.cell 0 5 rfl rfl
  have zr_5 : w2.frozen? ⟨p2, 5, none⟩ = false := S.frozen 0 5 rfl
  have r_6 : w2.cell? ⟨p2, 6, none⟩ = some (.int .i64 0) := S.cell 0 6 rfl rfl
  have zr_6 : w2.frozen? ⟨p2, 6, none⟩ = false := S.frozen 0 6 rfl
  have r_7 : w2.cell? ⟨p2, 7, none⟩ = some (.string ⟨#[]⟩) := S.cell 0 7 rfl rfl
  have zr_7 : w2.frozen? ⟨p2, 7, none⟩ = false := S.frozen 0 7 rfl
  have r_8 : w2.cell? ⟨p2, 8, none⟩ = some (.int .u64 0) := S.cell 0 8 rfl rfl
  have zr_8 : w2.frozen? ⟨p2, 8, none⟩ = false := S.frozen 0 8 rfl
  have r_9 : w2.cell? ⟨p2, 9, none⟩ = some (.slice none 0 0) := S.cell 0 9 rfl rfl
  have zr_9 : w2.frozen? ⟨p2, 9, none⟩ = false := S.frozen 0 9 rfl
  go_wp2
  clear r_0 zr_0 r_1 zr_1 r_2 zr_2 r_3 zr_3 r_4 zr_4 r_5 zr_5 r_6 zr_6 r_7 zr_7 r_8 zr_8 r_9 zr_9
  generalize hg : World.setCell w2 ⟨p2, 0, none⟩ _ = w3
  replace S := S.set 0 hg rfl
  clear hg
  generalize hg : World.setCell w3 ⟨p2, 1, none⟩ _ = w4
  replace S := S.set 0 hg rfl
  clear hg
  generalize hg : World.setCell w4 ⟨p2, 2, none⟩ _ = w5
  replace S := S.set 0 hg rfl
  clear hg
  replace S : Kn ok w0 [(p2, .cells #[.int .i64 0, .int .i64 0, .bool false, .string ⟨#[]⟩, .int .i64 0, .int .i64 0, .int .i64 0, .string ⟨#[]⟩, .int .u64 0, .slice none 0 0] TFr (0, 0))] nil tt [] w5 := S
  generalize hg : World.setCell w5 ⟨p2, 3, none⟩ _ = w6
  replace S := S.set 0 hg rfl
  clear hg
  generalize hg : World.setCell w6 ⟨p2, 4, none⟩ _ = w7
  replace S := S.set 0 hg rfl
  clear hg
  generalize hg : World.setCell w7 ⟨p2, 5, none⟩ _ = w8
  replace S := S.set 0 hg rfl
  clear hg
  replace S : Kn ok w0 [(p2, .cells #[.int .i64 0, .int .i64 0, .bool false, .string ⟨#[]⟩, .int .i64 0, .int .i64 0, .int .i64 0, .string ⟨#[]⟩, .int .u64 0, .slice none 0 0] TFr (0, 0))] nil tt [] w8 := S
  generalize hg : World.setCell w8 ⟨p2, 6, none⟩ _ = w9
  replace S := S.set 0 hg rfl
  clear hg
  generalize hg : World.setCell w9 ⟨p2, 7, none⟩ _ = w10
  replace S := S.set 0 hg rfl
  clear hg
  generalize hg : World.setCell w10 ⟨p2, 8, none⟩ _ = w11
  replace S := S.set 0 hg rfl
  clear hg
  replace S : Kn ok w0 [(p2, .cells #[.int .i64 0, .int .i64 0, .bool false, .string ⟨#[]⟩, .int .i64 0, .int .i64 0, .int .i64 0, .string ⟨#[]⟩, .int .u64 0, .slice none 0 0] TFr (0, 0))] nil tt [] w11 := S
  generalize hg : World.setCell w11 ⟨p2, 9, none⟩ _ = w12
  replace S := S.set 0 hg rfl
  clear hg
  replace S : Kn ok w0 [(p2, .cells #[.int .i64 0, .int .i64 0, .bool false, .string ⟨#[]⟩, .int .i64 0, .int .i64 0, .int .i64 0, .string ⟨#[]⟩, .int .u64 0, .slice none 0 0] TFr (0, 0))] nil tt [] w12 := S
  have b6 := S.get 0 rfl
  have hV := (V_any (Kd.V_nil kSe 0 _ 0 _) : (V kSe (.slice none 0 0) []).P w12 (fun k => ok k ∨ w0.heap.size ≤ k))
  have hBe := S.bel
  clear S
  refine bodyPost_ret (results_ct rfl _ _ p2 TFr #[.int .i64 0, .int .i64 0, .bool false, .string ⟨#[]⟩, .int .i64 0, .int .i64 0, .int .i64 0, .string ⟨#[]⟩, .int .u64 0, .slice none 0 0] (0, 0) _ rfl b6 Try.underlying27 rfl (by kernel_rfl)) rfl ?_
  exact ⟨none, 0, rfl, hV, hBe⟩
 obtain rfl : e0 = 0 := by omega
 clear c3
 by_cases c4 : n > 1099511627776
 ·have e : readF s = (zF, false) := by unfold readF; rw [if_neg (by omega), hg, if_pos (by right; exact c4)]
  rw [e]
  have c4b : decide (n > 1099511627776) = true := decide_eq_true c4
  have c4d : decide (1099511627776 < n) = true := decide_eq_true c4
  clear hr HGs c4 c0 hg c1 c2
  go_enter Try.func32, Try.ntmps32
  go_upto_region 1 with (fail)
  generalize hg : World.alloc _ _ = w1
  replace S := S.new hg
  clear hg
  generalize w.heap.size = p2 at S ⊢
  replace S : Kn ok w0 [(p2, .cells #[.int .i64 0, .int .i64 0, .bool false, .string ⟨#[]⟩, .int .i64 0, .int .i64 0, .int .i64 0, .string ⟨#[]⟩, .int .u64 0, .slice none 0 0] TFr (0, 0))] nil tt [] w1 := S
  go_wp2_with fail
  refine (HG.out _).mono ?_
  rintro e w2 ⟨rfl, hb⟩
  replace S := S.below hb
  clear hb HG
  have r_0 : w2.cell? ⟨p2, 0, none⟩ = some (.int .i64 0) := S.cell 0 0 rfl rfl
  have zr_0 : w2.frozen? ⟨p2, 0, none⟩ = false := S.frozen 0 0 rfl
  have r_1 : w2.cell? ⟨p2, 1, none⟩ = some (.int .i64 0) := S.cell 0 1 rfl rfl
  have zr_1 : w2.frozen? ⟨p2, 1, none⟩ = false := S.frozen 0 1 rfl
  have r_2 : w2.cell? ⟨p2, 2, none⟩ = some (.bool false) := S.cell 0 2 rfl rfl
  have zr_2 : w2.frozen? ⟨p2, 2, none⟩ = false := S.frozen 0 2 rfl
  have r_3 : w2.cell? ⟨p2, 3, none⟩ = some (.string ⟨#[]⟩) := S.cell 0 3 rfl rfl
  have zr_3 : w2.frozen? ⟨p2, 3, none⟩ = false := S.frozen 0 3 rfl
  have r_4 : w2.cell? ⟨p2, 4, none⟩ = some (.int .i64 0) := S.cell 0 4 rfl rfl
  have zr_4 : w2.frozen? ⟨p2, 4, none⟩ = false := S.frozen 0 4 rfl
  have r_5 : w2.cell? ⟨p2, 5, none⟩ = some (.int .i64 0) := S.cell 0 5 rfl rfl
  have zr_5 : w2.frozen? ⟨p2, 5, none⟩ = false := S.frozen 0 5 rfl
  have r_6 : w2.cell? ⟨p2, 6, none⟩ = some (.int .i64 0) := S.cell 0 6 rfl rfl
  have zr_6 : w2.frozen? ⟨p2, 6, none⟩ = false := S.frozen 0 6 rfl
  have r_7 : w2.cell? ⟨p2, 7, none⟩ = some (.string ⟨#[]⟩) := S.cell 0 7 rfl rfl
  have zr_7 : w2.frozen? ⟨p2, 7, none⟩ = false := S.frozen 0 7 rfl
  have r_8 : w2.cell? ⟨p2, 8, none⟩ = some (.int .u64 0) := S.cell 0 8 rfl rfl
  have zr_8 : w2.frozen? ⟨p2, 8, none⟩ = false := S.frozen 0 8 rfl
  have r_9 : w2.cell? ⟨p2, 9, none⟩ = some (.slice none 0 0) := S.cell 0 9 rfl rfl
  have zr_9 : w2.frozen? ⟨p2, 9, none⟩ = false := S.frozen 0 9 rfl
  go_wp2
  clear r_0 zr_0 r_1 zr_1 r_2 zr_2 r_3 zr_3 r_4 zr_4 r_5 zr_5 r_6 zr_6 r_7 zr_7 r_8 zr_8 r_9 zr_9
  generalize hg : World.setCell w2 ⟨p2, 0, none⟩ _ = w3
  replace S := S.set 0 hg rfl
  clear hg
  generalize hg : World.setCell w3 ⟨p2, 1, none⟩ _ = w4
  replace S := S.set 0 hg rfl
  clear hg
  generalize hg : World.setCell w4 ⟨p2, 2, none⟩ _ = w5
  replace S := S.set 0 hg rfl
  clear hg
  replace S : Kn ok w0 [(p2, .cells #[.int .i64 0, .int .i64 0, .bool false, .string ⟨#[]⟩, .int .i64 0, .int .i64 0, .int .i64 0, .string ⟨#[]⟩, .int .u64 0, .slice none 0 0] TFr (0, 0))] nil tt [] w5 := S
  generalize hg : World.setCell w5 ⟨p2, 3, none⟩ _ = w6
  replace S := S.set 0 hg rfl
  clear hg
  generalize hg : World.setCell w6 ⟨p2, 4, none⟩ _ = w7
  replace S := S.set 0 hg rfl
  clear hg
  generalize hg : World.setCell w7 ⟨p2, 5, none⟩ _ = w8
  replace S := S.set 0 hg rfl
  clear hg
  replace S : Kn ok w0 [(p2, .cells #[.int .i64 0, .int .i64 0, .bool false, .string ⟨#[]⟩, .int .i64 0, .int .i64 0, .int .i64 0, .string ⟨#[]⟩, .int .u64 0, .slice none 0 0] TFr (0, 0))] nil tt [] w8 := S
  generalize hg : World.setCell w8 ⟨p2, 6, none⟩ _ = w9
  replace S := S.set 0 hg rfl
  clear hg
  generalize hg : World.setCell w9 ⟨p2, 7, none⟩ _ = w10
  replace S := S.set 0 hg rfl
  clear hg
  generalize hg : World.setCell w10 ⟨p2, 8, none⟩ _ = w11
  replace S := S.set 0 hg rfl
  clear hg
  replace S : Kn ok w0 [(p2, .cells #[.int .i64 0, .int .i64 0, .bool false, .string ⟨#[]⟩, .int .i64 0, .int .i64 0, .int .i64 0, .string ⟨#[]⟩, .int .u64 0, .slice none 0 0] TFr (0, 0))] nil tt [] w11 := S
  generalize hg : World.setCell w11 ⟨p2, 9, none⟩ _ = w12
  replace S := S.set 0 hg rfl
  clear hg
  replace S : Kn ok w0 [(p2, .cells #[.int .i64 0, .int .i64 0, .bool false, .string ⟨#[]⟩, .int .i64 0, .int .i64 0, .int .i64 0, .string ⟨#[]⟩, .int .u64 0, .slice none 0 0] TFr (0, 0))] nil tt [] w12 := S
  have b6 := S.get 0 rfl
  have hV := (V_any (Kd.V_nil kSe 0 _ 0 _) : (V kSe (.slice none 0 0) []).P w12 (fun k => ok k ∨ w0.heap.size ≤ k))
  have hBe := S.bel
  clear S
  refine bodyPost_ret (results_ct rfl _ _ p2 TFr #[.int .i64 0, .int .i64 0, .bool false, .string ⟨#[]⟩, .int .i64 0, .int .i64 0, .int .i64 0, .string ⟨#[]⟩, .int .u64 0, .slice none 0 0] (0, 0) _ rfl b6 Try.underlying27 rfl (by kernel_rfl)) rfl ?_
  exact ⟨none, 0, rfl, hV, hBe⟩
 have c4b : decide (n > 1099511627776) = false := decide_eq_false c4
 have c4d : decide (1099511627776 < n) = false := decide_eq_false c4
 obtain ⟨hn0, hq0, hq1⟩ : 0 ≤ n ∧ 0 ≤ q ∧ q ≤ s.size := by rcases HGs.out with ⟨e, h, he⟩ | ⟨n', q', h, hp, h1, h2, h3, h4, _⟩ <;> (simp only [Prod.mk.injEq] at h; omega)
 have hwn : IntKind.i64.wrap n = n := by rw [IntKind.wrap_i64]; omega
 have hwb : IntKind.i64.wrap (bt s 0) = bt s 0 := by rw [IntKind.wrap_i64]; omega
 have e : readF s = ((rdBody ⟨bt s 0, n, false, ⟨#[]⟩, zv, 0, []⟩ s q).1, (rdBody ⟨bt s 0, n, false, ⟨#[]⟩, zv, 0, []⟩ s q).2.2 && decide ((rdBody ⟨bt s 0, n, false, ⟨#[]⟩, zv, 0, []⟩ s q).2.1 = s.size)) := by unfold readF; rw [if_neg (by omega), hg, if_neg (by simp only; omega)]
 rw [e]
 clear e hg HGs c1 c2 c4 c0
 generalize bt s 0 = kd at *
 obtain rfl | rfl | rfl | rfl : kd = 1 ∨ kd = 2 ∨ kd = 3 ∨ kd = 4 := by have h1 := of_decide_eq_false c1b; have h2 := of_decide_eq_false c2b; omega
 ·exact read_k1 ok s hs w0 w S n q hx HG cb c00 hq0 hq1 hwn c4b c4d
 ·exact read_k2 ok s hs w0 w S n q hx HG cb c00 hq0 hq1 hwn c4b c4d
 ·exact read_k3 ok s hs w0 w S n q hx HG cb c00 hq0 hq1 hwn c4b c4d
 ·exact read_k4 ok s hs w0 w S n q hx HG cb c00 hq0 hq1 hwn c4b c4d
theorem read_calls (s : ByteArray) (hs : s.size ≤ 100000) (w : World) : Calls Try.prog 32 #[.string s] w fun e w' => ∃ A c, e = .returned (.tuple #[.agg (cF (readF s).1 (.slice A (readF s).1.f6.length c)), .bool (readF s).2]) ∧ (V kSe (.slice A (readF s).1.f6.length c) (readF s).1.f6).P w' (fun k => w.heap.size ≤ k) ∧ Below w.heap.size w w' := by
 refine (read_go (fun _ => False) s hs w w (Kn.start _ w)).mono ?_
 rintro e w' ⟨A, c, rfl, hV, hb⟩
 exact ⟨A, c, rfl, Ft.mono _ hV (fun k hk => hk.resolve_left id), hb⟩
end Go.Proofs.Ytjccgdnnnlgeeaa.XFr
end

section
/- frame.write, walked. -/
namespace Go.Proofs.Ytjccgdnnnlgeeaa.XKn
open Go.RowKit Go.Proofs.YtjccgdnnnlgeeaaW.PrintWords Go.Proofs.YtjccgdnnnlgeeaaW.PrintLast Go.Proofs.YtjccgdnnnlgeeaaW.PrintMore Go.Proofs.Ytjccgdnnnlgeeaa.PA Go.Proofs.Ytjccgdnnnlgeeaa.XMem Go.Proofs.Ytjccgdnnnlgeeaa.XSt
set_option linter.unusedVariables false
set_option linter.unusedSimpArgs false
theorem frame_delta.kn {w : World} (k : Nat) {a0_0 : Int} {a0_1 : Int} {a0_2 : Bool} {a0_3 : ByteArray} {a0_4 : Int} {a0_5 : Int} {a0_6 : Int} {a0_7 : ByteArray} {a0_8 : Int} {A0_9 : Option Addr} {c0_9 : Nat} {l0_9 : List (S52)} {r1 : ByteArray} {r2 : Bool} (h : frame_delta.f k a0_0 a0_1 a0_2 a0_3 a0_4 a0_5 a0_6 a0_7 a0_8 l0_9 = some (r1, r2)) {Q1_ : Nat → Prop} (g1 : (V k52 (.slice A0_9 l0_9.length c0_9) l0_9).P w Q1_) :
  Calls Try.prog 49 #[.agg #[.int .i64 a0_0, .int .i64 a0_1, .bool a0_2, .string a0_3, .int .i64 a0_4, .int .i64 a0_5, .int .i64 a0_6, .string a0_7, .int .u64 a0_8, .slice A0_9 l0_9.length c0_9]] w fun e w' => e = .returned (.tuple #[.string r1, .bool r2]) ∧ Below w.heap.size w w' := by
 refine (frame_delta.calls k a0_0 a0_1 a0_2 a0_3 a0_4 a0_5 a0_6 a0_7 a0_8 A0_9 c0_9 l0_9 r1 r2 w (Kd.V_reads' (e := 0) (base := 0) g1).2.2 (Kd.V_reads' (e := 0) (base := 0) g1).2.1 h).mono ?_
 rintro e w' ⟨y0, y1⟩
 exact ⟨y0, y1⟩
theorem frame_sum.kn {w : World} (k : Nat) {a0_0 : Int} {a0_1 : Int} {a0_2 : Bool} {a0_3 : ByteArray} {a0_4 : Int} {a0_5 : Int} {a0_6 : Int} {a0_7 : ByteArray} {a0_8 : Int} {A0_9 : Option Addr} {c0_9 : Nat} {l0_9 : List (S52)} {r1 : ByteArray} {r2 : Bool} (h : frame_sum.f k a0_0 a0_1 a0_2 a0_3 a0_4 a0_5 a0_6 a0_7 a0_8 l0_9 = some (r1, r2)) {Q1_ : Nat → Prop} (g1 : (V k52 (.slice A0_9 l0_9.length c0_9) l0_9).P w Q1_) :
  Calls Try.prog 51 #[.agg #[.int .i64 a0_0, .int .i64 a0_1, .bool a0_2, .string a0_3, .int .i64 a0_4, .int .i64 a0_5, .int .i64 a0_6, .string a0_7, .int .u64 a0_8, .slice A0_9 l0_9.length c0_9]] w fun e w' => e = .returned (.tuple #[.string r1, .bool r2]) ∧ Below w.heap.size w w' := by
 refine (frame_sum.calls k a0_0 a0_1 a0_2 a0_3 a0_4 a0_5 a0_6 a0_7 a0_8 A0_9 c0_9 l0_9 r1 r2 w (Kd.V_reads' (e := 0) (base := 0) g1).2.2 (Kd.V_reads' (e := 0) (base := 0) g1).2.1 h).mono ?_
 rintro e w' ⟨y0, y1⟩
 exact ⟨y0, y1⟩
theorem frame_Same.kn {w : World} (k : Nat) {a0_0 : Int} {a0_1 : Int} {a0_2 : Bool} {a0_3 : ByteArray} {a0_4 : Int} {a0_5 : Int} {a0_6 : Int} {a0_7 : ByteArray} {a0_8 : Int} {A0_9 : Option Addr} {c0_9 : Nat} {l0_9 : List (S52)} {a1_0 : Int} {a1_1 : Int} {a1_2 : Bool} {a1_3 : ByteArray} {a1_4 : Int} {a1_5 : Int} {a1_6 : Int} {a1_7 : ByteArray} {a1_8 : Int} {A1_9 : Option Addr} {c1_9 : Nat} {l1_9 : List (S52)} {r : Bool} (h : frame_Same.f k a0_0 a0_1 a0_2 a0_3 a0_4 a0_5 a0_6 a0_7 a0_8 l0_9 a1_0 a1_1 a1_2 a1_3 a1_4 a1_5 a1_6 a1_7 a1_8 l1_9 = some r) {Q1_ : Nat → Prop} {Q2_ : Nat → Prop} (g1 : (V k52 (.slice A0_9 l0_9.length c0_9) l0_9).P w Q1_) (g2 : (V k52 (.slice A1_9 l1_9.length c1_9) l1_9).P w Q2_) :
  Calls Try.prog 15 #[.agg #[.int .i64 a0_0, .int .i64 a0_1, .bool a0_2, .string a0_3, .int .i64 a0_4, .int .i64 a0_5, .int .i64 a0_6, .string a0_7, .int .u64 a0_8, .slice A0_9 l0_9.length c0_9], .agg #[.int .i64 a1_0, .int .i64 a1_1, .bool a1_2, .string a1_3, .int .i64 a1_4, .int .i64 a1_5, .int .i64 a1_6, .string a1_7, .int .u64 a1_8, .slice A1_9 l1_9.length c1_9]] w fun e w' => e = .returned (.bool r) ∧ Below w.heap.size w w' := by
 refine (frame_Same.calls k a0_0 a0_1 a0_2 a0_3 a0_4 a0_5 a0_6 a0_7 a0_8 A0_9 c0_9 l0_9 a1_0 a1_1 a1_2 a1_3 a1_4 a1_5 a1_6 a1_7 a1_8 A1_9 c1_9 l1_9 r w (Kd.V_reads' (e := 0) (base := 0) g1).2.2 (Kd.V_reads' (e := 0) (base := 0) g1).2.1 (Kd.V_reads' (e := 0) (base := 0) g2).2.2 (Kd.V_reads' (e := 0) (base := 0) g2).2.1 h).mono ?_
 rintro e w' ⟨y0, y1⟩
 exact ⟨y0, y1⟩
theorem varint_Put.kn {w : World} (k : Nat) {a0 : Int} {r : ByteArray} (h : varint_Put.f k a0 = some r)  :
  Calls Try.prog 39 #[.int .u64 a0] w fun e w' => e = .returned (.string r) ∧ Below w.heap.size w w' := by
 refine (varint_Put.calls k a0 r w h).mono ?_
 rintro e w' ⟨y0, y1⟩
 exact ⟨y0, y1⟩
end Go.Proofs.Ytjccgdnnnlgeeaa.XKn
namespace Go.Proofs.Ytjccgdnnnlgeeaa.XFr
open Go.RowKit Go.Proofs.YtjccgdnnnlgeeaaW.PrintWords Go.Proofs.YtjccgdnnnlgeeaaW.PrintLast Go.Proofs.YtjccgdnnnlgeeaaW.PrintMore Go.Proofs.Ytjccgdnnnlgeeaa.PA Go.Proofs.Ytjccgdnnnlgeeaa.XMem Go.Proofs.Ytjccgdnnnlgeeaa.XSt Go.Proofs.Ytjccgdnnnlgeeaa.XQuiet Go.Proofs.Ytjccgdnnnlgeeaa.XKn
open Go.Proofs.Ytjccgdnnnlgeeaa.XSum (Se kSe)
open Go.Proofs.Ytjccgdnnnlgeeaa.XV17 (mayT)
open Go.Proofs.Ytjccgdnnnlgeeaa.XV01 (G P)
open Go.Proofs.Ytjccgdnnnlgeeaa.XCrc (sealB openB)
set_option linter.unusedVariables false
set_option linter.unusedSimpArgs false
set_option maxRecDepth 100000
attribute [local go_sem] idx1 idx2 idx3 idx4 fld0 fld1
theorem conv1 (x : Int) (g : Nat) (w : World) (h : w.cell? ⟨g, 0, none⟩ = some (.int .u8 x)) : (convert 40 9 (.slice (some ⟨g, 0, none⟩) 1 1)).run Try.prog w = .ok (.string (strOfNums [x])) w := by
 have hC : Kd.C (Kd.int .u8) w (some ⟨g, 0, none⟩) 1 [x] := Kd.C_of_reads (d := (0 : Int)) ⟨rfl, by decide, fun _ => ⟨_, rfl, fun j hj => by
  have : j = 0 := by omega
  subst this
  rw [add_plain, h]
  rfl⟩⟩
 exact Kd.C_string Try.underlying40 Try.underlying5 Try.underlying9 hC
abbrev qconv (a b : TypeId) (o : Operand) : Op := .convert a b o
theorem new0 (w : World) (v : Value) (t : TypeId) : (w.alloc (.cells #[v] t)).cell? ⟨w.heap.size, 0, none⟩ = some v := by
 simp
attribute [local go_sem] new0

set_option maxHeartbeats 4000000 in
theorem wr3 (ok : Nat → Prop) (f : Fr) (A : Option Addr) (c : Nat) (w0 w : World) (S : Kn ok w0 [] nil tt [V kSe (.slice A f.f6.length c) f.f6] w) (h7 : f.f0 = 3) (hl : f.f6.length ≤ 40) (hz : ∀ x ∈ f.f6, x.f0.size ≤ 9223372036854775807) :
  Calls Try.prog 53 #[.agg #[.int .i64 f.f0, .int .i64 f.f1, .bool f.f2, .string f.f3, .int .i64 f.f4.f0, .int .i64 f.f4.f1, .int .i64 f.f4.f2, .string f.f4.f3, .int .u64 f.f5, .slice A f.f6.length c]] w fun e w' => e = .returned (.tuple #[.string (bodyF f).1, .bool (bodyF f).2]) ∧ Below w0.heap.size w0 w' := by
 have e : bodyF f = putT f.f6 := by unfold bodyF; rw [if_neg (by omega), if_neg (by omega), if_pos h7]
 rw [e]
 have HP := Aside0.mk (fun w v h => put06 f.f6 hl hz w v h)
 generalize putT f.f6 = r at HP ⊢
 obtain ⟨r1, r2⟩ := r
 clear e h7 hl hz
 go_enter Try.func53, Try.ntmps53
 go_upto_region 1 with (fail)
 generalize hg : World.alloc _ _ = w1
 replace S := S.new hg
 clear hg
 generalize w.heap.size = p1 at S ⊢
 replace S : Kn ok w0 [(p1, .cells #[.int .i64 f.f0, .int .i64 f.f1, .bool f.f2, .string f.f3, .int .i64 f.f4.f0, .int .i64 f.f4.f1, .int .i64 f.f4.f2, .string f.f4.f3, .int .u64 f.f5, .slice A f.f6.length c] TFr (0, 0))] nil tt [V kSe (.slice A f.f6.length c) f.f6] w1 := S
 have f_9 : w1.cell? ⟨p1, 9, none⟩ = some (.slice A f.f6.length c) := S.cell 0 9 rfl rfl
 go_wp2_with fail
 refine (HP.out _ _ (S.im 0 rfl)).mono ?_
 rintro e w2 ⟨rfl, hb⟩
 replace S := S.below hb
 clear f_9 hb HP
 go_wp2
 go_ret2
 exact ⟨rfl, S.bel⟩
set_option maxHeartbeats 4000000 in
theorem wr4 (ok : Nat → Prop) (f : Fr) (A : Option Addr) (c : Nat) (w0 w : World) (S : Kn ok w0 [] nil tt [V kSe (.slice A f.f6.length c) f.f6] w) (h7 : f.f0 = 4) (hl : f.f6.length ≤ 40) (hz : ∀ x ∈ f.f6, x.f0.size ≤ 9223372036854775807) :
  Calls Try.prog 57 #[.agg #[.int .i64 f.f0, .int .i64 f.f1, .bool f.f2, .string f.f3, .int .i64 f.f4.f0, .int .i64 f.f4.f1, .int .i64 f.f4.f2, .string f.f4.f3, .int .u64 f.f5, .slice A f.f6.length c]] w fun e w' => e = .returned (.tuple #[.string (bodyF f).1, .bool (bodyF f).2]) ∧ Below w0.heap.size w0 w' := by
 have e : bodyF f = (⟨#[]⟩, true) := by unfold bodyF; rw [if_neg (by omega), if_neg (by omega), if_neg (by omega)]
 rw [e]
 clear e h7 hl hz
 go_enter Try.func57, Try.ntmps57
 go_upto_region 1 with (fail)
 generalize hg : World.alloc _ _ = w1
 replace S := S.new hg
 clear hg
 generalize w.heap.size = p1 at S ⊢
 replace S : Kn ok w0 [(p1, .cells #[.int .i64 f.f0, .int .i64 f.f1, .bool f.f2, .string f.f3, .int .i64 f.f4.f0, .int .i64 f.f4.f1, .int .i64 f.f4.f2, .string f.f4.f3, .int .u64 f.f5, .slice A f.f6.length c] TFr (0, 0))] nil tt [V kSe (.slice A f.f6.length c) f.f6] w1 := S
 go_wp2
 go_ret2
 exact ⟨rfl, S.bel⟩
theorem TT_len (s : ByteArray) (p : Int) (hs : s.size ≤ 100000) : (TT s p).1.length ≤ 32 := by
 rcases TT_shape s p (by omega) with ⟨e, h, _⟩ | ⟨t, q, h, hm, _⟩
 ·rw [h]; exact Nat.zero_le _
 ·rw [h]; exact (tB_le hm).2
theorem read_len (s : ByteArray) (hs : s.size ≤ 100000) : (readF s).1.f6.length ≤ 32 := by
 have ht := fun p => TT_len s p hs
 unfold readF
 split
 ·exact Nat.zero_le _
 ·split
  ·exact Nat.zero_le _
  ·unfold rdBody rdDelta
   simp only
   repeat' split
   all_goals first | exact Nat.zero_le _ | exact ht _
set_option maxHeartbeats 8000000 in
theorem write_k1 (ok : Nat → Prop) (f : Fr) (A : Option Addr) (c : Nat) (w0 w : World) (S : Kn ok w0 [] nil tt [V kSe (.slice A f.f6.length c) f.f6] w) (h7 : f.f0 = 1) (hl : f.f6.length ≤ 40) (hz : ∀ x ∈ f.f6, x.f0.size ≤ 9223372036854775807) (hn : f.f3.size ≤ 9223372036854775807) (hs0 : 0 ≤ f.f1) (hs1 : f.f1 ≤ 1099511627776) (h5 : 0 ≤ f.f5 ∧ f.f5 < 18446744073709551616) :
  Calls Try.prog 24 #[.agg #[.int .i64 1, .int .i64 f.f1, .bool f.f2, .string f.f3, .int .i64 f.f4.f0, .int .i64 f.f4.f1, .int .i64 f.f4.f2, .string f.f4.f3, .int .u64 f.f5, .slice A f.f6.length c]] w fun e w' => ∃ t, e = .returned (.tuple #[.string t, .bool (mayF f)]) ∧ (mayF f = true → t = plainF f) ∧ Below w0.heap.size w0 w' := by
 have HW : ∀ z : World, (V kSe (.slice A f.f6.length c) f.f6).P z (fun _ => True) → Calls Try.prog 49 #[.agg #[.int .i64 1, .int .i64 f.f1, .bool f.f2, .string f.f3, .int .i64 f.f4.f0, .int .i64 f.f4.f1, .int .i64 f.f4.f2, .string f.f4.f3, .int .u64 f.f5, .slice A f.f6.length c]] z fun e w' => e = .returned (.tuple #[.string (bodyF f).1, .bool (bodyF f).2]) ∧ Below z.heap.size z w' := fun z g => by
  have h := frame_delta.kn (r1 := (bodyF f).1) (r2 := (bodyF f).2) 100 (delta_b 100 f hn (by omega) h7) g
  rw [h7] at h
  exact h
 replace HW := Aside0.mk HW
 have HMB := Aside0.mk (fun h : mayF f = true => (may_body h).1)
 have HWM := Aside0.mk (write_may f (by omega) h5)
 have hbl := body_le f
 have hPl := XV01.P_le f.f1
 have hpl : plainF f = (strOfNums [1] ++ P f.f1) ++ (bodyF f).1 := by show (strOfNums [f.f0 % 256] ++ P f.f1) ++ (bodyF f).1 = _; rw [h7]; rfl
 have hpz := plain_le hs0 hs1
 have HRD := Aside0.mk (fun z => read_calls (plainF f) (by omega) z)
 have HSM := Aside0.mk (sameF_b 100)
 have HLN := Aside0.mk hl
 have HPut := Aside0.mk (XV01.put_f 20 f.f1 hs0 (by omega) (by omega))
 have hw1 : IntKind.u64.wrap f.f1 = f.f1 := XVar.wrap_u64 _ hs0 (by omega)
 have hs0b : decide (f.f1 < 0) = false := decide_eq_false (by omega)
 have hs1b : decide (f.f1 > 1099511627776) = false := decide_eq_false (by omega)
 have hs1d : decide (1099511627776 < f.f1) = false := decide_eq_false (by omega)
 clear h5 hz hn hs0 hs1 hl
 generalize hb : bodyF f = bo at HW HMB hpl hbl
 clear hb
 obtain ⟨b1, b2⟩ := bo
 dsimp only at HW HMB hpl hbl
 generalize P f.f1 = pq at HPut hpl hPl
 have hcv : ∀ (g : Nat) (w : World), w.cell? ⟨g, 0, none⟩ = some (.int .u8 (IntKind.u8.wrap 1)) → (convert 40 9 (.slice (some ⟨g, 0, none⟩) 1 1)).run Try.prog w = .ok (.string (strOfNums [1])) w := fun g w h => conv1 1 g w (h.trans (by rw [IntKind.wrap_u8]; rfl))
 have hz1 := one_nums 1
 generalize strOfNums [1] = h1 at hcv hz1 hpl ⊢
 have hA0 : (h1.size + pq.size ≤ 9223372036854775807) = True := eq_true (by omega)
 have hA1 : decide (h1.size + pq.size ≤ 9223372036854775807) = true := decide_eq_true (by omega)
 have hA2 : (9223372036854775807 < h1.size + pq.size) = False := eq_false (by omega)
 have hB0 : (h1.size + pq.size + b1.size ≤ 9223372036854775807) = True := eq_true (by omega)
 have hB1 : ((h1 ++ pq).size + b1.size ≤ 9223372036854775807) = True := eq_true (by rw [XBytes.app_size]; omega)
 have hB2 : (9223372036854775807 < (h1 ++ pq).size + b1.size) = False := eq_false (by rw [XBytes.app_size]; omega)
 have hB3 : (9223372036854775807 < h1.size + pq.size + b1.size) = False := eq_false (by omega)
 clear hz1 hPl hbl
 generalize plainF f = pf at hpl hpz HRD HWM ⊢
 subst hpl
 have HRL := Aside0.mk (read_len ((h1 ++ pq) ++ b1) (by omega))
 clear hpz
 generalize readF ((h1 ++ pq) ++ b1) = rb at HRD HWM HRL
 obtain ⟨g, gb⟩ := rb
 dsimp only at HRD HWM HRL
 have H7 := Aside0.mk h7
 clear h7
 go_enter Try.func24, Try.ntmps24
 go_upto_region 1 with (fail)
 generalize hg : World.alloc _ _ = w1
 replace S := S.new hg
 clear hg
 generalize w.heap.size = p1 at S ⊢
 replace S : Kn ok w0 [(p1, .cells #[.int .i64 1, .int .i64 f.f1, .bool f.f2, .string f.f3, .int .i64 f.f4.f0, .int .i64 f.f4.f1, .int .i64 f.f4.f2, .string f.f4.f3, .int .u64 f.f5, .slice A f.f6.length c] TFr (0, 0))] nil tt [V kSe (.slice A f.f6.length c) f.f6] w1 := S
 have f_0 : w1.cell? ⟨p1, 0, none⟩ = some (.int .i64 1) := S.cell 0 0 rfl rfl
 have f_1 : w1.cell? ⟨p1, 1, none⟩ = some (.int .i64 f.f1) := S.cell 0 1 rfl rfl
 go_upto_region 3 with (fail)
 clear f_0 f_1
 have f_0 : w1.cell? ⟨p1, 0, none⟩ = some (.int .i64 1) := S.cell 0 0 rfl rfl
 have f_1 : w1.cell? ⟨p1, 1, none⟩ = some (.int .i64 f.f1) := S.cell 0 1 rfl rfl
 have f_2 : w1.cell? ⟨p1, 2, none⟩ = some (.bool f.f2) := S.cell 0 2 rfl rfl
 have f_3 : w1.cell? ⟨p1, 3, none⟩ = some (.string f.f3) := S.cell 0 3 rfl rfl
 have f_4 : w1.cell? ⟨p1, 4, none⟩ = some (.int .i64 f.f4.f0) := S.cell 0 4 rfl rfl
 have f_5 : w1.cell? ⟨p1, 5, none⟩ = some (.int .i64 f.f4.f1) := S.cell 0 5 rfl rfl
 have f_6 : w1.cell? ⟨p1, 6, none⟩ = some (.int .i64 f.f4.f2) := S.cell 0 6 rfl rfl
 have f_7 : w1.cell? ⟨p1, 7, none⟩ = some (.string f.f4.f3) := S.cell 0 7 rfl rfl
 have f_8 : w1.cell? ⟨p1, 8, none⟩ = some (.int .u64 f.f5) := S.cell 0 8 rfl rfl
 have f_9 : w1.cell? ⟨p1, 9, none⟩ = some (.slice A f.f6.length c) := S.cell 0 9 rfl rfl
 have Yf_0 : ∀ u : Kin w1, u.at'.cell? ⟨p1, 0, none⟩ = some (.int .i64 1) := Kin.cell f_0
 have Yf_1 : ∀ u : Kin w1, u.at'.cell? ⟨p1, 1, none⟩ = some (.int .i64 f.f1) := Kin.cell f_1
 have Yf_2 : ∀ u : Kin w1, u.at'.cell? ⟨p1, 2, none⟩ = some (.bool f.f2) := Kin.cell f_2
 have Yf_3 : ∀ u : Kin w1, u.at'.cell? ⟨p1, 3, none⟩ = some (.string f.f3) := Kin.cell f_3
 have Yf_4 : ∀ u : Kin w1, u.at'.cell? ⟨p1, 4, none⟩ = some (.int .i64 f.f4.f0) := Kin.cell f_4
 have Yf_5 : ∀ u : Kin w1, u.at'.cell? ⟨p1, 5, none⟩ = some (.int .i64 f.f4.f1) := Kin.cell f_5
 have Yf_6 : ∀ u : Kin w1, u.at'.cell? ⟨p1, 6, none⟩ = some (.int .i64 f.f4.f2) := Kin.cell f_6
 have Yf_7 : ∀ u : Kin w1, u.at'.cell? ⟨p1, 7, none⟩ = some (.string f.f4.f3) := Kin.cell f_7
 have Yf_8 : ∀ u : Kin w1, u.at'.cell? ⟨p1, 8, none⟩ = some (.int .u64 f.f5) := Kin.cell f_8
 have Yf_9 : ∀ u : Kin w1, u.at'.cell? ⟨p1, 9, none⟩ = some (.slice A f.f6.length c) := Kin.cell f_9
 have HVu : ∀ u : Kin w1, (V kSe (.slice A f.f6.length c) f.f6).P u.at' (fun _ => True) := fun u => Ft.below (Ft.all (S.ft 0 rfl)) u.bel
 go_wp2_with fail
 refine region_kin (by kernel_rfl) (by kernel_rfl) ?_
 repeat (go_big_quiet_step (first | (go_at_call 38; exact Kin.call (kinds_calls _)) | (go_at_call 49; exact Kin.call (HW.out _ (HVu _))) | fail))
 refine wpQuiet_nil ?_
 rintro w2 ⟨⟨_, hb⟩, rfl⟩
 replace S := S.below hb
 clear f_0 f_1 f_2 f_3 f_4 f_5 f_6 f_7 f_8 f_9 hb
 clear HVu HW Yf_0 Yf_1 Yf_2 Yf_3 Yf_4 Yf_5 Yf_6 Yf_7 Yf_8 Yf_9
 go_upto_region 4 with (fail)
 have hcell : ∀ w' : World, Below w2.heap.size w2 w' → w'.cell? ⟨p1, 0, none⟩ = some (.int .i64 1) ∧ w'.cell? ⟨p1, 1, none⟩ = some (.int .i64 f.f1) := fun w' hb => ⟨(S.below hb).cell 0 0 rfl rfl, (S.below hb).cell 0 1 rfl rfl⟩
 have HS := Aside0.mk S
 clear S
 go_cut [6] (fun v6 wx => v6 = .string ((h1 ++ pq) ++ b1) ∧ Below w2.heap.size w2 wx)
 case first =>
  rw [show Op.convert 40 9 (Operand.tmp 39) = qconv 40 9 (Operand.tmp 39) from rfl]
  go_region_held3 (fun w' => w'.cell? ⟨p1, 0, none⟩ = some (.int .i64 1) ∧ w'.cell? ⟨p1, 1, none⟩ = some (.int .i64 f.f1)) (exact hcell _ (by with_reducible repeat (first | assumption | apply below_alloc | apply below_drew1 | exact Below.refl _ _))) (first | (go_at_call 39; (with_reducible refine (varint_Put.kn 20 HPut.out).mono ?_); rintro e zw1 ⟨rfl, hb⟩; (try have hlit := pw_cell_below hb (new0 _ _ _)); have hb1 := below_step (show Below w2.heap.size w2 _ from (by with_reducible repeat (first | assumption | apply below_alloc | apply below_drew1 | exact Below.refl _ _))) hb; clear hb))
  all_goals (go_wp2_with fail; go_meet; exact ⟨rfl, (by with_reducible repeat (first | assumption | apply below_alloc | apply below_drew1 | exact Below.refl _ _))⟩)
 case rest =>
  obtain ⟨rfl, hb⟩ := hcut
  have S := HS.out.below hb
  clear hb hcell HS hcv hA0 hA1 hA2 hB0 hB1 hB2 hB3 HPut
  replace S : Kn ok w0 [(p1, .cells #[.int .i64 1, .int .i64 f.f1, .bool f.f2, .string f.f3, .int .i64 f.f4.f0, .int .i64 f.f4.f1, .int .i64 f.f4.f2, .string f.f4.f3, .int .u64 f.f5, .slice A f.f6.length c] TFr (0, 0))] nil tt [V kSe (.slice A f.f6.length c) f.f6] wc := S
  cases b2 with
  | false =>
   have hm : mayF f = false := by cases h : mayF f with | false => rfl | true => exact absurd (HMB.out h) (by decide)
   go_wp2
   go_ret2
   refine ⟨⟨#[]⟩, ?_, ?_, S.bel⟩
   ·(rw [hm]; try rfl)
   ·intro h; rw [hm] at h; cases h
  | true =>
   go_wp2_with fail
   refine (HRD.out _).mono ?_
   rintro e w3 ⟨A2, c2, rfl, hV, hb⟩
   replace S := S.call (f := (V kSe (.slice A2 g.f6.length c2) g.f6)) hb (Ft.mono _ hV (fun k hk => Or.inr hk))
   clear hb hV HRD
   go_upto_region 8 with (fail)
   generalize hg : World.alloc _ _ = w4
   replace S := S.new hg
   clear hg
   generalize w3.heap.size = p7 at S ⊢
   replace S : Kn ok w0 [(p7, .cells #[.int .i64 g.f0, .int .i64 g.f1, .bool g.f2, .string g.f3, .int .i64 g.f4.f0, .int .i64 g.f4.f1, .int .i64 g.f4.f2, .string g.f4.f3, .int .u64 g.f5, .slice A2 g.f6.length c2] TFr (0, 0)), (p1, .cells #[.int .i64 1, .int .i64 f.f1, .bool f.f2, .string f.f3, .int .i64 f.f4.f0, .int .i64 f.f4.f1, .int .i64 f.f4.f2, .string f.f4.f3, .int .u64 f.f5, .slice A f.f6.length c] TFr (0, 0))] nil tt [V kSe (.slice A2 g.f6.length c2) g.f6, V kSe (.slice A f.f6.length c) f.f6] w4 := S
   cases gb with
   | false =>
    have hm : mayF f = false := by cases h : mayF f with | false => rfl | true => exact absurd (HWM.out.2 h).1 (by decide)
    go_wp2
    go_ret2
    refine ⟨(h1 ++ pq) ++ b1, ?_, ?_, S.bel⟩
    ·(rw [hm]; try rfl)
    ·intro h; rfl
   | true =>
    obtain ⟨r, hr, hri⟩ := HSM.out g f (by have := HRL.out; omega) (by have := HRL.out; omega)
    have hm : mayF f = r := by rw [Bool.eq_iff_iff, hri, ← HWM.out]; exact ⟨fun h => h.2, fun h => ⟨rfl, h⟩⟩
    unfold sameArgs at hr
    rw [H7.out] at hr
    have HS2 := Aside0.mk hr
    have HM := Aside0.mk hm
    clear hr hri hm
    have g_0 : w4.cell? ⟨p7, 0, none⟩ = some (.int .i64 g.f0) := S.cell 0 0 rfl rfl
    have g_1 : w4.cell? ⟨p7, 1, none⟩ = some (.int .i64 g.f1) := S.cell 0 1 rfl rfl
    have g_2 : w4.cell? ⟨p7, 2, none⟩ = some (.bool g.f2) := S.cell 0 2 rfl rfl
    have g_3 : w4.cell? ⟨p7, 3, none⟩ = some (.string g.f3) := S.cell 0 3 rfl rfl
    have g_4 : w4.cell? ⟨p7, 4, none⟩ = some (.int .i64 g.f4.f0) := S.cell 0 4 rfl rfl
    have g_5 : w4.cell? ⟨p7, 5, none⟩ = some (.int .i64 g.f4.f1) := S.cell 0 5 rfl rfl
    have g_6 : w4.cell? ⟨p7, 6, none⟩ = some (.int .i64 g.f4.f2) := S.cell 0 6 rfl rfl
    have g_7 : w4.cell? ⟨p7, 7, none⟩ = some (.string g.f4.f3) := S.cell 0 7 rfl rfl
    have g_8 : w4.cell? ⟨p7, 8, none⟩ = some (.int .u64 g.f5) := S.cell 0 8 rfl rfl
    have g_9 : w4.cell? ⟨p7, 9, none⟩ = some (.slice A2 g.f6.length c2) := S.cell 0 9 rfl rfl
    have f_0 : w4.cell? ⟨p1, 0, none⟩ = some (.int .i64 1) := S.cell 1 0 rfl rfl
    have f_1 : w4.cell? ⟨p1, 1, none⟩ = some (.int .i64 f.f1) := S.cell 1 1 rfl rfl
    have f_2 : w4.cell? ⟨p1, 2, none⟩ = some (.bool f.f2) := S.cell 1 2 rfl rfl
    have f_3 : w4.cell? ⟨p1, 3, none⟩ = some (.string f.f3) := S.cell 1 3 rfl rfl
    have f_4 : w4.cell? ⟨p1, 4, none⟩ = some (.int .i64 f.f4.f0) := S.cell 1 4 rfl rfl
    have f_5 : w4.cell? ⟨p1, 5, none⟩ = some (.int .i64 f.f4.f1) := S.cell 1 5 rfl rfl
    have f_6 : w4.cell? ⟨p1, 6, none⟩ = some (.int .i64 f.f4.f2) := S.cell 1 6 rfl rfl
    have f_7 : w4.cell? ⟨p1, 7, none⟩ = some (.string f.f4.f3) := S.cell 1 7 rfl rfl
    have f_8 : w4.cell? ⟨p1, 8, none⟩ = some (.int .u64 f.f5) := S.cell 1 8 rfl rfl
    have f_9 : w4.cell? ⟨p1, 9, none⟩ = some (.slice A f.f6.length c) := S.cell 1 9 rfl rfl
    go_wp2_with fail
    refine (frame_Same.kn 100 HS2.out (S.ft 0 rfl) (S.ft 1 rfl)).mono ?_
    rintro e w5 ⟨rfl, hb⟩
    replace S := S.below hb
    clear g_0 g_1 g_2 g_3 g_4 g_5 g_6 g_7 g_8 g_9 f_0 f_1 f_2 f_3 f_4 f_5 f_6 f_7 f_8 f_9 hb HS2
    go_wp2
    go_ret2
    refine ⟨(h1 ++ pq) ++ b1, ?_, ?_, S.bel⟩
    ·(rw [HM.out]; try rfl)
    ·intro h; rfl
set_option maxHeartbeats 8000000 in
theorem write_k2 (ok : Nat → Prop) (f : Fr) (A : Option Addr) (c : Nat) (w0 w : World) (S : Kn ok w0 [] nil tt [V kSe (.slice A f.f6.length c) f.f6] w) (h7 : f.f0 = 2) (hl : f.f6.length ≤ 40) (hz : ∀ x ∈ f.f6, x.f0.size ≤ 9223372036854775807) (hn : f.f3.size ≤ 9223372036854775807) (hs0 : 0 ≤ f.f1) (hs1 : f.f1 ≤ 1099511627776) (h5 : 0 ≤ f.f5 ∧ f.f5 < 18446744073709551616) :
  Calls Try.prog 24 #[.agg #[.int .i64 2, .int .i64 f.f1, .bool f.f2, .string f.f3, .int .i64 f.f4.f0, .int .i64 f.f4.f1, .int .i64 f.f4.f2, .string f.f4.f3, .int .u64 f.f5, .slice A f.f6.length c]] w fun e w' => ∃ t, e = .returned (.tuple #[.string t, .bool (mayF f)]) ∧ (mayF f = true → t = plainF f) ∧ Below w0.heap.size w0 w' := by
 have HW : ∀ z : World, (V kSe (.slice A f.f6.length c) f.f6).P z (fun _ => True) → Calls Try.prog 51 #[.agg #[.int .i64 2, .int .i64 f.f1, .bool f.f2, .string f.f3, .int .i64 f.f4.f0, .int .i64 f.f4.f1, .int .i64 f.f4.f2, .string f.f4.f3, .int .u64 f.f5, .slice A f.f6.length c]] z fun e w' => e = .returned (.tuple #[.string (bodyF f).1, .bool (bodyF f).2]) ∧ Below z.heap.size z w' := fun z g => by
  have h := frame_sum.kn (r1 := (bodyF f).1) (r2 := (bodyF f).2) 100 (fsum_b 100 f (by omega) h7) g
  rw [h7] at h
  exact h
 replace HW := Aside0.mk HW
 have HMB := Aside0.mk (fun h : mayF f = true => (may_body h).1)
 have HWM := Aside0.mk (write_may f (by omega) h5)
 have hbl := body_le f
 have hPl := XV01.P_le f.f1
 have hpl : plainF f = (strOfNums [2] ++ P f.f1) ++ (bodyF f).1 := by show (strOfNums [f.f0 % 256] ++ P f.f1) ++ (bodyF f).1 = _; rw [h7]; rfl
 have hpz := plain_le hs0 hs1
 have HRD := Aside0.mk (fun z => read_calls (plainF f) (by omega) z)
 have HSM := Aside0.mk (sameF_b 100)
 have HLN := Aside0.mk hl
 have HPut := Aside0.mk (XV01.put_f 20 f.f1 hs0 (by omega) (by omega))
 have hw1 : IntKind.u64.wrap f.f1 = f.f1 := XVar.wrap_u64 _ hs0 (by omega)
 have hs0b : decide (f.f1 < 0) = false := decide_eq_false (by omega)
 have hs1b : decide (f.f1 > 1099511627776) = false := decide_eq_false (by omega)
 have hs1d : decide (1099511627776 < f.f1) = false := decide_eq_false (by omega)
 clear h5 hz hn hs0 hs1 hl
 generalize hb : bodyF f = bo at HW HMB hpl hbl
 clear hb
 obtain ⟨b1, b2⟩ := bo
 dsimp only at HW HMB hpl hbl
 generalize P f.f1 = pq at HPut hpl hPl
 have hcv : ∀ (g : Nat) (w : World), w.cell? ⟨g, 0, none⟩ = some (.int .u8 (IntKind.u8.wrap 2)) → (convert 40 9 (.slice (some ⟨g, 0, none⟩) 1 1)).run Try.prog w = .ok (.string (strOfNums [2])) w := fun g w h => conv1 2 g w (h.trans (by rw [IntKind.wrap_u8]; rfl))
 have hz1 := one_nums 2
 generalize strOfNums [2] = h1 at hcv hz1 hpl ⊢
 have hA0 : (h1.size + pq.size ≤ 9223372036854775807) = True := eq_true (by omega)
 have hA1 : decide (h1.size + pq.size ≤ 9223372036854775807) = true := decide_eq_true (by omega)
 have hA2 : (9223372036854775807 < h1.size + pq.size) = False := eq_false (by omega)
 have hB0 : (h1.size + pq.size + b1.size ≤ 9223372036854775807) = True := eq_true (by omega)
 have hB1 : ((h1 ++ pq).size + b1.size ≤ 9223372036854775807) = True := eq_true (by rw [XBytes.app_size]; omega)
 have hB2 : (9223372036854775807 < (h1 ++ pq).size + b1.size) = False := eq_false (by rw [XBytes.app_size]; omega)
 have hB3 : (9223372036854775807 < h1.size + pq.size + b1.size) = False := eq_false (by omega)
 clear hz1 hPl hbl
 generalize plainF f = pf at hpl hpz HRD HWM ⊢
 subst hpl
 have HRL := Aside0.mk (read_len ((h1 ++ pq) ++ b1) (by omega))
 clear hpz
 generalize readF ((h1 ++ pq) ++ b1) = rb at HRD HWM HRL
 obtain ⟨g, gb⟩ := rb
 dsimp only at HRD HWM HRL
 have H7 := Aside0.mk h7
 clear h7
 go_enter Try.func24, Try.ntmps24
 go_upto_region 1 with (fail)
 generalize hg : World.alloc _ _ = w1
 replace S := S.new hg
 clear hg
 generalize w.heap.size = p1 at S ⊢
 replace S : Kn ok w0 [(p1, .cells #[.int .i64 2, .int .i64 f.f1, .bool f.f2, .string f.f3, .int .i64 f.f4.f0, .int .i64 f.f4.f1, .int .i64 f.f4.f2, .string f.f4.f3, .int .u64 f.f5, .slice A f.f6.length c] TFr (0, 0))] nil tt [V kSe (.slice A f.f6.length c) f.f6] w1 := S
 have f_0 : w1.cell? ⟨p1, 0, none⟩ = some (.int .i64 2) := S.cell 0 0 rfl rfl
 have f_1 : w1.cell? ⟨p1, 1, none⟩ = some (.int .i64 f.f1) := S.cell 0 1 rfl rfl
 go_upto_region 3 with (fail)
 clear f_0 f_1
 have f_0 : w1.cell? ⟨p1, 0, none⟩ = some (.int .i64 2) := S.cell 0 0 rfl rfl
 have f_1 : w1.cell? ⟨p1, 1, none⟩ = some (.int .i64 f.f1) := S.cell 0 1 rfl rfl
 have f_2 : w1.cell? ⟨p1, 2, none⟩ = some (.bool f.f2) := S.cell 0 2 rfl rfl
 have f_3 : w1.cell? ⟨p1, 3, none⟩ = some (.string f.f3) := S.cell 0 3 rfl rfl
 have f_4 : w1.cell? ⟨p1, 4, none⟩ = some (.int .i64 f.f4.f0) := S.cell 0 4 rfl rfl
 have f_5 : w1.cell? ⟨p1, 5, none⟩ = some (.int .i64 f.f4.f1) := S.cell 0 5 rfl rfl
 have f_6 : w1.cell? ⟨p1, 6, none⟩ = some (.int .i64 f.f4.f2) := S.cell 0 6 rfl rfl
 have f_7 : w1.cell? ⟨p1, 7, none⟩ = some (.string f.f4.f3) := S.cell 0 7 rfl rfl
 have f_8 : w1.cell? ⟨p1, 8, none⟩ = some (.int .u64 f.f5) := S.cell 0 8 rfl rfl
 have f_9 : w1.cell? ⟨p1, 9, none⟩ = some (.slice A f.f6.length c) := S.cell 0 9 rfl rfl
 have Yf_0 : ∀ u : Kin w1, u.at'.cell? ⟨p1, 0, none⟩ = some (.int .i64 2) := Kin.cell f_0
 have Yf_1 : ∀ u : Kin w1, u.at'.cell? ⟨p1, 1, none⟩ = some (.int .i64 f.f1) := Kin.cell f_1
 have Yf_2 : ∀ u : Kin w1, u.at'.cell? ⟨p1, 2, none⟩ = some (.bool f.f2) := Kin.cell f_2
 have Yf_3 : ∀ u : Kin w1, u.at'.cell? ⟨p1, 3, none⟩ = some (.string f.f3) := Kin.cell f_3
 have Yf_4 : ∀ u : Kin w1, u.at'.cell? ⟨p1, 4, none⟩ = some (.int .i64 f.f4.f0) := Kin.cell f_4
 have Yf_5 : ∀ u : Kin w1, u.at'.cell? ⟨p1, 5, none⟩ = some (.int .i64 f.f4.f1) := Kin.cell f_5
 have Yf_6 : ∀ u : Kin w1, u.at'.cell? ⟨p1, 6, none⟩ = some (.int .i64 f.f4.f2) := Kin.cell f_6
 have Yf_7 : ∀ u : Kin w1, u.at'.cell? ⟨p1, 7, none⟩ = some (.string f.f4.f3) := Kin.cell f_7
 have Yf_8 : ∀ u : Kin w1, u.at'.cell? ⟨p1, 8, none⟩ = some (.int .u64 f.f5) := Kin.cell f_8
 have Yf_9 : ∀ u : Kin w1, u.at'.cell? ⟨p1, 9, none⟩ = some (.slice A f.f6.length c) := Kin.cell f_9
 have HVu : ∀ u : Kin w1, (V kSe (.slice A f.f6.length c) f.f6).P u.at' (fun _ => True) := fun u => Ft.below (Ft.all (S.ft 0 rfl)) u.bel
 go_wp2_with fail
 refine region_kin (by kernel_rfl) (by kernel_rfl) ?_
 repeat (go_big_quiet_step (first | (go_at_call 38; exact Kin.call (kinds_calls _)) | (go_at_call 51; exact Kin.call (HW.out _ (HVu _))) | fail))
 refine wpQuiet_nil ?_
 rintro w2 ⟨⟨_, hb⟩, rfl⟩
 replace S := S.below hb
 clear f_0 f_1 f_2 f_3 f_4 f_5 f_6 f_7 f_8 f_9 hb
 clear HVu HW Yf_0 Yf_1 Yf_2 Yf_3 Yf_4 Yf_5 Yf_6 Yf_7 Yf_8 Yf_9
 go_upto_region 4 with (fail)
 have hcell : ∀ w' : World, Below w2.heap.size w2 w' → w'.cell? ⟨p1, 0, none⟩ = some (.int .i64 2) ∧ w'.cell? ⟨p1, 1, none⟩ = some (.int .i64 f.f1) := fun w' hb => ⟨(S.below hb).cell 0 0 rfl rfl, (S.below hb).cell 0 1 rfl rfl⟩
 have HS := Aside0.mk S
 clear S
 go_cut [6] (fun v6 wx => v6 = .string ((h1 ++ pq) ++ b1) ∧ Below w2.heap.size w2 wx)
 case first =>
  rw [show Op.convert 40 9 (Operand.tmp 39) = qconv 40 9 (Operand.tmp 39) from rfl]
  go_region_held3 (fun w' => w'.cell? ⟨p1, 0, none⟩ = some (.int .i64 2) ∧ w'.cell? ⟨p1, 1, none⟩ = some (.int .i64 f.f1)) (exact hcell _ (by with_reducible repeat (first | assumption | apply below_alloc | apply below_drew1 | exact Below.refl _ _))) (first | (go_at_call 39; (with_reducible refine (varint_Put.kn 20 HPut.out).mono ?_); rintro e zw1 ⟨rfl, hb⟩; (try have hlit := pw_cell_below hb (new0 _ _ _)); have hb1 := below_step (show Below w2.heap.size w2 _ from (by with_reducible repeat (first | assumption | apply below_alloc | apply below_drew1 | exact Below.refl _ _))) hb; clear hb))
  all_goals (go_wp2_with fail; go_meet; exact ⟨rfl, (by with_reducible repeat (first | assumption | apply below_alloc | apply below_drew1 | exact Below.refl _ _))⟩)
 case rest =>
  obtain ⟨rfl, hb⟩ := hcut
  have S := HS.out.below hb
  clear hb hcell HS hcv hA0 hA1 hA2 hB0 hB1 hB2 hB3 HPut
  replace S : Kn ok w0 [(p1, .cells #[.int .i64 2, .int .i64 f.f1, .bool f.f2, .string f.f3, .int .i64 f.f4.f0, .int .i64 f.f4.f1, .int .i64 f.f4.f2, .string f.f4.f3, .int .u64 f.f5, .slice A f.f6.length c] TFr (0, 0))] nil tt [V kSe (.slice A f.f6.length c) f.f6] wc := S
  cases b2 with
  | false =>
   have hm : mayF f = false := by cases h : mayF f with | false => rfl | true => exact absurd (HMB.out h) (by decide)
   go_wp2
   go_ret2
   refine ⟨⟨#[]⟩, ?_, ?_, S.bel⟩
   ·(rw [hm]; try rfl)
   ·intro h; rw [hm] at h; cases h
  | true =>
   go_wp2_with fail
   refine (HRD.out _).mono ?_
   rintro e w3 ⟨A2, c2, rfl, hV, hb⟩
   replace S := S.call (f := (V kSe (.slice A2 g.f6.length c2) g.f6)) hb (Ft.mono _ hV (fun k hk => Or.inr hk))
   clear hb hV HRD
   go_upto_region 8 with (fail)
   generalize hg : World.alloc _ _ = w4
   replace S := S.new hg
   clear hg
   generalize w3.heap.size = p7 at S ⊢
   replace S : Kn ok w0 [(p7, .cells #[.int .i64 g.f0, .int .i64 g.f1, .bool g.f2, .string g.f3, .int .i64 g.f4.f0, .int .i64 g.f4.f1, .int .i64 g.f4.f2, .string g.f4.f3, .int .u64 g.f5, .slice A2 g.f6.length c2] TFr (0, 0)), (p1, .cells #[.int .i64 2, .int .i64 f.f1, .bool f.f2, .string f.f3, .int .i64 f.f4.f0, .int .i64 f.f4.f1, .int .i64 f.f4.f2, .string f.f4.f3, .int .u64 f.f5, .slice A f.f6.length c] TFr (0, 0))] nil tt [V kSe (.slice A2 g.f6.length c2) g.f6, V kSe (.slice A f.f6.length c) f.f6] w4 := S
   cases gb with
   | false =>
    have hm : mayF f = false := by cases h : mayF f with | false => rfl | true => exact absurd (HWM.out.2 h).1 (by decide)
    go_wp2
    go_ret2
    refine ⟨(h1 ++ pq) ++ b1, ?_, ?_, S.bel⟩
    ·(rw [hm]; try rfl)
    ·intro h; rfl
   | true =>
    obtain ⟨r, hr, hri⟩ := HSM.out g f (by have := HRL.out; omega) (by have := HRL.out; omega)
    have hm : mayF f = r := by rw [Bool.eq_iff_iff, hri, ← HWM.out]; exact ⟨fun h => h.2, fun h => ⟨rfl, h⟩⟩
    unfold sameArgs at hr
    rw [H7.out] at hr
    have HS2 := Aside0.mk hr
    have HM := Aside0.mk hm
    clear hr hri hm
    have g_0 : w4.cell? ⟨p7, 0, none⟩ = some (.int .i64 g.f0) := S.cell 0 0 rfl rfl
    have g_1 : w4.cell? ⟨p7, 1, none⟩ = some (.int .i64 g.f1) := S.cell 0 1 rfl rfl
    have g_2 : w4.cell? ⟨p7, 2, none⟩ = some (.bool g.f2) := S.cell 0 2 rfl rfl
    have g_3 : w4.cell? ⟨p7, 3, none⟩ = some (.string g.f3) := S.cell 0 3 rfl rfl
    have g_4 : w4.cell? ⟨p7, 4, none⟩ = some (.int .i64 g.f4.f0) := S.cell 0 4 rfl rfl
    have g_5 : w4.cell? ⟨p7, 5, none⟩ = some (.int .i64 g.f4.f1) := S.cell 0 5 rfl rfl
    have g_6 : w4.cell? ⟨p7, 6, none⟩ = some (.int .i64 g.f4.f2) := S.cell 0 6 rfl rfl
    have g_7 : w4.cell? ⟨p7, 7, none⟩ = some (.string g.f4.f3) := S.cell 0 7 rfl rfl
    have g_8 : w4.cell? ⟨p7, 8, none⟩ = some (.int .u64 g.f5) := S.cell 0 8 rfl rfl
    have g_9 : w4.cell? ⟨p7, 9, none⟩ = some (.slice A2 g.f6.length c2) := S.cell 0 9 rfl rfl
    have f_0 : w4.cell? ⟨p1, 0, none⟩ = some (.int .i64 2) := S.cell 1 0 rfl rfl
    have f_1 : w4.cell? ⟨p1, 1, none⟩ = some (.int .i64 f.f1) := S.cell 1 1 rfl rfl
    have f_2 : w4.cell? ⟨p1, 2, none⟩ = some (.bool f.f2) := S.cell 1 2 rfl rfl
    have f_3 : w4.cell? ⟨p1, 3, none⟩ = some (.string f.f3) := S.cell 1 3 rfl rfl
    have f_4 : w4.cell? ⟨p1, 4, none⟩ = some (.int .i64 f.f4.f0) := S.cell 1 4 rfl rfl
    have f_5 : w4.cell? ⟨p1, 5, none⟩ = some (.int .i64 f.f4.f1) := S.cell 1 5 rfl rfl
    have f_6 : w4.cell? ⟨p1, 6, none⟩ = some (.int .i64 f.f4.f2) := S.cell 1 6 rfl rfl
    have f_7 : w4.cell? ⟨p1, 7, none⟩ = some (.string f.f4.f3) := S.cell 1 7 rfl rfl
    have f_8 : w4.cell? ⟨p1, 8, none⟩ = some (.int .u64 f.f5) := S.cell 1 8 rfl rfl
    have f_9 : w4.cell? ⟨p1, 9, none⟩ = some (.slice A f.f6.length c) := S.cell 1 9 rfl rfl
    go_wp2_with fail
    refine (frame_Same.kn 100 HS2.out (S.ft 0 rfl) (S.ft 1 rfl)).mono ?_
    rintro e w5 ⟨rfl, hb⟩
    replace S := S.below hb
    clear g_0 g_1 g_2 g_3 g_4 g_5 g_6 g_7 g_8 g_9 f_0 f_1 f_2 f_3 f_4 f_5 f_6 f_7 f_8 f_9 hb HS2
    go_wp2
    go_ret2
    refine ⟨(h1 ++ pq) ++ b1, ?_, ?_, S.bel⟩
    ·(rw [HM.out]; try rfl)
    ·intro h; rfl
set_option maxHeartbeats 8000000 in
theorem write_k3 (ok : Nat → Prop) (f : Fr) (A : Option Addr) (c : Nat) (w0 w : World) (S : Kn ok w0 [] nil tt [V kSe (.slice A f.f6.length c) f.f6] w) (h7 : f.f0 = 3) (hl : f.f6.length ≤ 40) (hz : ∀ x ∈ f.f6, x.f0.size ≤ 9223372036854775807) (hn : f.f3.size ≤ 9223372036854775807) (hs0 : 0 ≤ f.f1) (hs1 : f.f1 ≤ 1099511627776) (h5 : 0 ≤ f.f5 ∧ f.f5 < 18446744073709551616) :
  Calls Try.prog 24 #[.agg #[.int .i64 3, .int .i64 f.f1, .bool f.f2, .string f.f3, .int .i64 f.f4.f0, .int .i64 f.f4.f1, .int .i64 f.f4.f2, .string f.f4.f3, .int .u64 f.f5, .slice A f.f6.length c]] w fun e w' => ∃ t, e = .returned (.tuple #[.string t, .bool (mayF f)]) ∧ (mayF f = true → t = plainF f) ∧ Below w0.heap.size w0 w' := by
 have HW : ∀ z : World, (V kSe (.slice A f.f6.length c) f.f6).P z (fun _ => True) → Calls Try.prog 53 #[.agg #[.int .i64 3, .int .i64 f.f1, .bool f.f2, .string f.f3, .int .i64 f.f4.f0, .int .i64 f.f4.f1, .int .i64 f.f4.f2, .string f.f4.f3, .int .u64 f.f5, .slice A f.f6.length c]] z fun e w' => e = .returned (.tuple #[.string (bodyF f).1, .bool (bodyF f).2]) ∧ Below z.heap.size z w' := fun z g => by
  have h := wr3 (fun _ => True) f A c z z (Kn.enter _ z (fun q hq => by simp only [List.mem_singleton] at hq; subst hq; exact g)) h7 hl hz
  rw [h7] at h
  exact h
 replace HW := Aside0.mk HW
 have HMB := Aside0.mk (fun h : mayF f = true => (may_body h).1)
 have HWM := Aside0.mk (write_may f (by omega) h5)
 have hbl := body_le f
 have hPl := XV01.P_le f.f1
 have hpl : plainF f = (strOfNums [3] ++ P f.f1) ++ (bodyF f).1 := by show (strOfNums [f.f0 % 256] ++ P f.f1) ++ (bodyF f).1 = _; rw [h7]; rfl
 have hpz := plain_le hs0 hs1
 have HRD := Aside0.mk (fun z => read_calls (plainF f) (by omega) z)
 have HSM := Aside0.mk (sameF_b 100)
 have HLN := Aside0.mk hl
 have HPut := Aside0.mk (XV01.put_f 20 f.f1 hs0 (by omega) (by omega))
 have hw1 : IntKind.u64.wrap f.f1 = f.f1 := XVar.wrap_u64 _ hs0 (by omega)
 have hs0b : decide (f.f1 < 0) = false := decide_eq_false (by omega)
 have hs1b : decide (f.f1 > 1099511627776) = false := decide_eq_false (by omega)
 have hs1d : decide (1099511627776 < f.f1) = false := decide_eq_false (by omega)
 clear h5 hz hn hs0 hs1 hl
 generalize hb : bodyF f = bo at HW HMB hpl hbl
 clear hb
 obtain ⟨b1, b2⟩ := bo
 dsimp only at HW HMB hpl hbl
 generalize P f.f1 = pq at HPut hpl hPl
 have hcv : ∀ (g : Nat) (w : World), w.cell? ⟨g, 0, none⟩ = some (.int .u8 (IntKind.u8.wrap 3)) → (convert 40 9 (.slice (some ⟨g, 0, none⟩) 1 1)).run Try.prog w = .ok (.string (strOfNums [3])) w := fun g w h => conv1 3 g w (h.trans (by rw [IntKind.wrap_u8]; rfl))
 have hz1 := one_nums 3
 generalize strOfNums [3] = h1 at hcv hz1 hpl ⊢
 have hA0 : (h1.size + pq.size ≤ 9223372036854775807) = True := eq_true (by omega)
 have hA1 : decide (h1.size + pq.size ≤ 9223372036854775807) = true := decide_eq_true (by omega)
 have hA2 : (9223372036854775807 < h1.size + pq.size) = False := eq_false (by omega)
 have hB0 : (h1.size + pq.size + b1.size ≤ 9223372036854775807) = True := eq_true (by omega)
 have hB1 : ((h1 ++ pq).size + b1.size ≤ 9223372036854775807) = True := eq_true (by rw [XBytes.app_size]; omega)
 have hB2 : (9223372036854775807 < (h1 ++ pq).size + b1.size) = False := eq_false (by rw [XBytes.app_size]; omega)
 have hB3 : (9223372036854775807 < h1.size + pq.size + b1.size) = False := eq_false (by omega)
 clear hz1 hPl hbl
 generalize plainF f = pf at hpl hpz HRD HWM ⊢
 subst hpl
 have HRL := Aside0.mk (read_len ((h1 ++ pq) ++ b1) (by omega))
 clear hpz
 generalize readF ((h1 ++ pq) ++ b1) = rb at HRD HWM HRL
 obtain ⟨g, gb⟩ := rb
 dsimp only at HRD HWM HRL
 have H7 := Aside0.mk h7
 clear h7
 go_enter Try.func24, Try.ntmps24
 go_upto_region 1 with (fail)
 generalize hg : World.alloc _ _ = w1
 replace S := S.new hg
 clear hg
 generalize w.heap.size = p1 at S ⊢
 replace S : Kn ok w0 [(p1, .cells #[.int .i64 3, .int .i64 f.f1, .bool f.f2, .string f.f3, .int .i64 f.f4.f0, .int .i64 f.f4.f1, .int .i64 f.f4.f2, .string f.f4.f3, .int .u64 f.f5, .slice A f.f6.length c] TFr (0, 0))] nil tt [V kSe (.slice A f.f6.length c) f.f6] w1 := S
 have f_0 : w1.cell? ⟨p1, 0, none⟩ = some (.int .i64 3) := S.cell 0 0 rfl rfl
 have f_1 : w1.cell? ⟨p1, 1, none⟩ = some (.int .i64 f.f1) := S.cell 0 1 rfl rfl
 go_upto_region 3 with (fail)
 clear f_0 f_1
 have f_0 : w1.cell? ⟨p1, 0, none⟩ = some (.int .i64 3) := S.cell 0 0 rfl rfl
 have f_1 : w1.cell? ⟨p1, 1, none⟩ = some (.int .i64 f.f1) := S.cell 0 1 rfl rfl
 have f_2 : w1.cell? ⟨p1, 2, none⟩ = some (.bool f.f2) := S.cell 0 2 rfl rfl
 have f_3 : w1.cell? ⟨p1, 3, none⟩ = some (.string f.f3) := S.cell 0 3 rfl rfl
 have f_4 : w1.cell? ⟨p1, 4, none⟩ = some (.int .i64 f.f4.f0) := S.cell 0 4 rfl rfl
 have f_5 : w1.cell? ⟨p1, 5, none⟩ = some (.int .i64 f.f4.f1) := S.cell 0 5 rfl rfl
 have f_6 : w1.cell? ⟨p1, 6, none⟩ = some (.int .i64 f.f4.f2) := S.cell 0 6 rfl rfl
 have f_7 : w1.cell? ⟨p1, 7, none⟩ = some (.string f.f4.f3) := S.cell 0 7 rfl rfl
 have f_8 : w1.cell? ⟨p1, 8, none⟩ = some (.int .u64 f.f5) := S.cell 0 8 rfl rfl
 have f_9 : w1.cell? ⟨p1, 9, none⟩ = some (.slice A f.f6.length c) := S.cell 0 9 rfl rfl
 have Yf_0 : ∀ u : Kin w1, u.at'.cell? ⟨p1, 0, none⟩ = some (.int .i64 3) := Kin.cell f_0
 have Yf_1 : ∀ u : Kin w1, u.at'.cell? ⟨p1, 1, none⟩ = some (.int .i64 f.f1) := Kin.cell f_1
 have Yf_2 : ∀ u : Kin w1, u.at'.cell? ⟨p1, 2, none⟩ = some (.bool f.f2) := Kin.cell f_2
 have Yf_3 : ∀ u : Kin w1, u.at'.cell? ⟨p1, 3, none⟩ = some (.string f.f3) := Kin.cell f_3
 have Yf_4 : ∀ u : Kin w1, u.at'.cell? ⟨p1, 4, none⟩ = some (.int .i64 f.f4.f0) := Kin.cell f_4
 have Yf_5 : ∀ u : Kin w1, u.at'.cell? ⟨p1, 5, none⟩ = some (.int .i64 f.f4.f1) := Kin.cell f_5
 have Yf_6 : ∀ u : Kin w1, u.at'.cell? ⟨p1, 6, none⟩ = some (.int .i64 f.f4.f2) := Kin.cell f_6
 have Yf_7 : ∀ u : Kin w1, u.at'.cell? ⟨p1, 7, none⟩ = some (.string f.f4.f3) := Kin.cell f_7
 have Yf_8 : ∀ u : Kin w1, u.at'.cell? ⟨p1, 8, none⟩ = some (.int .u64 f.f5) := Kin.cell f_8
 have Yf_9 : ∀ u : Kin w1, u.at'.cell? ⟨p1, 9, none⟩ = some (.slice A f.f6.length c) := Kin.cell f_9
 have HVu : ∀ u : Kin w1, (V kSe (.slice A f.f6.length c) f.f6).P u.at' (fun _ => True) := fun u => Ft.below (Ft.all (S.ft 0 rfl)) u.bel
 go_wp2_with fail
 refine region_kin (by kernel_rfl) (by kernel_rfl) ?_
 repeat (go_big_quiet_step (first | (go_at_call 38; exact Kin.call (kinds_calls _)) | (go_at_call 53; exact Kin.call (HW.out _ (HVu _))) | fail))
 refine wpQuiet_nil ?_
 rintro w2 ⟨⟨_, hb⟩, rfl⟩
 replace S := S.below hb
 clear f_0 f_1 f_2 f_3 f_4 f_5 f_6 f_7 f_8 f_9 hb
 clear HVu HW Yf_0 Yf_1 Yf_2 Yf_3 Yf_4 Yf_5 Yf_6 Yf_7 Yf_8 Yf_9
 go_upto_region 4 with (fail)
 have hcell : ∀ w' : World, Below w2.heap.size w2 w' → w'.cell? ⟨p1, 0, none⟩ = some (.int .i64 3) ∧ w'.cell? ⟨p1, 1, none⟩ = some (.int .i64 f.f1) := fun w' hb => ⟨(S.below hb).cell 0 0 rfl rfl, (S.below hb).cell 0 1 rfl rfl⟩
 have HS := Aside0.mk S
 clear S
 go_cut [6] (fun v6 wx => v6 = .string ((h1 ++ pq) ++ b1) ∧ Below w2.heap.size w2 wx)
 case first =>
  rw [show Op.convert 40 9 (Operand.tmp 39) = qconv 40 9 (Operand.tmp 39) from rfl]
  go_region_held3 (fun w' => w'.cell? ⟨p1, 0, none⟩ = some (.int .i64 3) ∧ w'.cell? ⟨p1, 1, none⟩ = some (.int .i64 f.f1)) (exact hcell _ (by with_reducible repeat (first | assumption | apply below_alloc | apply below_drew1 | exact Below.refl _ _))) (first | (go_at_call 39; (with_reducible refine (varint_Put.kn 20 HPut.out).mono ?_); rintro e zw1 ⟨rfl, hb⟩; (try have hlit := pw_cell_below hb (new0 _ _ _)); have hb1 := below_step (show Below w2.heap.size w2 _ from (by with_reducible repeat (first | assumption | apply below_alloc | apply below_drew1 | exact Below.refl _ _))) hb; clear hb))
  all_goals (go_wp2_with fail; go_meet; exact ⟨rfl, (by with_reducible repeat (first | assumption | apply below_alloc | apply below_drew1 | exact Below.refl _ _))⟩)
 case rest =>
  obtain ⟨rfl, hb⟩ := hcut
  have S := HS.out.below hb
  clear hb hcell HS hcv hA0 hA1 hA2 hB0 hB1 hB2 hB3 HPut
  replace S : Kn ok w0 [(p1, .cells #[.int .i64 3, .int .i64 f.f1, .bool f.f2, .string f.f3, .int .i64 f.f4.f0, .int .i64 f.f4.f1, .int .i64 f.f4.f2, .string f.f4.f3, .int .u64 f.f5, .slice A f.f6.length c] TFr (0, 0))] nil tt [V kSe (.slice A f.f6.length c) f.f6] wc := S
  cases b2 with
  | false =>
   have hm : mayF f = false := by cases h : mayF f with | false => rfl | true => exact absurd (HMB.out h) (by decide)
   go_wp2
   go_ret2
   refine ⟨⟨#[]⟩, ?_, ?_, S.bel⟩
   ·(rw [hm]; try rfl)
   ·intro h; rw [hm] at h; cases h
  | true =>
   go_wp2_with fail
   refine (HRD.out _).mono ?_
   rintro e w3 ⟨A2, c2, rfl, hV, hb⟩
   replace S := S.call (f := (V kSe (.slice A2 g.f6.length c2) g.f6)) hb (Ft.mono _ hV (fun k hk => Or.inr hk))
   clear hb hV HRD
   go_upto_region 8 with (fail)
   generalize hg : World.alloc _ _ = w4
   replace S := S.new hg
   clear hg
   generalize w3.heap.size = p7 at S ⊢
   replace S : Kn ok w0 [(p7, .cells #[.int .i64 g.f0, .int .i64 g.f1, .bool g.f2, .string g.f3, .int .i64 g.f4.f0, .int .i64 g.f4.f1, .int .i64 g.f4.f2, .string g.f4.f3, .int .u64 g.f5, .slice A2 g.f6.length c2] TFr (0, 0)), (p1, .cells #[.int .i64 3, .int .i64 f.f1, .bool f.f2, .string f.f3, .int .i64 f.f4.f0, .int .i64 f.f4.f1, .int .i64 f.f4.f2, .string f.f4.f3, .int .u64 f.f5, .slice A f.f6.length c] TFr (0, 0))] nil tt [V kSe (.slice A2 g.f6.length c2) g.f6, V kSe (.slice A f.f6.length c) f.f6] w4 := S
   cases gb with
   | false =>
    have hm : mayF f = false := by cases h : mayF f with | false => rfl | true => exact absurd (HWM.out.2 h).1 (by decide)
    go_wp2
    go_ret2
    refine ⟨(h1 ++ pq) ++ b1, ?_, ?_, S.bel⟩
    ·(rw [hm]; try rfl)
    ·intro h; rfl
   | true =>
    obtain ⟨r, hr, hri⟩ := HSM.out g f (by have := HRL.out; omega) (by have := HRL.out; omega)
    have hm : mayF f = r := by rw [Bool.eq_iff_iff, hri, ← HWM.out]; exact ⟨fun h => h.2, fun h => ⟨rfl, h⟩⟩
    unfold sameArgs at hr
    rw [H7.out] at hr
    have HS2 := Aside0.mk hr
    have HM := Aside0.mk hm
    clear hr hri hm
    have g_0 : w4.cell? ⟨p7, 0, none⟩ = some (.int .i64 g.f0) := S.cell 0 0 rfl rfl
    have g_1 : w4.cell? ⟨p7, 1, none⟩ = some (.int .i64 g.f1) := S.cell 0 1 rfl rfl
    have g_2 : w4.cell? ⟨p7, 2, none⟩ = some (.bool g.f2) := S.cell 0 2 rfl rfl
    have g_3 : w4.cell? ⟨p7, 3, none⟩ = some (.string g.f3) := S.cell 0 3 rfl rfl
    have g_4 : w4.cell? ⟨p7, 4, none⟩ = some (.int .i64 g.f4.f0) := S.cell 0 4 rfl rfl
    have g_5 : w4.cell? ⟨p7, 5, none⟩ = some (.int .i64 g.f4.f1) := S.cell 0 5 rfl rfl
    have g_6 : w4.cell? ⟨p7, 6, none⟩ = some (.int .i64 g.f4.f2) := S.cell 0 6 rfl rfl
    have g_7 : w4.cell? ⟨p7, 7, none⟩ = some (.string g.f4.f3) := S.cell 0 7 rfl rfl
    have g_8 : w4.cell? ⟨p7, 8, none⟩ = some (.int .u64 g.f5) := S.cell 0 8 rfl rfl
    have g_9 : w4.cell? ⟨p7, 9, none⟩ = some (.slice A2 g.f6.length c2) := S.cell 0 9 rfl rfl
    have f_0 : w4.cell? ⟨p1, 0, none⟩ = some (.int .i64 3) := S.cell 1 0 rfl rfl
    have f_1 : w4.cell? ⟨p1, 1, none⟩ = some (.int .i64 f.f1) := S.cell 1 1 rfl rfl
    have f_2 : w4.cell? ⟨p1, 2, none⟩ = some (.bool f.f2) := S.cell 1 2 rfl rfl
    have f_3 : w4.cell? ⟨p1, 3, none⟩ = some (.string f.f3) := S.cell 1 3 rfl rfl
    have f_4 : w4.cell? ⟨p1, 4, none⟩ = some (.int .i64 f.f4.f0) := S.cell 1 4 rfl rfl
    have f_5 : w4.cell? ⟨p1, 5, none⟩ = some (.int .i64 f.f4.f1) := S.cell 1 5 rfl rfl
    have f_6 : w4.cell? ⟨p1, 6, none⟩ = some (.int .i64 f.f4.f2) := S.cell 1 6 rfl rfl
    have f_7 : w4.cell? ⟨p1, 7, none⟩ = some (.string f.f4.f3) := S.cell 1 7 rfl rfl
    have f_8 : w4.cell? ⟨p1, 8, none⟩ = some (.int .u64 f.f5) := S.cell 1 8 rfl rfl
    have f_9 : w4.cell? ⟨p1, 9, none⟩ = some (.slice A f.f6.length c) := S.cell 1 9 rfl rfl
    go_wp2_with fail
    refine (frame_Same.kn 100 HS2.out (S.ft 0 rfl) (S.ft 1 rfl)).mono ?_
    rintro e w5 ⟨rfl, hb⟩
    replace S := S.below hb
    clear g_0 g_1 g_2 g_3 g_4 g_5 g_6 g_7 g_8 g_9 f_0 f_1 f_2 f_3 f_4 f_5 f_6 f_7 f_8 f_9 hb HS2
    go_wp2
    go_ret2
    refine ⟨(h1 ++ pq) ++ b1, ?_, ?_, S.bel⟩
    ·(rw [HM.out]; try rfl)
    ·intro h; rfl
set_option maxHeartbeats 8000000 in
theorem write_k4 (ok : Nat → Prop) (f : Fr) (A : Option Addr) (c : Nat) (w0 w : World) (S : Kn ok w0 [] nil tt [V kSe (.slice A f.f6.length c) f.f6] w) (h7 : f.f0 = 4) (hl : f.f6.length ≤ 40) (hz : ∀ x ∈ f.f6, x.f0.size ≤ 9223372036854775807) (hn : f.f3.size ≤ 9223372036854775807) (hs0 : 0 ≤ f.f1) (hs1 : f.f1 ≤ 1099511627776) (h5 : 0 ≤ f.f5 ∧ f.f5 < 18446744073709551616) :
  Calls Try.prog 24 #[.agg #[.int .i64 4, .int .i64 f.f1, .bool f.f2, .string f.f3, .int .i64 f.f4.f0, .int .i64 f.f4.f1, .int .i64 f.f4.f2, .string f.f4.f3, .int .u64 f.f5, .slice A f.f6.length c]] w fun e w' => ∃ t, e = .returned (.tuple #[.string t, .bool (mayF f)]) ∧ (mayF f = true → t = plainF f) ∧ Below w0.heap.size w0 w' := by
 have HW : ∀ z : World, (V kSe (.slice A f.f6.length c) f.f6).P z (fun _ => True) → Calls Try.prog 57 #[.agg #[.int .i64 4, .int .i64 f.f1, .bool f.f2, .string f.f3, .int .i64 f.f4.f0, .int .i64 f.f4.f1, .int .i64 f.f4.f2, .string f.f4.f3, .int .u64 f.f5, .slice A f.f6.length c]] z fun e w' => e = .returned (.tuple #[.string (bodyF f).1, .bool (bodyF f).2]) ∧ Below z.heap.size z w' := fun z g => by
  have h := wr4 (fun _ => True) f A c z z (Kn.enter _ z (fun q hq => by simp only [List.mem_singleton] at hq; subst hq; exact g)) h7 hl hz
  rw [h7] at h
  exact h
 replace HW := Aside0.mk HW
 have HMB := Aside0.mk (fun h : mayF f = true => (may_body h).1)
 have HWM := Aside0.mk (write_may f (by omega) h5)
 have hbl := body_le f
 have hPl := XV01.P_le f.f1
 have hpl : plainF f = (strOfNums [4] ++ P f.f1) ++ (bodyF f).1 := by show (strOfNums [f.f0 % 256] ++ P f.f1) ++ (bodyF f).1 = _; rw [h7]; rfl
 have hpz := plain_le hs0 hs1
 have HRD := Aside0.mk (fun z => read_calls (plainF f) (by omega) z)
 have HSM := Aside0.mk (sameF_b 100)
 have HLN := Aside0.mk hl
 have HPut := Aside0.mk (XV01.put_f 20 f.f1 hs0 (by omega) (by omega))
 have hw1 : IntKind.u64.wrap f.f1 = f.f1 := XVar.wrap_u64 _ hs0 (by omega)
 have hs0b : decide (f.f1 < 0) = false := decide_eq_false (by omega)
 have hs1b : decide (f.f1 > 1099511627776) = false := decide_eq_false (by omega)
 have hs1d : decide (1099511627776 < f.f1) = false := decide_eq_false (by omega)
 clear h5 hz hn hs0 hs1 hl
 generalize hb : bodyF f = bo at HW HMB hpl hbl
 clear hb
 obtain ⟨b1, b2⟩ := bo
 dsimp only at HW HMB hpl hbl
 generalize P f.f1 = pq at HPut hpl hPl
 have hcv : ∀ (g : Nat) (w : World), w.cell? ⟨g, 0, none⟩ = some (.int .u8 (IntKind.u8.wrap 4)) → (convert 40 9 (.slice (some ⟨g, 0, none⟩) 1 1)).run Try.prog w = .ok (.string (strOfNums [4])) w := fun g w h => conv1 4 g w (h.trans (by rw [IntKind.wrap_u8]; rfl))
 have hz1 := one_nums 4
 generalize strOfNums [4] = h1 at hcv hz1 hpl ⊢
 have hA0 : (h1.size + pq.size ≤ 9223372036854775807) = True := eq_true (by omega)
 have hA1 : decide (h1.size + pq.size ≤ 9223372036854775807) = true := decide_eq_true (by omega)
 have hA2 : (9223372036854775807 < h1.size + pq.size) = False := eq_false (by omega)
 have hB0 : (h1.size + pq.size + b1.size ≤ 9223372036854775807) = True := eq_true (by omega)
 have hB1 : ((h1 ++ pq).size + b1.size ≤ 9223372036854775807) = True := eq_true (by rw [XBytes.app_size]; omega)
 have hB2 : (9223372036854775807 < (h1 ++ pq).size + b1.size) = False := eq_false (by rw [XBytes.app_size]; omega)
 have hB3 : (9223372036854775807 < h1.size + pq.size + b1.size) = False := eq_false (by omega)
 clear hz1 hPl hbl
 generalize plainF f = pf at hpl hpz HRD HWM ⊢
 subst hpl
 have HRL := Aside0.mk (read_len ((h1 ++ pq) ++ b1) (by omega))
 clear hpz
 generalize readF ((h1 ++ pq) ++ b1) = rb at HRD HWM HRL
 obtain ⟨g, gb⟩ := rb
 dsimp only at HRD HWM HRL
 have H7 := Aside0.mk h7
 clear h7
 go_enter Try.func24, Try.ntmps24
 go_upto_region 1 with (fail)
 generalize hg : World.alloc _ _ = w1
 replace S := S.new hg
 clear hg
 generalize w.heap.size = p1 at S ⊢
 replace S : Kn ok w0 [(p1, .cells #[.int .i64 4, .int .i64 f.f1, .bool f.f2, .string f.f3, .int .i64 f.f4.f0, .int .i64 f.f4.f1, .int .i64 f.f4.f2, .string f.f4.f3, .int .u64 f.f5, .slice A f.f6.length c] TFr (0, 0))] nil tt [V kSe (.slice A f.f6.length c) f.f6] w1 := S
 have f_0 : w1.cell? ⟨p1, 0, none⟩ = some (.int .i64 4) := S.cell 0 0 rfl rfl
 have f_1 : w1.cell? ⟨p1, 1, none⟩ = some (.int .i64 f.f1) := S.cell 0 1 rfl rfl
 go_upto_region 3 with (fail)
 clear f_0 f_1
 have f_0 : w1.cell? ⟨p1, 0, none⟩ = some (.int .i64 4) := S.cell 0 0 rfl rfl
 have f_1 : w1.cell? ⟨p1, 1, none⟩ = some (.int .i64 f.f1) := S.cell 0 1 rfl rfl
 have f_2 : w1.cell? ⟨p1, 2, none⟩ = some (.bool f.f2) := S.cell 0 2 rfl rfl
 have f_3 : w1.cell? ⟨p1, 3, none⟩ = some (.string f.f3) := S.cell 0 3 rfl rfl
 have f_4 : w1.cell? ⟨p1, 4, none⟩ = some (.int .i64 f.f4.f0) := S.cell 0 4 rfl rfl
 have f_5 : w1.cell? ⟨p1, 5, none⟩ = some (.int .i64 f.f4.f1) := S.cell 0 5 rfl rfl
 have f_6 : w1.cell? ⟨p1, 6, none⟩ = some (.int .i64 f.f4.f2) := S.cell 0 6 rfl rfl
 have f_7 : w1.cell? ⟨p1, 7, none⟩ = some (.string f.f4.f3) := S.cell 0 7 rfl rfl
 have f_8 : w1.cell? ⟨p1, 8, none⟩ = some (.int .u64 f.f5) := S.cell 0 8 rfl rfl
 have f_9 : w1.cell? ⟨p1, 9, none⟩ = some (.slice A f.f6.length c) := S.cell 0 9 rfl rfl
 have Yf_0 : ∀ u : Kin w1, u.at'.cell? ⟨p1, 0, none⟩ = some (.int .i64 4) := Kin.cell f_0
 have Yf_1 : ∀ u : Kin w1, u.at'.cell? ⟨p1, 1, none⟩ = some (.int .i64 f.f1) := Kin.cell f_1
 have Yf_2 : ∀ u : Kin w1, u.at'.cell? ⟨p1, 2, none⟩ = some (.bool f.f2) := Kin.cell f_2
 have Yf_3 : ∀ u : Kin w1, u.at'.cell? ⟨p1, 3, none⟩ = some (.string f.f3) := Kin.cell f_3
 have Yf_4 : ∀ u : Kin w1, u.at'.cell? ⟨p1, 4, none⟩ = some (.int .i64 f.f4.f0) := Kin.cell f_4
 have Yf_5 : ∀ u : Kin w1, u.at'.cell? ⟨p1, 5, none⟩ = some (.int .i64 f.f4.f1) := Kin.cell f_5
 have Yf_6 : ∀ u : Kin w1, u.at'.cell? ⟨p1, 6, none⟩ = some (.int .i64 f.f4.f2) := Kin.cell f_6
 have Yf_7 : ∀ u : Kin w1, u.at'.cell? ⟨p1, 7, none⟩ = some (.string f.f4.f3) := Kin.cell f_7
 have Yf_8 : ∀ u : Kin w1, u.at'.cell? ⟨p1, 8, none⟩ = some (.int .u64 f.f5) := Kin.cell f_8
 have Yf_9 : ∀ u : Kin w1, u.at'.cell? ⟨p1, 9, none⟩ = some (.slice A f.f6.length c) := Kin.cell f_9
 have HVu : ∀ u : Kin w1, (V kSe (.slice A f.f6.length c) f.f6).P u.at' (fun _ => True) := fun u => Ft.below (Ft.all (S.ft 0 rfl)) u.bel
 go_wp2_with fail
 refine region_kin (by kernel_rfl) (by kernel_rfl) ?_
 repeat (go_big_quiet_step (first | (go_at_call 38; exact Kin.call (kinds_calls _)) | (go_at_call 57; exact Kin.call (HW.out _ (HVu _))) | fail))
 refine wpQuiet_nil ?_
 rintro w2 ⟨⟨_, hb⟩, rfl⟩
 replace S := S.below hb
 clear f_0 f_1 f_2 f_3 f_4 f_5 f_6 f_7 f_8 f_9 hb
 clear HVu HW Yf_0 Yf_1 Yf_2 Yf_3 Yf_4 Yf_5 Yf_6 Yf_7 Yf_8 Yf_9
 go_upto_region 4 with (fail)
 have hcell : ∀ w' : World, Below w2.heap.size w2 w' → w'.cell? ⟨p1, 0, none⟩ = some (.int .i64 4) ∧ w'.cell? ⟨p1, 1, none⟩ = some (.int .i64 f.f1) := fun w' hb => ⟨(S.below hb).cell 0 0 rfl rfl, (S.below hb).cell 0 1 rfl rfl⟩
 have HS := Aside0.mk S
 clear S
 go_cut [6] (fun v6 wx => v6 = .string ((h1 ++ pq) ++ b1) ∧ Below w2.heap.size w2 wx)
 case first =>
  rw [show Op.convert 40 9 (Operand.tmp 39) = qconv 40 9 (Operand.tmp 39) from rfl]
  go_region_held3 (fun w' => w'.cell? ⟨p1, 0, none⟩ = some (.int .i64 4) ∧ w'.cell? ⟨p1, 1, none⟩ = some (.int .i64 f.f1)) (exact hcell _ (by with_reducible repeat (first | assumption | apply below_alloc | apply below_drew1 | exact Below.refl _ _))) (first | (go_at_call 39; (with_reducible refine (varint_Put.kn 20 HPut.out).mono ?_); rintro e zw1 ⟨rfl, hb⟩; (try have hlit := pw_cell_below hb (new0 _ _ _)); have hb1 := below_step (show Below w2.heap.size w2 _ from (by with_reducible repeat (first | assumption | apply below_alloc | apply below_drew1 | exact Below.refl _ _))) hb; clear hb))
  all_goals (go_wp2_with fail; go_meet; exact ⟨rfl, (by with_reducible repeat (first | assumption | apply below_alloc | apply below_drew1 | exact Below.refl _ _))⟩)
 case rest =>
  obtain ⟨rfl, hb⟩ := hcut
  have S := HS.out.below hb
  clear hb hcell HS hcv hA0 hA1 hA2 hB0 hB1 hB2 hB3 HPut
  replace S : Kn ok w0 [(p1, .cells #[.int .i64 4, .int .i64 f.f1, .bool f.f2, .string f.f3, .int .i64 f.f4.f0, .int .i64 f.f4.f1, .int .i64 f.f4.f2, .string f.f4.f3, .int .u64 f.f5, .slice A f.f6.length c] TFr (0, 0))] nil tt [V kSe (.slice A f.f6.length c) f.f6] wc := S
  cases b2 with
  | false =>
   have hm : mayF f = false := by cases h : mayF f with | false => rfl | true => exact absurd (HMB.out h) (by decide)
   go_wp2
   go_ret2
   refine ⟨⟨#[]⟩, ?_, ?_, S.bel⟩
   ·(rw [hm]; try rfl)
   ·intro h; rw [hm] at h; cases h
  | true =>
   go_wp2_with fail
   refine (HRD.out _).mono ?_
   rintro e w3 ⟨A2, c2, rfl, hV, hb⟩
   replace S := S.call (f := (V kSe (.slice A2 g.f6.length c2) g.f6)) hb (Ft.mono _ hV (fun k hk => Or.inr hk))
   clear hb hV HRD
   go_upto_region 8 with (fail)
   generalize hg : World.alloc _ _ = w4
   replace S := S.new hg
   clear hg
   generalize w3.heap.size = p7 at S ⊢
   replace S : Kn ok w0 [(p7, .cells #[.int .i64 g.f0, .int .i64 g.f1, .bool g.f2, .string g.f3, .int .i64 g.f4.f0, .int .i64 g.f4.f1, .int .i64 g.f4.f2, .string g.f4.f3, .int .u64 g.f5, .slice A2 g.f6.length c2] TFr (0, 0)), (p1, .cells #[.int .i64 4, .int .i64 f.f1, .bool f.f2, .string f.f3, .int .i64 f.f4.f0, .int .i64 f.f4.f1, .int .i64 f.f4.f2, .string f.f4.f3, .int .u64 f.f5, .slice A f.f6.length c] TFr (0, 0))] nil tt [V kSe (.slice A2 g.f6.length c2) g.f6, V kSe (.slice A f.f6.length c) f.f6] w4 := S
   cases gb with
   | false =>
    have hm : mayF f = false := by cases h : mayF f with | false => rfl | true => exact absurd (HWM.out.2 h).1 (by decide)
    go_wp2
    go_ret2
    refine ⟨(h1 ++ pq) ++ b1, ?_, ?_, S.bel⟩
    ·(rw [hm]; try rfl)
    ·intro h; rfl
   | true =>
    obtain ⟨r, hr, hri⟩ := HSM.out g f (by have := HRL.out; omega) (by have := HRL.out; omega)
    have hm : mayF f = r := by rw [Bool.eq_iff_iff, hri, ← HWM.out]; exact ⟨fun h => h.2, fun h => ⟨rfl, h⟩⟩
    unfold sameArgs at hr
    rw [H7.out] at hr
    have HS2 := Aside0.mk hr
    have HM := Aside0.mk hm
    clear hr hri hm
    have g_0 : w4.cell? ⟨p7, 0, none⟩ = some (.int .i64 g.f0) := S.cell 0 0 rfl rfl
    have g_1 : w4.cell? ⟨p7, 1, none⟩ = some (.int .i64 g.f1) := S.cell 0 1 rfl rfl
    have g_2 : w4.cell? ⟨p7, 2, none⟩ = some (.bool g.f2) := S.cell 0 2 rfl rfl
    have g_3 : w4.cell? ⟨p7, 3, none⟩ = some (.string g.f3) := S.cell 0 3 rfl rfl
    have g_4 : w4.cell? ⟨p7, 4, none⟩ = some (.int .i64 g.f4.f0) := S.cell 0 4 rfl rfl
    have g_5 : w4.cell? ⟨p7, 5, none⟩ = some (.int .i64 g.f4.f1) := S.cell 0 5 rfl rfl
    have g_6 : w4.cell? ⟨p7, 6, none⟩ = some (.int .i64 g.f4.f2) := S.cell 0 6 rfl rfl
    have g_7 : w4.cell? ⟨p7, 7, none⟩ = some (.string g.f4.f3) := S.cell 0 7 rfl rfl
    have g_8 : w4.cell? ⟨p7, 8, none⟩ = some (.int .u64 g.f5) := S.cell 0 8 rfl rfl
    have g_9 : w4.cell? ⟨p7, 9, none⟩ = some (.slice A2 g.f6.length c2) := S.cell 0 9 rfl rfl
    have f_0 : w4.cell? ⟨p1, 0, none⟩ = some (.int .i64 4) := S.cell 1 0 rfl rfl
    have f_1 : w4.cell? ⟨p1, 1, none⟩ = some (.int .i64 f.f1) := S.cell 1 1 rfl rfl
    have f_2 : w4.cell? ⟨p1, 2, none⟩ = some (.bool f.f2) := S.cell 1 2 rfl rfl
    have f_3 : w4.cell? ⟨p1, 3, none⟩ = some (.string f.f3) := S.cell 1 3 rfl rfl
    have f_4 : w4.cell? ⟨p1, 4, none⟩ = some (.int .i64 f.f4.f0) := S.cell 1 4 rfl rfl
    have f_5 : w4.cell? ⟨p1, 5, none⟩ = some (.int .i64 f.f4.f1) := S.cell 1 5 rfl rfl
    have f_6 : w4.cell? ⟨p1, 6, none⟩ = some (.int .i64 f.f4.f2) := S.cell 1 6 rfl rfl
    have f_7 : w4.cell? ⟨p1, 7, none⟩ = some (.string f.f4.f3) := S.cell 1 7 rfl rfl
    have f_8 : w4.cell? ⟨p1, 8, none⟩ = some (.int .u64 f.f5) := S.cell 1 8 rfl rfl
    have f_9 : w4.cell? ⟨p1, 9, none⟩ = some (.slice A f.f6.length c) := S.cell 1 9 rfl rfl
    go_wp2_with fail
    refine (frame_Same.kn 100 HS2.out (S.ft 0 rfl) (S.ft 1 rfl)).mono ?_
    rintro e w5 ⟨rfl, hb⟩
    replace S := S.below hb
    clear g_0 g_1 g_2 g_3 g_4 g_5 g_6 g_7 g_8 g_9 f_0 f_1 f_2 f_3 f_4 f_5 f_6 f_7 f_8 f_9 hb HS2
    go_wp2
    go_ret2
    refine ⟨(h1 ++ pq) ++ b1, ?_, ?_, S.bel⟩
    ·(rw [HM.out]; try rfl)
    ·intro h; rfl
end Go.Proofs.Ytjccgdnnnlgeeaa.XFr
end
