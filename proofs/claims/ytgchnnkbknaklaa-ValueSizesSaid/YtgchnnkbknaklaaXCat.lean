/- Texts one behind the other, in plain lists; what is got and taken of them. No program is in sight but the plain functions G and T. -/
import Derived.Test.YtgchnnkbknaklaaXV01
namespace Go.Proofs.Ytgchnnkbknaklaa.XCat
open Go.RowKit Go.Proofs.YtgchnnkbknaklaaW.PrintWords Go.Proofs.YtgchnnkbknaklaaW.PrintLast Go.Proofs.Ytgchnnkbknaklaa.XVar Go.Proofs.Ytgchnnkbknaklaa.XBytes Go.Proofs.Ytgchnnkbknaklaa.XV01
set_option linter.unusedVariables false

def cat : List ByteArray → ByteArray
  | [] => ⟨#[]⟩
  | a :: r => a ++ cat r
theorem nil_app (a : ByteArray) : (⟨#[]⟩ : ByteArray) ++ a = a := ba_ext (by rw [app_data]; rfl)
theorem app_nil (a : ByteArray) : a ++ (⟨#[]⟩ : ByteArray) = a := ba_ext (by rw [app_data]; simp)
theorem cat_app (a b : List ByteArray) : cat (a ++ b) = cat a ++ cat b := by
  induction a with
  | nil => rw [List.nil_append]; exact (nil_app _).symm
  | cons x r ih => rw [List.cons_append, cat, ih, cat, app_assoc]
theorem cat_snoc (l : List ByteArray) (a : ByteArray) : cat (l ++ [a]) = cat l ++ a := by rw [cat_app, cat, cat, app_nil]
theorem cat_take (l : List ByteArray) (i : Nat) (h : i < l.length) : cat (l.take (i + 1)) = cat (l.take i) ++ l[i] := by
  rw [List.take_succ_eq_append_getElem h, cat_snoc]
theorem cat_split (l : List ByteArray) (i : Nat) (h : i < l.length) : cat l = (cat (l.take i) ++ l[i]) ++ cat (l.drop (i + 1)) := by
  rw [← cat_take l i h, ← cat_app, List.take_append_drop]
theorem cat_size (l : List ByteArray) (B : Nat) (h : ∀ a ∈ l, a.size ≤ B) : (cat l).size ≤ l.length * B := by
  induction l with
  | nil => show (0 : Nat) ≤ _; omega
  | cons x r ih =>
    rw [cat, app_size]
    have h1 := h x (List.mem_cons_self ..)
    have h2 := ih (fun a ha => h a (List.mem_cons_of_mem _ ha))
    rw [List.length_cons, Nat.add_mul]
    omega
theorem cat_take_size (l : List ByteArray) (i : Nat) : (cat (l.take i)).size ≤ (cat l).size := by
  have : cat l = cat (l.take i) ++ cat (l.drop i) := by rw [← cat_app, List.take_append_drop]
  rw [this, app_size]
  omega
theorem cat_pos (l : List ByteArray) (i : Nat) (h : ∀ a ∈ l, 1 ≤ a.size) (h0 : 0 < i) (h1 : i ≤ l.length) : 1 ≤ (cat (l.take i)).size := by
  cases l with
  | nil => simp at h1; omega
  | cons x r =>
    obtain ⟨j, rfl⟩ : ∃ j, i = j + 1 := ⟨i - 1, by omega⟩
    rw [List.take_succ_cons, cat, app_size]
    have := h x (List.mem_cons_self ..)
    omega
theorem G_end (s : ByteArray) : G s s.size = (0, 0, 2) := by
  unfold G
  rw [if_neg (by omega), XGet.getGo, if_pos (by omega)]
/-- A text behind its length. -/
def X (s : ByteArray) : ByteArray := P s.size ++ s
theorem X_size (s : ByteArray) : (X s).size = (P s.size).size + s.size := app_size ..
theorem ext_mid (a b c : ByteArray) : ((a ++ b) ++ c).extract a.size (a.size + b.size) = b := by
  apply ba_ext
  rw [ext_data, app_data, app_data, List.append_assoc, List.drop_append_of_le_length (by rw [← size_len]; omega), List.drop_of_length_le (by rw [← size_len]; omega), List.nil_append, show a.size + b.size - a.size = b.size by omega, List.take_append_of_le_length (by rw [← size_len]; omega), List.take_of_length_le (by rw [← size_len]; omega)]
theorem T_text (a s b : ByteArray) (m : Int) (h0 : (s.size : Int) ≤ m) (h2 : s.size ≤ 140737488351232) : T ((a ++ X s) ++ b) a.size m = (s, (a.size : Int) + (X s).size, 0) := by
  have e : ((a ++ X s) ++ b) = ((a ++ P s.size) ++ (s ++ b)) := by unfold X; simp only [app_assoc]
  have e2 : ((a ++ X s) ++ b) = (((a ++ P s.size) ++ s) ++ b) := by unfold X; simp only [app_assoc]
  have hG := G_put ((a ++ X s) ++ b) a.size s.size (by omega) (by omega) (by omega) (by rw [e]; exact P_in a (s ++ b) (s.size : Int) (by omega))
  unfold T
  rw [hG]
  simp only
  rw [if_pos trivial, if_neg (by omega), if_neg (by rw [app_size, app_size, X_size]; omega)]
  have e3 : ((a ++ X s) ++ b).extract ((a.size : Int) + (P s.size).size).toNat ((a.size : Int) + (P s.size).size + s.size).toNat = s := by
    rw [e2, show ((a.size : Int) + (P s.size).size).toNat = (a ++ P s.size).size by rw [app_size]; omega, show ((a.size : Int) + (P s.size).size + s.size).toNat = (a ++ P s.size).size + s.size by rw [app_size]; omega]
    exact ext_mid _ _ _
  rw [e3, X_size]
  simp only [Prod.mk.injEq, true_and, and_true]
  omega
theorem stands_cut {s : ByteArray} {p : Int} {l : List Int} (c : Nat) (hp : 0 ≤ p) (h : Stands s p l) (hc : p + l.length ≤ c) : Stands (s.extract 0 c) p l := by
  have h1 := h.1
  refine ⟨by rw [ext_size]; omega, fun j hj => ?_⟩
  rw [bt_ext s 0 c (p + j) (by omega) (by omega), ← h.2 j hj]
  congr 1
  omega
theorem T_cut (a s b : ByteArray) (m : Int) (c : Nat) (h0 : (s.size : Int) ≤ m) (h2 : s.size ≤ 140737488351232) (hc : a.size ≤ c) (hc2 : c < a.size + (X s).size) : T (((a ++ X s) ++ b).extract 0 c) a.size m = (⟨#[]⟩, 0, 2) := by
  have e : ((a ++ X s) ++ b) = ((a ++ P s.size) ++ (s ++ b)) := by unfold X; simp only [app_assoc]
  have hst : Stands ((a ++ X s) ++ b) a.size (digs 10 s.size) := by rw [e]; exact P_in a (s ++ b) s.size (by omega)
  have hX := X_size s
  have hP := P_size (s.size : Int)
  have hsz : (((a ++ X s) ++ b).extract 0 c).size = c := by rw [ext_size, app_size, app_size]; omega
  by_cases h : c < a.size + (P s.size).size
  · have hG : G (((a ++ X s) ++ b).extract 0 c) a.size = (0, 0, 2) := by
      unfold G
      rw [if_neg (by rw [hsz]; omega)]
      refine get_cut _ _ 10 0 0 s.size (c - a.size) (by omega) (by omega) (by omega) (by simp [pw]) (by omega) (by simp [pw]; omega) (by omega) (by rw [hsz]; omega) ?_
      intro i hi hi'
      rw [bt_ext _ 0 c _ (by omega) (by omega), ← hst.2 i hi']
      congr 1
      omega
    unfold T
    rw [hG]
    simp
  · have hG := G_put (((a ++ X s) ++ b).extract 0 c) a.size s.size (by omega) (by omega) (by omega) (stands_cut c (by omega) hst (by omega))
    unfold T
    rw [hG]
    simp only
    rw [if_pos trivial, if_neg (by omega), if_pos (by rw [hsz]; omega)]
end Go.Proofs.Ytgchnnkbknaklaa.XCat
