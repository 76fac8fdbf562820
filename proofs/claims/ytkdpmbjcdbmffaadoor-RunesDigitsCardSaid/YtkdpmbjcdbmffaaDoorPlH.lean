/- Plain facts on texts (no program): texts of digits, and the numbers that they write. No condition. -/
import Derived.Test.YtkdpmbjcdbmffaaDoorPlG
namespace Go.Proofs.YtkdpmbjcdbmffaaDoor.Pl
open Go

theorem nil_cat (x : ByteArray) : (⟨#[]⟩ : ByteArray) ++ x = x := by
  apply ByteArray.ext
  apply Array.ext'
  rw [cat_data]
  rfl
theorem cat_nil (x : ByteArray) : x ++ (⟨#[]⟩ : ByteArray) = x := by
  apply ByteArray.ext
  apply Array.ext'
  rw [cat_data]
  simp
/-- the three scripts -/
def Scr (z : Int) : Prop := z = 48 ∨ z = 1632 ∨ z = 65296
/-- the text of digits of script z -/
def dtext (z : Int) : List Nat → ByteArray
  | [] => ⟨#[]⟩
  | d :: ds => Utf8.encode (z + d) ++ dtext z ds
def digs (ds : List Nat) : Prop := ∀ d ∈ ds, d < 10
/-- the number that digits write -/
def valD : List Nat → Nat
  | [] => 0
  | d :: ds => d * 10 ^ ds.length + valD ds
theorem enc_dec {z : Int} (hz : Scr z) {d : Nat} (hd : d < 10) :
    (Utf8.decode (Utf8.encode (z + d)) 0).1 = (z + d).toNat ∧ (Utf8.decode (Utf8.encode (z + d)) 0).2 = (Utf8.encode (z + d)).size ∧ 0 < (Utf8.encode (z + d)).size ∧ (Utf8.encode (z + d)).size ≤ 3 ∧ zeroI (z + d) = z := by
  rcases hz with rfl | rfl | rfl
  all_goals rcases (show d = 0 ∨ d = 1 ∨ d = 2 ∨ d = 3 ∨ d = 4 ∨ d = 5 ∨ d = 6 ∨ d = 7 ∨ d = 8 ∨ d = 9 by omega) with rfl | rfl | rfl | rfl | rfl | rfl | rfl | rfl | rfl | rfl
  all_goals refine ⟨by kernel_rfl, by kernel_rfl, by decide, by decide, by decide⟩
theorem dtext_size {z : Int} (hz : Scr z) {ds : List Nat} (h : digs ds) : ds.length ≤ (dtext z ds).size ∧ (dtext z ds).size ≤ 3 * ds.length := by
  induction ds with
  | nil => exact ⟨Nat.le_refl _, Nat.le_refl _⟩
  | cons d ds ih =>
    have he := enc_dec hz (h d (by simp))
    have := ih (fun x hx => h x (by simp [hx]))
    simp only [dtext, cat_size, List.length_cons]
    omega
theorem dtext_app (z : Int) (ds es : List Nat) : dtext z (ds ++ es) = dtext z ds ++ dtext z es := by
  induction ds with
  | nil => exact (nil_cat _).symm
  | cons d ds ih => simp only [List.cons_append, dtext, ByteArray.append_assoc, ih]
theorem badB_enc {z : Int} (hz : Scr z) {d : Nat} (hd : d < 10) : badB (Utf8.encode (z + d)) 0 = false := by
  apply not_bad
  rw [(enc_dec hz hd).1]
  rcases hz with rfl | rfl | rfl <;> omega
/-- a digit in a text -/
theorem decode_digit {z : Int} (hz : Scr z) {d : Nat} (hd : d < 10) (a b : ByteArray) :
    ((Utf8.decode (a ++ (Utf8.encode (z + d) ++ b)) a.size).1 : Int) = z + d ∧ (Utf8.decode (a ++ (Utf8.encode (z + d) ++ b)) a.size).2 = (Utf8.encode (z + d)).size := by
  have h1 := Lib.tail_decode (a ++ (Utf8.encode (z + d) ++ b)) a.size 0
  rw [tail_cat, Nat.add_zero] at h1
  have he := enc_dec hz hd
  rw [← h1, decode_cat _ b 0 he.2.2.1 (badB_enc hz hd), he.1, he.2.1]
  refine ⟨?_, rfl⟩
  rcases hz with rfl | rfl | rfl <;> omega
/-- the number behind digits -/
def valN (n : Int) : List Nat → Int
  | [] => n
  | d :: ds => valN (w64 (10 * n + d)) ds
def lgN (n : Int) (l : Bool) : List Nat → Bool
  | [] => l
  | d :: ds => lgN (w64 (10 * n + d)) (l || lgB n d) ds
theorem numV_digits {z : Int} (hz : Scr z) (ds : List Nat) : ∀ (_ : digs ds) (a b : ByteArray) (n : Int) (l : Bool),
    numV (a ++ (dtext z ds ++ b)) z a.size n l = numV (a ++ (dtext z ds ++ b)) z (a.size + (dtext z ds).size) (valN n ds) (lgN n l ds) := by
  induction ds with
  | nil => intro _ a b n l; rfl
  | cons d ds ih =>
    intro h a b n l
    have hd := h d (by simp)
    have he := enc_dec hz hd
    have e1 : a ++ (dtext z (d :: ds) ++ b) = a ++ (Utf8.encode (z + d) ++ (dtext z ds ++ b)) := by simp only [dtext, ByteArray.append_assoc]
    have e2 : a ++ (dtext z (d :: ds) ++ b) = (a ++ Utf8.encode (z + d)) ++ (dtext z ds ++ b) := by simp only [dtext, ByteArray.append_assoc]
    have hdec := decode_digit hz hd a (dtext z ds ++ b)
    rw [numV_step (by rw [e1, cat_size, cat_size]; omega)]
    have hih := ih (fun x hx => h x (by simp [hx])) (a ++ Utf8.encode (z + d)) b (w64 (10 * n + d)) (l || lgB n d)
    rw [← e2, cat_size] at hih
    rw [e1, hdec.1, hdec.2, if_pos he.2.2.2.2, ← e1, show z + (d : Int) - z = (d : Int) by omega, hih]
    simp only [valN, lgN, dtext, cat_size, Nat.add_assoc]
/-- as long as nothing is too large -/
def exN (n : Int) : List Nat → Int
  | [] => n
  | d :: ds => exN (10 * n + d) ds
theorem exN_le (ds : List Nat) : ∀ n : Int, 0 ≤ n → n ≤ exN n ds := by
  induction ds with
  | nil => intro n _; exact Int.le_refl _
  | cons d ds ih => intro n h; have := ih (10 * n + d) (by omega); simp only [exN]; omega
theorem valN_ex (ds : List Nat) : ∀ n : Int, 0 ≤ n → exN n ds ≤ 18446744073709551615 → valN n ds = exN n ds ∧ lgN n false ds = false := by
  induction ds with
  | nil => intro n _ _; exact ⟨rfl, rfl⟩
  | cons d ds ih =>
    intro n h h2
    simp only [exN] at h2
    have h3 := exN_le ds (10 * n + d) (by omega)
    have hw : w64 (10 * n + d) = 10 * n + d := by unfold w64; omega
    have hl : lgB n d = false := decide_eq_false (by omega)
    simp only [valN, lgN, exN, hw, hl, Bool.or_false]
    exact ih _ (by omega) h2
theorem exN_val (ds : List Nat) : ∀ n : Int, exN n ds = n * 10 ^ ds.length + valD ds := by
  induction ds with
  | nil => intro n; simp [exN, valD]
  | cons d ds ih =>
    intro n
    simp only [exN, valD, List.length_cons, ih]
    rw [Int.pow_succ, Int.natCast_add, Int.natCast_mul, Int.natCast_pow, Int.add_mul, show ((10 : Nat) : Int) = 10 from rfl]
    rw [show n * ((10 : Int) ^ ds.length * 10) = 10 * n * 10 ^ ds.length by rw [Int.mul_comm (10 ^ ds.length) 10, ← Int.mul_assoc, Int.mul_comm n 10]]
    omega
theorem valN_app (ds es : List Nat) : ∀ (n : Int) (l : Bool), valN n (ds ++ es) = valN (valN n ds) es ∧ lgN n l (ds ++ es) = lgN (valN n ds) (lgN n l ds) es := by
  induction ds with
  | nil => intro n l; exact ⟨rfl, rfl⟩
  | cons d ds ih => intro n l; simp only [List.cons_append, valN, lgN]; exact ih _ _
/-- a number with 990 behind it -/
theorem lg990 {n : Int} (h0 : 0 ≤ n) (h1 : n ≤ 18446744073709551615) : lgN n false [9, 9, 0] = (decide (18446744073709551 < n) || decide (18446744073709550625 < w64 (n * 1000))) := by
  simp only [lgN, Bool.false_or]
  by_cases a : 10 * n + 9 ≤ 18446744073709551615
  · have e1 : w64 (10 * n + (9 : Nat)) = 10 * n + 9 := by unfold w64; omega
    have l1 : lgB n (9 : Nat) = false := decide_eq_false (by omega)
    rw [e1, l1, Bool.false_or]
    by_cases b : 100 * n + 99 ≤ 18446744073709551615
    · have e2 : w64 (10 * (10 * n + 9) + (9 : Nat)) = 100 * n + 99 := by unfold w64; omega
      have l2 : lgB (10 * n + 9) (9 : Nat) = false := decide_eq_false (by omega)
      rw [e2, l2, Bool.false_or]
      unfold lgB
      by_cases c : n ≤ 18446744073709551
      · have e3 : w64 (n * 1000) = n * 1000 := by unfold w64; omega
        rw [e3, Bool.eq_iff_iff]
        simp
        omega
      · rw [decide_eq_true (p := 18446744073709551 < n) (by omega), Bool.true_or]
        simp
        omega
    · have l2 : lgB (10 * n + 9) (9 : Nat) = true := decide_eq_true (by omega)
      rw [l2, Bool.true_or, decide_eq_true (by omega), Bool.true_or]
  · have l1 : lgB n (9 : Nat) = true := decide_eq_true (by omega)
    rw [l1, Bool.true_or, Bool.true_or, decide_eq_true (by omega), Bool.true_or]
theorem val_rep (k : Nat) (ds : List Nat) : valD (List.replicate k 0 ++ ds) = valD ds := by
  induction k with
  | zero => rfl
  | succ k ih => rw [List.replicate_succ, List.cons_append]; simp only [valD, ih]; omega
theorem val_step (m : Nat) (ds : List Nat) : m / 10 * 10 ^ ((m % 10) :: ds).length + valD ((m % 10) :: ds) = m * 10 ^ ds.length + valD ds := by
  simp only [valD, List.length_cons, Nat.pow_succ]
  have h : m = 10 * (m / 10) + m % 10 := by omega
  have : m / 10 * (10 ^ ds.length * 10) + m % 10 * 10 ^ ds.length = m * 10 ^ ds.length := by
    rw [Nat.mul_comm (10 ^ ds.length) 10, ← Nat.mul_assoc, ← Nat.add_mul]
    congr 1
    omega
  omega
/-- the number is read whole, and ends ahead of what is no digit of the script -/
theorem read_digits {z : Int} (hz : Scr z) {ds : List Nat} (h : digs ds) (b : ByteArray) (hv : valD ds ≤ 18446744073709551615) (hb : ∀ _ : 0 < b.size, zeroI ((Utf8.decode b 0).1 : Int) ≠ z) :
    numV (dtext z ds ++ b) z 0 0 false = ((valD ds : Int), (dtext z ds).size, false) := by
  have h1 := numV_digits hz ds h ⟨#[]⟩ b 0 false
  have e0 : (⟨#[]⟩ : ByteArray) ++ (dtext z ds ++ b) = dtext z ds ++ b := nil_cat _
  have e1 : (⟨#[]⟩ : ByteArray).size = 0 := rfl
  rw [e0, e1, Nat.zero_add] at h1
  have hex := exN_val ds 0
  have hvx := valN_ex ds 0 (by omega) (by rw [hex]; omega)
  rw [h1, hvx.1, hvx.2, hex, Int.zero_mul, Int.zero_add]
  by_cases hb0 : 0 < b.size
  · have h2 := Lib.tail_decode (dtext z ds ++ b) (dtext z ds).size 0
    rw [tail_cat, Nat.add_zero] at h2
    rw [numV_step (by rw [cat_size]; omega), ← h2, if_neg (hb hb0)]
  · rw [numV_end (by rw [cat_size]; omega)]
theorem read_990 {z : Int} (hz : Scr z) {ds : List Nat} (h : digs ds) (hv : valD ds ≤ 18446744073709551615) :
    (numV (dtext z ds ++ Utf8.encode (z + 9) ++ Utf8.encode (z + 9) ++ Utf8.encode z) z 0 0 false).2.2 = (decide (18446744073709551 < (valD ds : Int)) || decide (18446744073709550625 < w64 ((valD ds : Int) * 1000))) := by
  have hd : digs (ds ++ [9, 9, 0]) := by
    intro x hx
    simp at hx
    rcases hx with hx | rfl | rfl
    · exact h x hx
    · omega
    · omega
  have e : dtext z ds ++ Utf8.encode (z + 9) ++ Utf8.encode (z + 9) ++ Utf8.encode z = ⟨#[]⟩ ++ (dtext z (ds ++ [9, 9, 0]) ++ ⟨#[]⟩) := by
    rw [dtext_app, nil_cat, cat_nil]
    simp only [dtext, ByteArray.append_assoc, cat_nil]
    rw [show z + ((0 : Nat) : Int) = z by omega]
    rfl
  have h1 := numV_digits hz _ hd ⟨#[]⟩ ⟨#[]⟩ 0 false
  have e1 : (⟨#[]⟩ : ByteArray).size = 0 := rfl
  rw [e1, Nat.zero_add] at h1
  have hex := exN_val ds 0
  have hvx := valN_ex ds 0 (by omega) (by rw [hex]; omega)
  rw [e, h1, numV_end (by rw [cat_size, cat_size, e1]; omega)]
  simp only []
  rw [(valN_app ds [9, 9, 0] 0 false).2, hvx.1, hvx.2, hex, Int.zero_mul, Int.zero_add, lg990 (by omega) (by omega)]
end Go.Proofs.YtkdpmbjcdbmffaaDoor.Pl
