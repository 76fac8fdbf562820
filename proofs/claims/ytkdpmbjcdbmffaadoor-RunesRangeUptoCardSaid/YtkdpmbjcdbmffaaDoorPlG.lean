/- Plain facts on texts (no program): the number that begins at a place. No condition. -/
import Derived.Test.YtkdpmbjcdbmffaaDoorPlD
namespace Go.Proofs.YtkdpmbjcdbmffaaDoor.Pl
open Go

/-- one more digit is too much -/
def lgB (n d : Int) : Bool := decide ((18446744073709551615 - d) / 10 < n)
def w64 (n : Int) : Int := n % 18446744073709551616
def numN (s : ByteArray) (z : Int) : Nat → Nat → Int → Bool → Int × Nat × Bool
  | 0, p, n, l => (n, p, l)
  | k + 1, p, n, l => if p < s.size then (if zeroI ((Utf8.decode s p).1 : Int) = z then numN s z k (p + (Utf8.decode s p).2) (w64 (10 * n + (((Utf8.decode s p).1 : Int) - z))) (l || lgB n (((Utf8.decode s p).1 : Int) - z)) else (n, p, l)) else (n, p, l)
theorem numN_more (s : ByteArray) (z : Int) (k : Nat) : ∀ (j p : Nat) (n : Int) (l : Bool), s.size - p ≤ k → k ≤ j → numN s z j p n l = numN s z k p n l := by
  induction k with
  | zero => intro j p n l h _; cases j with
    | zero => rfl
    | succ j => simp only [numN]; rw [if_neg (by omega)]
  | succ k ih => intro j p n l h hj; cases j with
    | zero => omega
    | succ j =>
      simp only [numN]
      split
      · rw [ih j _ _ _ (by have := wd_pos s p; omega) (by omega)]
      · rfl
/-- the number that the digits of script z from p on write, behind n; where they end; was it too large? -/
def numV (s : ByteArray) (z : Int) (p : Nat) (n : Int) (l : Bool) : Int × Nat × Bool := numN s z (s.size - p) p n l
theorem numV_end {s : ByteArray} {z : Int} {p : Nat} {n : Int} {l : Bool} (h : ¬ p < s.size) : numV s z p n l = (n, p, l) := by
  unfold numV; rw [show s.size - p = 0 by omega]; rfl
theorem numV_step {s : ByteArray} {z : Int} {p : Nat} {n : Int} {l : Bool} (h : p < s.size) : numV s z p n l =
    if zeroI ((Utf8.decode s p).1 : Int) = z then numV s z (p + (Utf8.decode s p).2) (w64 (10 * n + (((Utf8.decode s p).1 : Int) - z))) (l || lgB n (((Utf8.decode s p).1 : Int) - z)) else (n, p, l) := by
  unfold numV
  obtain ⟨k, hk⟩ : ∃ k, s.size - p = k + 1 := ⟨s.size - p - 1, by omega⟩
  rw [hk]; simp only [numN]; rw [if_pos h]
  rw [numN_more s z (s.size - (p + (Utf8.decode s p).2)) k _ _ _ (Nat.le_refl _) (by have := wd_pos s p; omega)]
theorem w64_bd (n : Int) : 0 ≤ w64 n ∧ w64 n ≤ 18446744073709551615 := by unfold w64; omega
theorem lgB_eq {n d : Int} (h0 : 0 ≤ d) (h1 : d ≤ 9) : lgB n d = (decide (1844674407370955161 < n) || (n == 1844674407370955161 && decide (5 < d))) := by
  unfold lgB
  rw [Bool.eq_iff_iff]
  simp
  omega
end Go.Proofs.YtkdpmbjcdbmffaaDoor.Pl
