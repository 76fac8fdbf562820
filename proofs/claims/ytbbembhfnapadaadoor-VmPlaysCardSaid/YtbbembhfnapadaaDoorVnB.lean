/- Plain facts: what the document's arithmetic comes to is what arith's does. -/
import Derived.Test.YtbbembhfnapadaaDoorVnA
import Derived.Test.YtbbembhfnapadaaDoorPVmPlaysx5
namespace Go.Proofs.YtbbembhfnapadaaDoor
open Go.RowKit Go.Proofs.YtbbembhfnapadaaDoorW.PrintWords Go.Proofs.YtbbembhfnapadaaDoorW.PrintLast Go.Proofs.YtbbembhfnapadaaDoorW.PrintMore PVmPlays Pl
set_option linter.unusedVariables false
set_option linter.unusedSimpArgs false

/-- A number of 64 bits. -/
def I64 (a : Int) : Prop := -9223372036854775808 ≤ a ∧ a ≤ 9223372036854775807
theorem uw (x : Int) : IntKind.u64.wrap x = x % 18446744073709551616 := by
  unfold IntKind.wrap
  simp [IntKind.signed, IntKind.bits]
theorem iw (x : Int) : IntKind.i64.wrap x = wrap64 x := by
  unfold IntKind.wrap wrap64
  simp [IntKind.signed, IntKind.bits]
  split <;> omega
theorem wrap_bd (x : Int) : I64 (wrap64 x) := by unfold I64 wrap64; omega
theorem and63_i (b : Int) : Go.bits .and .i64 b 63 = b % 64 := by
  unfold Go.bits
  simp only []
  rw [iw, BitVec.toNat_and]
  have e1 : (BitVec.ofInt IntKind.i64.bits 63).toNat = 2 ^ 6 - 1 := rfl
  have e2 : (BitVec.ofInt IntKind.i64.bits b).toNat = (b % 18446744073709551616).toNat := by
    rw [BitVec.toNat_ofInt]
    rfl
  rw [e1, e2, Nat.and_two_pow_sub_one_eq_mod]
  unfold wrap64
  omega
theorem and63_u (b : Int) : Go.bits .and .u64 (IntKind.u64.wrap b) 63 = b % 64 := by
  unfold Go.bits
  simp only []
  rw [uw, uw, BitVec.toNat_and]
  have e1 : (BitVec.ofInt IntKind.u64.bits 63).toNat = 2 ^ 6 - 1 := rfl
  have e2 : (BitVec.ofInt IntKind.u64.bits (b % 18446744073709551616)).toNat = (b % 18446744073709551616 % 18446744073709551616).toNat := by
    rw [BitVec.toNat_ofInt]
    rfl
  rw [e1, e2, Nat.and_two_pow_sub_one_eq_mod]
  omega
theorem not_i (a : Int) (h : I64 a) : Go.bits .xor .i64 (-1) a = wrap64 (-1 - a) := by
  unfold Go.bits
  simp only []
  rw [iw]
  have e1 : (BitVec.ofInt IntKind.i64.bits (-1)) = BitVec.allOnes IntKind.i64.bits := by decide
  have e2 : (BitVec.ofInt IntKind.i64.bits a).toNat = (a % 18446744073709551616).toNat := by
    rw [BitVec.toNat_ofInt]
    rfl
  have e3 : ∀ x : BitVec IntKind.i64.bits, (BitVec.allOnes IntKind.i64.bits ^^^ x).toNat = 18446744073709551616 - 1 - x.toNat := by
    intro x
    rw [BitVec.allOnes_xor, BitVec.toNat_not]
    rfl
  rw [e1, e3, e2]
  unfold I64 at h
  unfold wrap64
  omega
theorem size_some (a : Int) (h : I64 a) : sorrelref06_size.f a = some (a.natAbs : Int) := by
  unfold I64 at h
  unfold sorrelref06_size.f
  by_cases h0 : a < 0
  · rw [if_pos h0, uw, uw]; congr 1; omega
  · rw [if_neg h0, uw]; congr 1; omega
theorem div_step (A b h q r bit : Nat) (hb : 0 < b) (h1 : r + b * q = h) (h2 : r < b) (hA : A = 2 * h + bit) (h3 : bit < 2) :
    (b ≤ 2 * r + bit → A / b = 2 * q + 1 ∧ A % b = 2 * r + bit - b) ∧ (2 * r + bit < b → A / b = 2 * q ∧ A % b = 2 * r + bit) := by
  have e : b * (2 * q) = 2 * (b * q) := by rw [Nat.mul_left_comm]
  constructor
  · intro h4
    refine (Nat.div_mod_unique hb).2 ⟨?_, by omega⟩
    rw [Nat.mul_add, e]
    omega
  · intro h4
    refine (Nat.div_mod_unique hb).2 ⟨?_, by omega⟩
    rw [e]
    omega
theorem divide_l0 (a b : Nat) (ha : a < 18446744073709551616) (hb : 0 < b) (hb2 : b < 18446744073709551616) : ∀ (n k : Nat), n ≤ 64 → n < k →
    sorrelref06_divide.l0 k a b ((a / 2 ^ n / b : Nat) : Int) ((a / 2 ^ n % b : Nat) : Int) ((n : Int) - 1) = some (((a / b : Nat) : Int), ((a % b : Nat) : Int))
  | 0, k, _, hk => by
    obtain ⟨k, rfl⟩ : ∃ m, k = m + 1 := ⟨k - 1, by omega⟩
    unfold sorrelref06_divide.l0
    rw [if_neg (by omega)]
    simp
  | n + 1, k, hn, hk => by
    obtain ⟨k, rfl⟩ : ∃ m, k = m + 1 := ⟨k - 1, by omega⟩
    have ih := divide_l0 a b ha hb hb2 n k (by omega) (by omega)
    have hu : IntKind.u64.wrap (((n + 1 : Nat) : Int) - 1) = n := by rw [uw]; omega
    have hsh : Int.tmod (shr .u64 (a : Int) (n : Int)) 2 = ((a / 2 ^ n % 2 : Nat) : Int) := by
      unfold shr
      rw [Int.toNat_natCast, show min n IntKind.u64.bits = n from Nat.min_eq_left (show n ≤ 64 by omega)]
      rw [Int.tmod_eq_emod_of_nonneg (Int.ediv_nonneg (by omega) (Int.pow_nonneg (by decide)))]
      norm_cast
    have hA : a / 2 ^ n = 2 * (a / 2 ^ (n + 1)) + a / 2 ^ n % 2 := by
      rw [Nat.pow_succ, ← Nat.div_div_eq_div_mul]
      omega
    have hmod := Nat.mod_add_div (a / 2 ^ (n + 1)) b
    have hlt := Nat.mod_lt (a / 2 ^ (n + 1)) hb
    have hst := div_step (a / 2 ^ n) b (a / 2 ^ (n + 1)) (a / 2 ^ (n + 1) / b) (a / 2 ^ (n + 1) % b) (a / 2 ^ n % 2) hb hmod hlt hA (Nat.mod_lt _ (by decide))
    have hA2 : a / 2 ^ n ≤ a := Nat.div_le_self _ _
    have hq : a / 2 ^ n / b ≤ a / 2 ^ n := Nat.div_le_self _ _
    have hb1 : a / 2 ^ n % 2 < 2 := Nat.mod_lt _ (by decide)
    unfold sorrelref06_divide.l0
    rw [hu, hsh]
    rw [if_pos (show ((n + 1 : Nat) : Int) - 1 ≥ 0 by omega), if_pos (show (0 : Int) ≤ (n : Int) by omega)]
    have hwn : wrap64 (((n + 1 : Nat) : Int) - 1 - 1) = (n : Int) - 1 := by unfold wrap64; omega
    rw [hwn]
    generalize a / 2 ^ (n + 1) / b = q at *
    generalize a / 2 ^ (n + 1) % b = r at *
    generalize a / 2 ^ n % 2 = bit at *
    generalize a / 2 ^ (n + 1) = h at *
    by_cases hc : b ≤ 2 * r + bit
    · obtain ⟨e1, e2⟩ := hst.1 hc
      rw [e1, e2] at ih
      have g1 : IntKind.u64.wrap (IntKind.u64.wrap ((q : Int) * 2) + 1) = ((2 * q + 1 : Nat) : Int) := by rw [uw, uw]; omega
      have g2 : IntKind.u64.wrap (IntKind.u64.wrap (IntKind.u64.wrap ((r : Int) * 2) + (bit : Int)) - (b : Int)) = ((2 * r + bit - b : Nat) : Int) := by rw [uw, uw, uw]; omega
      by_cases ht : (r : Int) / 9223372036854775808 = 1
      · rw [if_pos ht, g1, g2]; exact ih
      · rw [if_neg ht, if_pos (show IntKind.u64.wrap (IntKind.u64.wrap ((r : Int) * 2) + (bit : Int)) ≥ (b : Int) by rw [uw, uw]; omega), g1, g2]; exact ih
    · obtain ⟨e1, e2⟩ := hst.2 (by omega)
      rw [e1, e2] at ih
      have g1 : IntKind.u64.wrap ((q : Int) * 2) = ((2 * q : Nat) : Int) := by rw [uw]; omega
      have g2 : IntKind.u64.wrap (IntKind.u64.wrap ((r : Int) * 2) + (bit : Int)) = ((2 * r + bit : Nat) : Int) := by rw [uw, uw]; omega
      rw [if_neg (by omega), if_neg (show ¬ IntKind.u64.wrap (IntKind.u64.wrap ((r : Int) * 2) + (bit : Int)) ≥ (b : Int) by rw [g2]; omega), g1, g2]; exact ih
theorem divide_some (a b : Nat) (ha : a < 18446744073709551616) (hb : 0 < b) (hb2 : b < 18446744073709551616) (k : Nat) (hk : 65 ≤ k) : sorrelref06_divide.f k a b = some (((a / b : Nat) : Int), ((a % b : Nat) : Int)) := by
  have h := divide_l0 a b ha hb hb2 64 k (Nat.le_refl _) (by omega)
  have e : a / 2 ^ 64 = 0 := Nat.div_eq_of_lt (by omega)
  rw [e, Nat.zero_div, Nat.zero_mod] at h
  exact h
theorem tdiv_abs (a b : Int) : Int.tdiv a b = if (decide (a < 0) != decide (b < 0)) = true then -((a.natAbs / b.natAbs : Nat) : Int) else ((a.natAbs / b.natAbs : Nat) : Int) := by
  rcases Int.natAbs_eq a with ha | ha <;> rcases Int.natAbs_eq b with hb | hb
  all_goals
    generalize a.natAbs = n at *
    generalize b.natAbs = m at *
    subst ha hb
  · rw [if_neg (by simp [show ¬ (n : Int) < 0 by omega, show ¬ (m : Int) < 0 by omega])]; rfl
  · rw [Int.tdiv_neg]
    by_cases hm : m = 0
    · subst hm; simp
    · rw [if_pos (by simp; omega)]; rfl
  · rw [Int.neg_tdiv]
    by_cases hn : n = 0
    · subst hn; simp
    · rw [if_pos (by simp; omega)]; rfl
  · rw [Int.neg_tdiv, Int.tdiv_neg, Int.neg_neg]
    by_cases hm : m = 0
    · subst hm; simp
    · by_cases hn : n = 0
      · subst hn; simp
      · rw [if_neg (by simp; omega)]; rfl
theorem tmod_abs (a b : Int) : Int.tmod a b = if a < 0 then -((a.natAbs % b.natAbs : Nat) : Int) else ((a.natAbs % b.natAbs : Nat) : Int) := by
  rcases Int.natAbs_eq a with ha | ha <;> rcases Int.natAbs_eq b with hb | hb
  all_goals
    generalize a.natAbs = n at *
    generalize b.natAbs = m at *
    subst ha hb
  · rw [if_neg (by omega)]; rfl
  · rw [Int.tmod_neg, if_neg (by omega)]; rfl
  · rw [Int.neg_tmod]
    by_cases hn : n = 0
    · subst hn; simp
    · rw [if_pos (by omega)]; rfl
  · rw [Int.tmod_neg, Int.neg_tmod]
    by_cases hn : n = 0
    · subst hn; simp
    · rw [if_pos (by omega)]; rfl
theorem signed_some (n : Nat) (m : Bool) (h : n < 18446744073709551616) : sorrelref06_signed.f n m = some (wrap64 (if m = true then -(n : Int) else (n : Int))) := by
  unfold sorrelref06_signed.f
  cases m with
  | true => rw [if_pos rfl, if_pos rfl, uw]; congr 1; unfold wrap64; omega
  | false => rfl
theorem wrap_mul (y c : Int) : wrap64 (wrap64 y * c) = wrap64 (y * c) := by
  have e : wrap64 y = y - 18446744073709551616 * ((y + 9223372036854775808) / 18446744073709551616) := by unfold wrap64; omega
  rw [e, Int.sub_mul, Int.mul_assoc]
  generalize (y + 9223372036854775808) / 18446744073709551616 * c = t
  generalize y * c = z
  unfold wrap64
  omega
theorem shifted_l0 (n : Nat) (hn : n ≤ 63) : ∀ (m k : Nat) (a : Int), m ≤ n → m < k → I64 a → sorrelref06_shifted.l0 k a n ((n : Int) - m) = some (wrap64 (a * 2 ^ m))
  | 0, k, a, _, hk, h => by
    obtain ⟨k, rfl⟩ : ∃ m, k = m + 1 := ⟨k - 1, by omega⟩
    unfold sorrelref06_shifted.l0
    rw [if_neg (by omega)]
    unfold I64 at h
    unfold wrap64
    congr 1
    simp
    omega
  | m + 1, k, a, hm, hk, h => by
    obtain ⟨k, rfl⟩ : ∃ m, k = m + 1 := ⟨k - 1, by omega⟩
    unfold sorrelref06_shifted.l0
    rw [if_pos (by omega), show wrap64 ((n : Int) - ((m + 1 : Nat) : Int) + 1) = (n : Int) - m by unfold wrap64; omega, shifted_l0 n hn m k _ (by omega) (by omega) (wrap_bd _), wrap_mul]
    congr 2
    rw [Int.pow_succ, show a + a = a * 2 by omega, Int.mul_assoc, Int.mul_comm 2]
theorem tdiv_two (a : Int) : Int.tdiv a 2 = if a < 0 then -((a.natAbs / 2 : Nat) : Int) else ((a.natAbs / 2 : Nat) : Int) := by
  rw [tdiv_abs]
  by_cases h : a < 0
  · rw [if_pos h, if_pos (by simp [h])]; rfl
  · rw [if_neg h, if_neg (by simp [h])]; rfl
theorem tmod_two (a : Int) : Int.tmod a 2 = if a < 0 then -((a.natAbs % 2 : Nat) : Int) else ((a.natAbs % 2 : Nat) : Int) := tmod_abs a 2
theorem lowered_l0 (n : Nat) (hn : n ≤ 63) : ∀ (m k : Nat) (a : Int), m ≤ n → m < k → I64 a → sorrelref06_lowered.l0 k a n ((n : Int) - m) = some (a / 2 ^ m)
  | 0, k, a, _, hk, h => by
    obtain ⟨k, rfl⟩ : ∃ m, k = m + 1 := ⟨k - 1, by omega⟩
    unfold sorrelref06_lowered.l0
    rw [if_neg (by omega)]
    simp
  | m + 1, k, a, hm, hk, h => by
    obtain ⟨k, rfl⟩ : ∃ m, k = m + 1 := ⟨k - 1, by omega⟩
    have hh := h
    unfold I64 at hh
    have hp : a / 2 ^ (m + 1) = a / 2 / 2 ^ m := by rw [Int.pow_succ, Int.mul_comm, Int.ediv_ediv_of_nonneg (by decide)]
    have h2 : I64 (a / 2) := by unfold I64; omega
    have hw : wrap64 ((n : Int) - ((m + 1 : Nat) : Int) + 1) = (n : Int) - m := by unfold wrap64; omega
    unfold sorrelref06_lowered.l0
    rw [if_pos (by omega), hw, hp]
    by_cases ht : Int.tmod a 2 = -1
    · have e : wrap64 (Int.tdiv (wrap64 (a - 1)) 2) = a / 2 := by
        have e1 : wrap64 (a - 1) = a - 1 := by
          rw [tmod_two] at ht
          unfold wrap64
          split at ht <;> omega
        have e2 : Int.tdiv (a - 1) 2 = a / 2 := by
          rw [tdiv_two]
          rw [tmod_two] at ht
          split at ht <;> split <;> omega
        rw [e1, e2]
        unfold wrap64
        omega
      rw [if_pos ht, e]
      exact lowered_l0 n hn m k _ (by omega) (by omega) h2
    · have e : wrap64 (Int.tdiv a 2) = a / 2 := by
        have e2 : Int.tdiv a 2 = a / 2 := by
          rw [tdiv_two]
          rw [tmod_two] at ht
          split at ht <;> split <;> omega
        rw [e2]
        unfold wrap64
        omega
      rw [if_neg ht, e]
      exact lowered_l0 n hn m k _ (by omega) (by omega) h2
theorem two_is {op a b r : Int} (h : arith_two.f op a b = some r) : two op a b = r := by unfold two; rw [h]; rfl
theorem arith_div (a b : Int) (hb : b ≠ 0) : arith_two.f 8 a b = some (wrap64 (Int.tdiv a b)) := by
  unfold arith_two.f
  rw [if_neg (by decide), if_neg (by decide), if_neg (by decide), if_pos rfl, if_neg hb]
theorem arith_rem (a b : Int) (hb : b ≠ 0) : arith_two.f 9 a b = some (Int.tmod a b) := by
  unfold arith_two.f
  rw [if_neg (by decide), if_neg (by decide), if_neg (by decide), if_neg (by decide), if_pos rfl, if_neg hb]
theorem arith_shl (a b : Int) : arith_two.f 13 a b = some (wrap64 (a * 2 ^ (b % 64).toNat)) := by
  unfold arith_two.f
  simp only [show ¬ ((13 : Int) = 5) by decide, show ¬ ((13 : Int) = 6) by decide, show ¬ ((13 : Int) = 7) by decide, show ¬ ((13 : Int) = 8) by decide, show ¬ ((13 : Int) = 9) by decide, show ¬ ((13 : Int) = 10) by decide, show ¬ ((13 : Int) = 11) by decide, show ¬ ((13 : Int) = 12) by decide, if_false, if_true]
  rw [and63_u, if_pos (by omega)]
  unfold shl
  rw [iw, show min (b % 64).toNat IntKind.i64.bits = (b % 64).toNat from Nat.min_eq_left (show (b % 64).toNat ≤ 64 by omega)]
theorem arith_shr (a b : Int) : arith_two.f 14 a b = some (a / 2 ^ (b % 64).toNat) := by
  unfold arith_two.f
  simp only [show ¬ ((14 : Int) = 5) by decide, show ¬ ((14 : Int) = 6) by decide, show ¬ ((14 : Int) = 7) by decide, show ¬ ((14 : Int) = 8) by decide, show ¬ ((14 : Int) = 9) by decide, show ¬ ((14 : Int) = 10) by decide, show ¬ ((14 : Int) = 11) by decide, show ¬ ((14 : Int) = 12) by decide, show ¬ ((14 : Int) = 13) by decide, if_false, if_true]
  rw [and63_u, if_pos (by omega)]
  unfold shr
  rw [show min (b % 64).toNat IntKind.i64.bits = (b % 64).toNat from Nat.min_eq_left (show (b % 64).toNat ≤ 64 by omega)]
/-- operators with two parts -/
theorem reftwo_some (op a b : Int) (k : Nat) (hk : 65 ≤ k) (ha : I64 a) (hb : I64 b) (h : (op = 8 ∨ op = 9) → b ≠ 0) : sorrelref06_two.f k op a b = some (two op a b) := by
  have hab : I64 a := ha
  have hbb : I64 b := hb
  unfold I64 at hab hbb
  have h63 : b % 64 = (((b % 64).toNat : Nat) : Int) := by omega
  unfold sorrelref06_two.f
  by_cases h5 : op = 5
  · rw [if_pos h5]; subst h5; rw [two_is (r := wrap64 (a + b)) rfl]
  rw [if_neg h5]
  by_cases h6 : op = 6
  · rw [if_pos h6]; subst h6; rw [two_is (r := wrap64 (a - b)) rfl]
  rw [if_neg h6]
  by_cases h7 : op = 7
  · rw [if_pos h7]; subst h7; rw [two_is (r := wrap64 (a * b)) rfl]
  rw [if_neg h7]
  by_cases h8 : op = 8
  · rw [if_pos h8]
    subst h8
    have hb0 := h (.inl rfl)
    rw [two_is (arith_div a b hb0), size_some a ha, size_some b hb]
    simp only [Option.bind_some]
    rw [divide_some a.natAbs b.natAbs (by omega) (by omega) (by omega) k hk]
    simp only [Option.bind_some]
    rw [signed_some _ _ (Nat.lt_of_le_of_lt (Nat.div_le_self _ _) (by omega)), tdiv_abs]
    rfl
  rw [if_neg h8]
  by_cases h9 : op = 9
  · rw [if_pos h9]
    subst h9
    have hb0 := h (.inr rfl)
    rw [two_is (arith_rem a b hb0), size_some a ha, size_some b hb]
    simp only [Option.bind_some]
    rw [divide_some a.natAbs b.natAbs (by omega) (by omega) (by omega) k hk]
    simp only [Option.bind_some]
    have hm : a.natAbs % b.natAbs ≤ a.natAbs := Nat.mod_le _ _
    rw [signed_some _ _ (by omega), tmod_abs]
    simp only [Option.bind_some, decide_eq_true_eq]
    congr 1
    generalize a.natAbs % b.natAbs = t at *
    by_cases a0 : a < 0
    · rw [if_pos a0]; unfold wrap64; omega
    · rw [if_neg a0]; unfold wrap64; omega
  rw [if_neg h9]
  by_cases h10 : op = 10
  · rw [if_pos h10]; subst h10; rw [two_is (r := Go.bits .and .i64 a b) rfl]
  rw [if_neg h10]
  by_cases h11 : op = 11
  · rw [if_pos h11]; subst h11; rw [two_is (r := Go.bits .or .i64 a b) rfl]
  rw [if_neg h11]
  by_cases h12 : op = 12
  · rw [if_pos h12]; subst h12; rw [two_is (r := Go.bits .xor .i64 a b) rfl]
  rw [if_neg h12]
  by_cases h13 : op = 13
  · rw [if_pos h13]
    subst h13
    rw [two_is (arith_shl a b), and63_i, h63]
    have hs := shifted_l0 (b % 64).toNat (by omega) (b % 64).toNat k a (Nat.le_refl _) (by omega) ha
    rw [Int.sub_self] at hs
    unfold sorrelref06_shifted.f
    rw [hs]
    rfl
  rw [if_neg h13]
  by_cases h14 : op = 14
  · rw [if_pos h14]
    subst h14
    rw [two_is (arith_shr a b), and63_i, h63]
    have hs := lowered_l0 (b % 64).toNat (by omega) (b % 64).toNat k a (Nat.le_refl _) (by omega) ha
    rw [Int.sub_self] at hs
    unfold sorrelref06_lowered.f
    rw [hs]
    rfl
  rw [if_neg h14]
  have hr : arith_two.f op a b = (if op = 15 then ((arith_bit.f (a == b)).bind fun t106 => (some t106)) else ((arith_bit.f (decide (a < b))).bind fun t107 => (some t107))) := by
    unfold arith_two.f
    rw [if_neg h5, if_neg h6, if_neg h7, if_neg h8, if_neg h9, if_neg h10, if_neg h11, if_neg h12, if_neg h13, if_neg h14]
  by_cases h15 : op = 15
  · rw [if_pos h15] at hr ⊢
    cases hh : (a == b) <;> (rw [hh] at hr; rw [two_is hr]; rfl)
  · rw [if_neg h15] at hr ⊢
    cases hh : (decide (a < b)) <;> (rw [hh] at hr; rw [two_is hr]; rfl)
end Go.Proofs.YtbbembhfnapadaaDoor

/- Plain facts: the document's Arity, Apply and Get come to the same as the program's. -/
namespace Go.Proofs.YtbbembhfnapadaaDoor
open Go.RowKit Go.Proofs.YtbbembhfnapadaaDoorW.PrintWords Go.Proofs.YtbbembhfnapadaaDoorW.PrintLast Go.Proofs.YtbbembhfnapadaaDoorW.PrintMore PVmPlays Pl
set_option linter.unusedVariables false
set_option linter.unusedSimpArgs false

/-- The document's Arity. -/
def raK (op : Int) : Int := if op = 1 ∨ op = 2 then 0 else if op = 3 ∨ op = 4 then 1 else if op = 17 then 3 else if 5 ≤ op ∧ op ≤ 16 then 2 else -1
theorem refarity_some (op : Int) (k : Nat) : sorrelref02_Arity.f (k + 2) op = some (raK op) := by
  unfold sorrelref02_Arity.f raK
  by_cases h1 : op = 1
  · subst h1; simp [sorrelref02_Arity.j0]
  rw [if_neg h1]
  by_cases h2 : op = 2
  · subst h2; simp [sorrelref02_Arity.j0]
  have b2 : (op == 2) = false := by simp [h2]
  rw [b2, if_neg (by omega)]
  rw [sorrelref02_Arity.j0]
  rw [if_neg (by simp)]
  by_cases h3 : op = 3
  · subst h3; simp [sorrelref02_Arity.j1]
  rw [if_neg h3]
  by_cases h4 : op = 4
  · subst h4; simp [sorrelref02_Arity.j1]
  have b4 : (op == 4) = false := by simp [h4]
  rw [b4, if_neg (by omega)]
  rw [sorrelref02_Arity.j1]
  rw [if_neg (by simp)]
  by_cases h17 : op = 17
  · rw [if_pos h17, if_pos h17]
  rw [if_neg h17, if_neg h17]
  by_cases h5 : 5 ≤ op
  · rw [if_pos h5]
    by_cases h6 : op ≤ 16
    · rw [if_pos h6, if_pos ⟨h5, h6⟩]
    · rw [if_neg h6, if_neg (fun h => h6 h.2)]
  · rw [if_neg h5, if_neg (fun h => h5 h.1)]
theorem raK_ar (op : Int) : (0 < raK op ↔ arE op = 0 ∧ 0 < arK op) ∧ (0 < raK op → raK op = arK op) := by
  unfold raK arE arK
  constructor
  · repeat' split
    all_goals omega
  · repeat' split
    all_goals omega
theorem rd_mem {l : List Int} {i : Int} (h0 : 0 ≤ i) (h1 : i < l.length) : rd l i ∈ l := by
  unfold rd
  have hl : i.toNat < l.length := by omega
  rw [List.getD_eq_getElem?_getD, List.getElem?_eq_getElem hl]
  exact List.getElem_mem hl
theorem refapply_some (op : Int) (l : List Int) (k : Nat) (he : arE op = 0) (hk : 0 < arK op) (hl : arK op = l.length) (hI : ∀ x ∈ l, I64 x) : sorrelref06_Apply.f (k + 70) op l = some (apR op l) := by
  have hr := (raK_ar op).1.2 ⟨he, hk⟩
  have hr2 := (raK_ar op).2 hr
  have ho : 3 ≤ op ∧ op ≤ 17 := by
    unfold arE at he
    unfold arK at hk
    split at he
    · rename_i h
      split at hk
      · omega
      · omega
    · omega
  have b0 : (raK op != (l.length : Int)) = false := by rw [hr2, hl]; simp
  unfold sorrelref06_Apply.f
  rw [show k + 70 = (k + 68) + 2 by omega, refarity_some]
  simp only [Option.bind_some]
  rw [if_neg (by omega), b0]
  rw [sorrelref06_Apply.j0]
  rw [if_neg (by simp)]
  unfold apR
  have p0 : (0 : Int) < (l.length : Int) := by omega
  by_cases h3 : op = 3
  · rw [if_pos h3, if_pos h3, if_pos p0]
  rw [if_neg h3, if_neg h3]
  by_cases h4 : op = 4
  · rw [if_pos h4, if_pos h4, if_pos p0, not_i _ (hI _ (rd_mem (Int.le_refl _) p0))]
  rw [if_neg h4, if_neg h4]
  by_cases h17 : op = 17
  · rw [if_pos h17, if_pos h17, if_pos p0]
    have h3l : (l.length : Int) = 3 := by rw [← hl, h17]; rfl
    rw [sorrelref06_Apply.j1]
    by_cases hz : rd l 0 ≠ 0
    · rw [if_pos hz, if_pos (by simpa using hz), if_pos (by omega)]
    · rw [if_neg hz, if_neg (by simpa using hz), if_pos h17, if_pos (by omega)]
  rw [if_neg h17, if_neg h17]
  have h2l : (l.length : Int) = 2 := by
    rw [← hl]
    unfold arK
    rw [if_neg (by omega), if_neg (by omega), if_neg h17, if_pos (by omega)]
  have p1 : (1 : Int) < (l.length : Int) := by omega
  have i0 := hI _ (rd_mem (Int.le_refl _) p0)
  have i1 := hI _ (rd_mem (by decide) p1)
  rw [sorrelref06_Apply.j1]
  rw [if_neg (by simp), if_neg h17]
  by_cases h8 : op = 8
  · rw [if_pos h8, if_pos p1]
    by_cases hz : rd l 1 = 0
    · rw [if_pos hz, if_pos ⟨.inl h8, hz⟩]
    · rw [if_neg hz, if_pos p0, if_neg (show ¬ ((op = 8 ∨ op = 9) ∧ rd l 1 = 0) from fun h => hz h.2), reftwo_some _ _ _ _ (by omega) i0 i1 (fun _ => hz)]
      rfl
  rw [if_neg h8]
  by_cases h9 : op = 9
  · rw [if_pos h9, if_pos p1]
    by_cases hz : rd l 1 = 0
    · rw [if_pos hz, if_pos ⟨.inr h9, hz⟩]
    · rw [if_neg hz, if_pos p0, if_neg (show ¬ ((op = 8 ∨ op = 9) ∧ rd l 1 = 0) from fun h => hz h.2), reftwo_some _ _ _ _ (by omega) i0 i1 (fun _ => hz)]
      rfl
  rw [if_neg h9, if_pos p0, if_pos p1, if_neg (fun h => by rcases h.1 with h | h <;> contradiction), reftwo_some _ _ _ _ (by omega) i0 i1 (fun h => by rcases h with h | h <;> contradiction)]
  rfl
theorem refapply_calls (op : Int) (l : List Int) (A : Option Addr) (c : Nat) (w : World) (he : arE op = 0) (hk : 0 < arK op) (hl : arK op = l.length) (hI : ∀ x ∈ l, I64 x) (hC : (Kd.int .i64).C w A l.length l) (hc : l.length ≤ c) :
    Calls Tryd.prog 46 #[.int .i64 op, .slice A l.length c] w fun e w' => e = .returned (.tuple #[.int .i64 (apR op l).1, .int .i64 (apR op l).2]) ∧ Drawn0 w w' :=
  sorrelref06_Apply.calls 70 op A c l _ _ w hC hc (refapply_some op l 0 he hk hl hI)
theorem refarity_calls (op : Int) (w : World) : Calls Tryd.prog 61 #[.int .i64 op] w fun e w' => e = .returned (.int .i64 (raK op)) ∧ Drawn0 w w' := sorrelref02_Arity.calls 2 op _ w (refarity_some op 0)
theorem getP_step (l : List S39) (s : ByteArray) (i : Nat) (h : i < l.length) : getP (l.take (i + 1)) s = if (rd_T39 l i).f0.toList = s.toList then (rd_T39 l i).f1 else getP (l.take i) s := by
  have e : rd_T39 l i = l[i] := by unfold rd_T39; rw [Int.toNat_natCast, List.getD_eq_getElem?_getD, List.getElem?_eq_getElem h]; rfl
  rw [List.take_succ_eq_append_getElem h, getP_snoc, e]
theorem refget_l0 (l : List S39) (s : ByteArray) (hl : l.length ≤ 4611686018427387904) : ∀ (m i k : Nat), i + m = l.length → m < k → sorrelref07_Get.l0 k l s (getP (l.take i) s) i = some (getP l s)
  | 0, i, k, hi, hk => by
    obtain ⟨k, rfl⟩ : ∃ m, k = m + 1 := ⟨k - 1, by omega⟩
    unfold sorrelref07_Get.l0
    rw [if_neg (by omega), List.take_of_length_le (by omega)]
  | m + 1, i, k, hi, hk => by
    obtain ⟨k, rfl⟩ : ∃ m, k = m + 1 := ⟨k - 1, by omega⟩
    have ih := refget_l0 l s hl m (i + 1) k (by omega) (by omega)
    have hw : wrap64 ((i : Int) + 1) = ((i + 1 : Nat) : Int) := by unfold wrap64; omega
    rw [getP_step l s i (by omega)] at ih
    unfold sorrelref07_Get.l0
    rw [if_pos (by omega), if_pos (by omega), hw]
    by_cases h : (rd_T39 l i).f0.toList = s.toList
    · rw [if_pos h] at ih ⊢; exact ih
    · rw [if_neg h] at ih ⊢; exact ih
theorem refget_calls (l : List S39) (s : ByteArray) (A : Option Addr) (c : Nat) (w : World) (hC : k39.C w A l.length l) (hc : l.length ≤ c) (hl : l.length ≤ 4611686018427387904) :
    Calls Tryd.prog 45 #[.slice A l.length c, .string s] w fun e w' => e = .returned (.int .i64 (getP l s)) ∧ Drawn0 w w' :=
  sorrelref07_Get.calls (l.length + 1) A c l s _ w hC hc (refget_l0 l s hl l.length 0 _ (by omega) (by omega))
/-- What an operator comes to is a number of 64 bits. -/
theorem apR_bd (op : Int) (l : List Int) (hI : ∀ x ∈ l, I64 x) (he : arE op = 0) (hk : 0 < arK op) (hl : arK op = l.length) : I64 (apR op l).1 := by
  have ho : 3 ≤ op ∧ op ≤ 17 := by
    unfold arE at he
    unfold arK at hk
    split at he
    · split at hk <;> omega
    · omega
  have p0 : (0 : Int) < (l.length : Int) := by omega
  have i0 := hI _ (rd_mem (Int.le_refl _) p0)
  unfold apR
  by_cases h3 : op = 3
  · rw [if_pos h3]; exact wrap_bd _
  rw [if_neg h3]
  by_cases h4 : op = 4
  · rw [if_pos h4]
    rw [not_i _ i0]; exact wrap_bd _
  rw [if_neg h4]
  by_cases h17 : op = 17
  · rw [if_pos h17]
    have h3l : (l.length : Int) = 3 := by rw [← hl, h17]; rfl
    split
    · exact hI _ (rd_mem (by decide) (by omega))
    · exact hI _ (rd_mem (by decide) (by omega))
  rw [if_neg h17]
  have h2l : (l.length : Int) = 2 := by
    rw [← hl]
    unfold arK
    rw [if_neg (by omega), if_neg (by omega), if_neg h17, if_pos (by omega)]
  have i1 := hI _ (rd_mem (by decide) (show (1 : Int) < l.length by omega))
  split
  · show I64 0
    unfold I64; omega
  · rename_i hn
    have hb : (op = 8 ∨ op = 9) → rd l 1 ≠ 0 := fun h e => hn ⟨h, e⟩
    show I64 (two op (rd l 0) (rd l 1))
    generalize rd l 0 = a at *
    generalize rd l 1 = b at *
    have hbits : ∀ o, I64 (Go.bits o .i64 a b) := fun o => by
      unfold Go.bits
      simp only []
      rw [iw]
      exact wrap_bd _
    by_cases h5 : op = 5
    · subst h5; rw [two_is (r := wrap64 (a + b)) rfl]; exact wrap_bd _
    by_cases h6 : op = 6
    · subst h6; rw [two_is (r := wrap64 (a - b)) rfl]; exact wrap_bd _
    by_cases h7 : op = 7
    · subst h7; rw [two_is (r := wrap64 (a * b)) rfl]; exact wrap_bd _
    by_cases h8 : op = 8
    · subst h8; rw [two_is (arith_div a b (hb (.inl rfl)))]; exact wrap_bd _
    by_cases h9 : op = 9
    · subst h9
      rw [two_is (arith_rem a b (hb (.inr rfl))), tmod_abs]
      have hm : a.natAbs % b.natAbs ≤ a.natAbs := Nat.mod_le _ _
      have hx : a.natAbs % b.natAbs < b.natAbs := Nat.mod_lt _ (by have := hb (.inr rfl); omega)
      unfold I64 at i0 i1 ⊢
      generalize a.natAbs % b.natAbs = t at *
      split <;> omega
    by_cases h10 : op = 10
    · subst h10; rw [two_is (r := Go.bits .and .i64 a b) rfl]; exact hbits _
    by_cases h11 : op = 11
    · subst h11; rw [two_is (r := Go.bits .or .i64 a b) rfl]; exact hbits _
    by_cases h12 : op = 12
    · subst h12; rw [two_is (r := Go.bits .xor .i64 a b) rfl]; exact hbits _
    by_cases h13 : op = 13
    · subst h13; rw [two_is (arith_shl a b)]; exact wrap_bd _
    by_cases h14 : op = 14
    · subst h14
      rw [two_is (arith_shr a b)]
      generalize (b % 64).toNat = n
      have hp : (0 : Int) < 2 ^ n := Int.pow_pos (by decide)
      unfold I64 at i0 ⊢
      constructor
      · apply Int.le_ediv_of_mul_le hp
        have : (-9223372036854775808 : Int) * 2 ^ n ≤ -9223372036854775808 * 1 := Int.mul_le_mul_of_nonpos_left (by decide) (show (1 : Int) ≤ 2 ^ n from hp)
        omega
      · by_cases a0 : 0 ≤ a
        · exact Int.le_trans (Int.ediv_le_self _ a0) i0.2
        · have := Int.ediv_neg_of_neg_of_pos (show a < 0 by omega) hp
          omega
    have hr : arith_two.f op a b = (if op = 15 then ((arith_bit.f (a == b)).bind fun t106 => (some t106)) else ((arith_bit.f (decide (a < b))).bind fun t107 => (some t107))) := by
      unfold arith_two.f
      rw [if_neg h5, if_neg h6, if_neg h7, if_neg h8, if_neg h9, if_neg h10, if_neg h11, if_neg h12, if_neg h13, if_neg h14]
    by_cases h15 : op = 15
    · rw [if_pos h15] at hr
      cases hh : (a == b) <;> (rw [hh] at hr; rw [two_is hr]; unfold I64; decide)
    · rw [if_neg h15] at hr
      cases hh : (decide (a < b)) <;> (rw [hh] at hr; rw [two_is hr]; unfold I64; decide)
theorem getP_bd (l : List S39) (s : ByteArray) (h : ∀ b ∈ l, I64 b.f1) : I64 (getP l s) := by
  have key : ∀ (l : List S39) (a : Int), I64 a → (∀ b ∈ l, I64 b.f1) → I64 (l.foldl (fun acc b => if b.f0.toList = s.toList then b.f1 else acc) a) := by
    intro l
    induction l with
    | nil => intro a ha _; exact ha
    | cons b l ih =>
      intro a ha hb
      rw [List.foldl_cons]
      refine ih _ ?_ (fun x hx => hb x (List.mem_cons_of_mem _ hx))
      split
      · exact hb b List.mem_cons_self
      · exact ha
  exact key l 0 (by unfold I64; omega) h
end Go.Proofs.YtbbembhfnapadaaDoor
