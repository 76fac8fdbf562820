/- Plain facts on texts (no program): the first bad byte, texts put together, the order of texts of characters. No condition. -/
import Derived.Test.YtkdpmbjcdbmffaaDoorPlC
import Derived.Lib.MapLaws
import GoSem.Op.String
namespace Go.Proofs.YtkdpmbjcdbmffaaDoor.Pl
open Go

/-! ### the first bad byte -/
def badN (s : ByteArray) : Nat → Nat → Option Nat
  | 0, _ => none
  | k + 1, p => if p < s.size then (if badB s p = true then some p else badN s k (p + (Utf8.decode s p).2)) else none
theorem badN_more (s : ByteArray) (k : Nat) : ∀ (j p : Nat), s.size - p ≤ k → k ≤ j → badN s j p = badN s k p := by
  induction k with
  | zero => intro j p h _; cases j with
    | zero => rfl
    | succ j => simp only [badN]; rw [if_neg (by omega)]
  | succ k ih => intro j p h hj; cases j with
    | zero => omega
    | succ j =>
      simp only [badN]
      split
      · rw [ih j _ (by have := wd_pos s p; omega) (by omega)]
      · rfl
/-- the first bad byte from p on -/
def firstBad (s : ByteArray) (p : Nat) : Option Nat := badN s (s.size - p) p
theorem firstBad_end {s : ByteArray} {p : Nat} (h : ¬ p < s.size) : firstBad s p = none := by
  unfold firstBad; rw [show s.size - p = 0 by omega]; rfl
theorem firstBad_step {s : ByteArray} {p : Nat} (h : p < s.size) : firstBad s p = if badB s p = true then some p else firstBad s (p + (Utf8.decode s p).2) := by
  unfold firstBad
  obtain ⟨k, hk⟩ : ∃ k, s.size - p = k + 1 := ⟨s.size - p - 1, by omega⟩
  rw [hk]; simp only [badN]; rw [if_pos h]
  rw [badN_more s (s.size - (p + (Utf8.decode s p).2)) k _ (Nat.le_refl _) (by have := wd_pos s p; omega)]
theorem firstBad_bd (s : ByteArray) : ∀ (k p q : Nat), s.size - p ≤ k → firstBad s p = some q → p ≤ q ∧ q < s.size ∧ badB s q = true := by
  intro k
  induction k with
  | zero => intro p q h e; rw [firstBad_end (by omega)] at e; cases e
  | succ k ih =>
    intro p q h e
    by_cases hp : p < s.size
    · rw [firstBad_step hp] at e
      split at e
      · rename_i hb; cases e; exact ⟨Nat.le_refl _, hp, hb⟩
      · have h1 := wd_pos s p
        obtain ⟨h2, h3, h4⟩ := ih _ q (by omega) e
        exact ⟨by omega, h3, h4⟩
    · rw [firstBad_end hp] at e; cases e

/-! ### texts put together -/
theorem decodeN_cat (n n' b0 b1 b2 b3 c1 c2 c3 : Nat) (hnn : n ≤ n') (h1 : 1 < n → c1 = b1) (h2 : 2 < n → c2 = b2) (h3 : 3 < n → c3 = b3)
    (g : ¬ ((Lib.decodeN n b0 b1 b2 b3).1 = 65533 ∧ (Lib.decodeN n b0 b1 b2 b3).2 = 1)) : Lib.decodeN n' b0 c1 c2 c3 = Lib.decodeN n b0 b1 b2 b3 := by
  unfold Lib.decodeN at g ⊢
  by_cases a0 : b0 < 128
  · rw [if_pos a0, if_pos a0]
  · rw [if_neg a0] at g ⊢
    rw [if_neg a0]
    by_cases a1 : b0 / 32 = 6 ∧ (1 < n ∧ b1 / 64 = 2)
    · have := h1 a1.2.1
      subst this
      have a1' : b0 / 32 = 6 ∧ (1 < n' ∧ c1 / 64 = 2) := ⟨a1.1, by omega, a1.2.2⟩
      rw [if_pos a1', if_pos a1]
    · rw [if_neg a1] at g
      have e1 : b0 / 32 ≠ 6 := by
        intro e
        rw [if_neg (by omega), if_neg (by omega)] at g
        exact g ⟨rfl, rfl⟩
      rw [if_neg a1, if_neg (show ¬ (b0 / 32 = 6 ∧ (1 < n' ∧ c1 / 64 = 2)) from fun x => e1 x.1)]
      by_cases a2 : b0 / 16 = 14 ∧ (1 < n ∧ b1 / 64 = 2) ∧ (2 < n ∧ b2 / 64 = 2)
      · have := h1 a2.2.1.1
        have := h2 a2.2.2.1
        subst c1 c2
        have a2' : b0 / 16 = 14 ∧ (1 < n' ∧ b1 / 64 = 2) ∧ (2 < n' ∧ b2 / 64 = 2) := ⟨a2.1, ⟨by omega, a2.2.1.2⟩, by omega, a2.2.2.2⟩
        rw [if_pos a2', if_pos a2]
      · rw [if_neg a2] at g
        have e2 : b0 / 16 ≠ 14 := by
          intro e
          rw [if_neg (by omega)] at g
          exact g ⟨rfl, rfl⟩
        rw [if_neg a2, if_neg (show ¬ (b0 / 16 = 14 ∧ (1 < n' ∧ c1 / 64 = 2) ∧ (2 < n' ∧ c2 / 64 = 2)) from fun x => e2 x.1)]
        by_cases a3 : b0 / 8 = 30 ∧ (1 < n ∧ b1 / 64 = 2) ∧ (2 < n ∧ b2 / 64 = 2) ∧ (3 < n ∧ b3 / 64 = 2)
        · have := h1 a3.2.1.1
          have := h2 a3.2.2.1.1
          have := h3 a3.2.2.2.1
          subst c1 c2 c3
          have a3' : b0 / 8 = 30 ∧ (1 < n' ∧ b1 / 64 = 2) ∧ (2 < n' ∧ b2 / 64 = 2) ∧ (3 < n' ∧ b3 / 64 = 2) := ⟨a3.1, ⟨by omega, a3.2.1.2⟩, ⟨by omega, a3.2.2.1.2⟩, by omega, a3.2.2.2.2⟩
          rw [if_pos a3', if_pos a3]
        · rw [if_neg a3] at g
          exact absurd ⟨rfl, rfl⟩ g
/-- what follows begins with no continuing byte -/
theorem decodeN_cut (n n' b0 b1 b2 b3 c1 c2 c3 : Nat) (hn : 1 ≤ n) (hnn : n < n') (h1 : 1 < n → c1 = b1) (h2 : 2 < n → c2 = b2) (h3 : 3 < n → c3 = b3)
    (g1 : n = 1 → c1 / 64 ≠ 2) (g2 : n = 2 → c2 / 64 ≠ 2) (g3 : n = 3 → c3 / 64 ≠ 2) : Lib.decodeN n' b0 c1 c2 c3 = Lib.decodeN n b0 b1 b2 b3 := by
  have k1 : (1 < n' ∧ c1 / 64 = 2) ↔ (1 < n ∧ b1 / 64 = 2) := by
    by_cases e : 1 < n
    · have := h1 e; subst this; omega
    · have := g1 (by omega); omega
  have k2 : ((1 < n' ∧ c1 / 64 = 2) ∧ (2 < n' ∧ c2 / 64 = 2)) ↔ ((1 < n ∧ b1 / 64 = 2) ∧ (2 < n ∧ b2 / 64 = 2)) := by
    rw [k1]
    by_cases e : 2 < n
    · have := h2 e; subst this; omega
    · by_cases e2 : n = 2
      · have := g2 e2; omega
      · omega
  have k3 : ((1 < n' ∧ c1 / 64 = 2) ∧ (2 < n' ∧ c2 / 64 = 2) ∧ (3 < n' ∧ c3 / 64 = 2)) ↔ ((1 < n ∧ b1 / 64 = 2) ∧ (2 < n ∧ b2 / 64 = 2) ∧ (3 < n ∧ b3 / 64 = 2)) := by
    by_cases e : 3 < n
    · have := h3 e; subst this; rw [← and_assoc, k2, ← and_assoc]; omega
    · by_cases e2 : n = 3
      · have := g3 e2; omega
      · omega
  unfold Lib.decodeN
  by_cases a0 : b0 < 128
  · rw [if_pos a0, if_pos a0]
  · rw [if_neg a0, if_neg a0]
    by_cases a1 : b0 / 32 = 6 ∧ (1 < n ∧ b1 / 64 = 2)
    · have a1' : b0 / 32 = 6 ∧ (1 < n' ∧ c1 / 64 = 2) := ⟨a1.1, k1.2 a1.2⟩
      have := h1 a1.2.1
      subst this
      rw [if_pos a1', if_pos a1]
    · have a1' : ¬ (b0 / 32 = 6 ∧ (1 < n' ∧ c1 / 64 = 2)) := fun x => a1 ⟨x.1, k1.1 x.2⟩
      rw [if_neg a1', if_neg a1]
      by_cases a2 : b0 / 16 = 14 ∧ (1 < n ∧ b1 / 64 = 2) ∧ (2 < n ∧ b2 / 64 = 2)
      · have a2' : b0 / 16 = 14 ∧ (1 < n' ∧ c1 / 64 = 2) ∧ (2 < n' ∧ c2 / 64 = 2) := ⟨a2.1, k2.2 a2.2⟩
        have e1 := h1 a2.2.1.1
        have e2 := h2 a2.2.2.1
        subst c1 c2
        rw [if_pos a2', if_pos a2]
      · have a2' : ¬ (b0 / 16 = 14 ∧ (1 < n' ∧ c1 / 64 = 2) ∧ (2 < n' ∧ c2 / 64 = 2)) := fun x => a2 ⟨x.1, k2.1 x.2⟩
        rw [if_neg a2', if_neg a2]
        by_cases a3 : b0 / 8 = 30 ∧ (1 < n ∧ b1 / 64 = 2) ∧ (2 < n ∧ b2 / 64 = 2) ∧ (3 < n ∧ b3 / 64 = 2)
        · have a3' : b0 / 8 = 30 ∧ (1 < n' ∧ c1 / 64 = 2) ∧ (2 < n' ∧ c2 / 64 = 2) ∧ (3 < n' ∧ c3 / 64 = 2) := ⟨a3.1, k3.2 a3.2⟩
          have e1 := h1 a3.2.1.1
          have e2 := h2 a3.2.2.1.1
          have e3 := h3 a3.2.2.2.1
          subst c1 c2 c3
          rw [if_pos a3', if_pos a3]
        · have a3' : ¬ (b0 / 8 = 30 ∧ (1 < n' ∧ c1 / 64 = 2) ∧ (2 < n' ∧ c2 / 64 = 2) ∧ (3 < n' ∧ c3 / 64 = 2)) := fun x => a3 ⟨x.1, k3.1 x.2⟩
          rw [if_neg a3', if_neg a3]
theorem len_eq (s : ByteArray) : s.data.toList.length = s.size := by rw [Array.length_toList]; rfl
theorem cat_data (a b : ByteArray) : (a ++ b).data.toList = a.data.toList ++ b.data.toList := by simp
theorem cat_size (a b : ByteArray) : (a ++ b).size = a.size + b.size := by rw [← len_eq, cat_data, List.length_append, len_eq, len_eq]
theorem decode_cat (a b : ByteArray) (p : Nat) (hp : p < a.size) (g : badB a p = false) : Utf8.decode (a ++ b) p = Utf8.decode a p := by
  have hl := len_eq a
  have g' : ¬ ((Utf8.decode a p).1 = 65533 ∧ (Utf8.decode a p).2 = 1) := by
    rintro ⟨x, y⟩
    unfold badB at g
    rw [x, y] at g
    cases g
  rw [Lib.decode_N] at g'
  rw [Lib.decode_N, Lib.decode_N, cat_data, List.length_append]
  have e0 : (a.data.toList ++ b.data.toList).getD p 0 = a.data.toList.getD p 0 := by
    rw [List.getD_eq_getElem?_getD, List.getElem?_append_left (by omega), ← List.getD_eq_getElem?_getD]
  rw [e0]
  refine decodeN_cat _ _ _ _ _ _ _ _ _ (by omega) (fun h => ?_) (fun h => ?_) (fun h => ?_) g'
  all_goals rw [List.getD_eq_getElem?_getD, List.getElem?_append_left (by omega), ← List.getD_eq_getElem?_getD]
theorem decode_cut (a b : ByteArray) (p : Nat) (hp : p < a.size) (hb : 0 < b.size) (g : (b.data.toList.getD 0 0).toNat / 64 ≠ 2) : Utf8.decode (a ++ b) p = Utf8.decode a p := by
  have hl := len_eq a
  have hl2 := len_eq b
  rw [Lib.decode_N, Lib.decode_N, cat_data, List.length_append]
  have e0 : (a.data.toList ++ b.data.toList).getD p 0 = a.data.toList.getD p 0 := by
    rw [List.getD_eq_getElem?_getD, List.getElem?_append_left (by omega), ← List.getD_eq_getElem?_getD]
  rw [e0]
  have hcut : ∀ q, q = a.data.toList.length → ((a.data.toList ++ b.data.toList).getD q 0).toNat / 64 ≠ 2 := by
    intro q hq
    rw [List.getD_eq_getElem?_getD, List.getElem?_append_right (by omega), hq, Nat.sub_self, ← List.getD_eq_getElem?_getD]
    exact g
  refine decodeN_cut _ _ _ _ _ _ _ _ _ (by omega) (by omega) (fun h => ?_) (fun h => ?_) (fun h => ?_) (fun h => hcut _ (by omega)) (fun h => hcut _ (by omega)) (fun h => hcut _ (by omega))
  all_goals rw [List.getD_eq_getElem?_getD, List.getElem?_append_left (by omega), ← List.getD_eq_getElem?_getD]
theorem tail_cat (a b : ByteArray) : (a ++ b).extract a.size (a ++ b).size = b := by
  apply ByteArray.ext
  apply Array.ext'
  rw [Lib.extract_data, cat_data, cat_size, ← len_eq a, List.drop_left, Nat.add_sub_cancel_left]
  exact List.take_of_length_le (by rw [len_eq]; exact Nat.le_refl _)
theorem runes_at_cat (a b : ByteArray) : runes (a ++ b) a.size = runes b 0 := by
  have := runes_tail (a ++ b) a.size ((a ++ b).size) 0 (by omega)
  rw [tail_cat] at this
  exact this.symm
theorem runes_cat (a b : ByteArray) : ∀ (k p : Nat), p ≤ a.size → a.size - p ≤ k → firstBad a p = none → runes (a ++ b) p = runes a p ++ runes b 0 := by
  intro k
  induction k with
  | zero =>
    intro p h1 h2 _
    obtain rfl : p = a.size := by omega
    rw [runes_at_cat, runes_end (s := a) (by omega)]; rfl
  | succ k ih =>
    intro p h1 h2 hb
    by_cases hp : p < a.size
    · rw [firstBad_step hp] at hb
      split at hb
      · cases hb
      · rename_i hg
        have hg : badB a p = false := by simpa using hg
        have hd := decode_cat a b p hp hg
        rw [runes_step hp, runes_step (s := a ++ b) (by rw [cat_size]; omega), hd, ih _ (wd_le a p hp) (by have := wd_pos a p; omega) hb]
        rfl
    · obtain rfl : p = a.size := by omega
      rw [runes_at_cat, runes_end (s := a) (by omega)]; rfl
theorem runes_cut (a b : ByteArray) (hb : 0 < b.size) (g : (b.data.toList.getD 0 0).toNat / 64 ≠ 2) : ∀ (k p : Nat), p ≤ a.size → a.size - p ≤ k → runes (a ++ b) p = runes a p ++ runes b 0 := by
  intro k
  induction k with
  | zero =>
    intro p h1 h2
    obtain rfl : p = a.size := by omega
    rw [runes_at_cat, runes_end (s := a) (by omega)]; rfl
  | succ k ih =>
    intro p h1 h2
    by_cases hp : p < a.size
    · have hd := decode_cut a b p hp hb g
      rw [runes_step hp, runes_step (s := a ++ b) (by rw [cat_size]; omega), hd, ih _ (wd_le a p hp) (by have := wd_pos a p; omega)]
      rfl
    · obtain rfl : p = a.size := by omega
      rw [runes_at_cat, runes_end (s := a) (by omega)]; rfl

/-! ### the order -/
theorem cmpL_refl (x : List Int) : cmpL x x = 0 := by
  induction x with
  | nil => rfl
  | cons a x ih => simp only [cmpL]; rw [if_neg (by omega), if_neg (by omega)]; exact ih
theorem cmpL_anti (x : List Int) : ∀ y, cmpL x y = - cmpL y x := by
  induction x with
  | nil => intro y; cases y <;> simp [cmpL]
  | cons a x ih =>
    intro y
    cases y with
    | nil => simp [cmpL]
    | cons b y =>
      simp only [cmpL]
      by_cases h1 : a < b
      · rw [if_pos h1, if_neg (by omega), if_pos h1]
      · by_cases h2 : b < a
        · rw [if_neg h1, if_pos h2, if_pos h2]; rfl
        · rw [if_neg h1, if_neg h2, if_neg h2, if_neg h1, ih y]
theorem cmpL_trans (x : List Int) : ∀ y z, cmpL x y ≤ 0 → cmpL y z ≤ 0 → cmpL x z ≤ 0 := by
  induction x with
  | nil => intro y z _ _; cases z <;> simp [cmpL]
  | cons a x ih =>
    intro y z h1 h2
    cases y with
    | nil => simp [cmpL] at h1
    | cons b y =>
      cases z with
      | nil => simp [cmpL] at h2
      | cons c z =>
        simp only [cmpL] at h1 h2 ⊢
        by_cases h3 : a < c
        · rw [if_pos h3]; omega
        · rw [if_neg h3]
          by_cases h4 : a < b
          · rw [if_neg (by omega), if_pos (by omega)] at h2; omega
          · rw [if_neg h4] at h1
            by_cases h5 : b < a
            · rw [if_pos h5] at h1; omega
            · rw [if_neg h5] at h1
              obtain rfl : a = b := by omega
              rw [if_neg h3] at h2
              by_cases h6 : c < a
              · rw [if_pos h6] at h2; omega
              · rw [if_neg h6] at h2 ⊢
                exact ih y z h1 h2
theorem cmpL_prefix (x y : List Int) : cmpL x (x ++ y) ≤ 0 := by
  induction x with
  | nil => cases y <;> simp [cmpL]
  | cons a x ih => simp only [List.cons_append, cmpL]; rw [if_neg (by omega), if_neg (by omega)]; exact ih
theorem cmpL_longer (x : List Int) (b : Int) (y : List Int) : cmpL (x ++ b :: y) x = 1 := by
  induction x with
  | nil => rfl
  | cons a x ih => simp only [List.cons_append, cmpL]; rw [if_neg (by omega), if_neg (by omega)]; exact ih
theorem runes_cons {s : ByteArray} (h : 0 < s.size) : ∃ r l, runes s 0 = r :: l := ⟨_, _, runes_step h⟩
end Go.Proofs.YtkdpmbjcdbmffaaDoor.Pl
