/- Plain facts on texts (no program): where the longest name ends that begins at a place. No condition. -/
import Derived.Test.YtkdpmbjcdbmffaaDoorPlD
namespace Go.Proofs.YtkdpmbjcdbmffaaDoor.Pl
open Go

def endN (s : ByteArray) : Nat → Nat → Nat
  | 0, p => p
  | k + 1, p => if p < s.size then (if inName ((Utf8.decode s p).1 : Int) = true then endN s k (p + (Utf8.decode s p).2) else p) else p
theorem endN_more (s : ByteArray) (k : Nat) : ∀ (j p : Nat), s.size - p ≤ k → k ≤ j → endN s j p = endN s k p := by
  induction k with
  | zero => intro j p h _; cases j with
    | zero => rfl
    | succ j => simp only [endN]; rw [if_neg (by omega)]
  | succ k ih => intro j p h hj; cases j with
    | zero => omega
    | succ j =>
      simp only [endN]
      split
      · rw [ih j _ (by have := wd_pos s p; omega) (by omega)]
      · rfl
/-- where the letters, digits and indices from p on end -/
def endOf (s : ByteArray) (p : Nat) : Nat := endN s (s.size - p) p
theorem endOf_end {s : ByteArray} {p : Nat} (h : ¬ p < s.size) : endOf s p = p := by
  unfold endOf; rw [show s.size - p = 0 by omega]; rfl
theorem endOf_step {s : ByteArray} {p : Nat} (h : p < s.size) : endOf s p = if inName ((Utf8.decode s p).1 : Int) = true then endOf s (p + (Utf8.decode s p).2) else p := by
  unfold endOf
  obtain ⟨k, hk⟩ : ∃ k, s.size - p = k + 1 := ⟨s.size - p - 1, by omega⟩
  rw [hk]; simp only [endN]; rw [if_pos h]
  rw [endN_more s (s.size - (p + (Utf8.decode s p).2)) k _ (Nat.le_refl _) (by have := wd_pos s p; omega)]
theorem endOf_bd (s : ByteArray) : ∀ (k p : Nat), s.size - p ≤ k → p ≤ s.size → p ≤ endOf s p ∧ endOf s p ≤ s.size := by
  intro k
  induction k with
  | zero => intro p h h2; rw [endOf_end (by omega)]; omega
  | succ k ih =>
    intro p h h2
    by_cases hp : p < s.size
    · rw [endOf_step hp]
      split
      · have h1 := wd_pos s p
        have := ih (p + (Utf8.decode s p).2) (by omega) (wd_le s p hp)
        omega
      · omega
    · rw [endOf_end hp]; omega
theorem end_chain {s : ByteArray} {q e : Nat} (h : endOf s q = e) (hq : q < e) : q < s.size ∧ inName ((Utf8.decode s q).1 : Int) = true ∧ q + (Utf8.decode s q).2 ≤ e ∧ endOf s (q + (Utf8.decode s q).2) = e := by
  by_cases hs : q < s.size
  · rw [endOf_step hs] at h
    split at h
    · rename_i hi
      have := endOf_bd s _ (q + (Utf8.decode s q).2) (Nat.le_refl _) (wd_le s q hs)
      exact ⟨hs, hi, by omega, h⟩
    · omega
  · rw [endOf_end hs] at h; omega
theorem endOf_idem (s : ByteArray) : ∀ (k p : Nat), s.size - p ≤ k → endOf s (endOf s p) = endOf s p := by
  intro k
  induction k with
  | zero => intro p h; rw [endOf_end (p := p) (by omega), endOf_end (by omega)]
  | succ k ih =>
    intro p h
    by_cases hp : p < s.size
    · rw [endOf_step hp]
      split
      · exact ih _ (by have := wd_pos s p; omega)
      · rename_i hi
        rw [endOf_step hp, if_neg hi]
    · rw [endOf_end hp, endOf_end hp]
theorem end_stop {s : ByteArray} {p : Nat} (h : endOf s p < s.size) : inName ((Utf8.decode s (endOf s p)).1 : Int) = false := by
  have hi := endOf_idem s _ p (Nat.le_refl _)
  rw [endOf_step h] at hi
  split at hi
  · have := endOf_bd s _ (endOf s p + (Utf8.decode s (endOf s p)).2) (Nat.le_refl _) (wd_le s _ h)
    have := wd_pos s (endOf s p)
    omega
  · rename_i hn
    simpa using hn

/-! ### a piece of a text -/
theorem decodeN_short (n n' b0 b1 b2 b3 c1 c2 c3 : Nat) (hnn : n ≤ n') (h1 : 1 < n → c1 = b1) (h2 : 2 < n → c2 = b2) (h3 : 3 < n → c3 = b3)
    (hw : (Lib.decodeN n' b0 b1 b2 b3).2 ≤ n) (g : ¬ ((Lib.decodeN n' b0 b1 b2 b3).1 = 65533 ∧ (Lib.decodeN n' b0 b1 b2 b3).2 = 1)) : Lib.decodeN n b0 c1 c2 c3 = Lib.decodeN n' b0 b1 b2 b3 := by
  unfold Lib.decodeN at hw g ⊢
  by_cases a0 : b0 < 128
  · rw [if_pos a0, if_pos a0]
  · rw [if_neg a0] at hw g
    rw [if_neg a0, if_neg a0]
    by_cases a1 : b0 / 32 = 6 ∧ (1 < n' ∧ b1 / 64 = 2)
    · rw [if_pos a1] at hw g
      by_cases e : b0 % 32 * 64 + b1 % 64 ≥ 128
      · rw [if_pos e] at hw
        have hw' : 2 ≤ n := hw
        have := h1 (by omega)
        subst this
        have a1' : b0 / 32 = 6 ∧ (1 < n ∧ c1 / 64 = 2) := ⟨a1.1, by omega, a1.2.2⟩
        rw [if_pos a1', if_pos a1]
      · rw [if_neg e] at g; exact absurd ⟨rfl, rfl⟩ g
    · rw [if_neg a1] at hw g
      have a1' : ¬ (b0 / 32 = 6 ∧ (1 < n ∧ c1 / 64 = 2)) := by
        rintro ⟨x, y, z⟩
        have := h1 y
        subst this
        exact a1 ⟨x, by omega, z⟩
      rw [if_neg a1', if_neg a1]
      by_cases a2 : b0 / 16 = 14 ∧ (1 < n' ∧ b1 / 64 = 2) ∧ (2 < n' ∧ b2 / 64 = 2)
      · rw [if_pos a2] at hw g
        by_cases e : b0 % 16 * 4096 + b1 % 64 * 64 + b2 % 64 ≥ 2048 ∧ (b0 % 16 * 4096 + b1 % 64 * 64 + b2 % 64 < 55296 ∨ (57344 ≤ b0 % 16 * 4096 + b1 % 64 * 64 + b2 % 64 ∧ b0 % 16 * 4096 + b1 % 64 * 64 + b2 % 64 ≤ 1114111))
        · rw [if_pos e] at hw
          have hw' : 3 ≤ n := hw
          have e1 := h1 (by omega)
          have e2 := h2 (by omega)
          subst c1 c2
          have a2' : b0 / 16 = 14 ∧ (1 < n ∧ b1 / 64 = 2) ∧ (2 < n ∧ b2 / 64 = 2) := ⟨a2.1, ⟨by omega, a2.2.1.2⟩, by omega, a2.2.2.2⟩
          rw [if_pos a2', if_pos a2]
        · rw [if_neg e] at g; exact absurd ⟨rfl, rfl⟩ g
      · rw [if_neg a2] at hw g
        have a2' : ¬ (b0 / 16 = 14 ∧ (1 < n ∧ c1 / 64 = 2) ∧ (2 < n ∧ c2 / 64 = 2)) := by
          rintro ⟨x, ⟨y, z⟩, y2, z2⟩
          have e1 := h1 y
          have e2 := h2 y2
          subst c1 c2
          exact a2 ⟨x, ⟨by omega, z⟩, by omega, z2⟩
        rw [if_neg a2', if_neg a2]
        by_cases a3 : b0 / 8 = 30 ∧ (1 < n' ∧ b1 / 64 = 2) ∧ (2 < n' ∧ b2 / 64 = 2) ∧ (3 < n' ∧ b3 / 64 = 2)
        · rw [if_pos a3] at hw g
          by_cases e : b0 % 8 * 262144 + b1 % 64 * 4096 + b2 % 64 * 64 + b3 % 64 ≥ 65536 ∧ (b0 % 8 * 262144 + b1 % 64 * 4096 + b2 % 64 * 64 + b3 % 64 < 55296 ∨ (57344 ≤ b0 % 8 * 262144 + b1 % 64 * 4096 + b2 % 64 * 64 + b3 % 64 ∧ b0 % 8 * 262144 + b1 % 64 * 4096 + b2 % 64 * 64 + b3 % 64 ≤ 1114111))
          · rw [if_pos e] at hw
            have hw' : 4 ≤ n := hw
            have e1 := h1 (by omega)
            have e2 := h2 (by omega)
            have e3 := h3 (by omega)
            subst c1 c2 c3
            have a3' : b0 / 8 = 30 ∧ (1 < n ∧ b1 / 64 = 2) ∧ (2 < n ∧ b2 / 64 = 2) ∧ (3 < n ∧ b3 / 64 = 2) := ⟨a3.1, ⟨by omega, a3.2.1.2⟩, ⟨by omega, a3.2.2.1.2⟩, by omega, a3.2.2.2.2⟩
            rw [if_pos a3', if_pos a3]
          · rw [if_neg e] at g; exact absurd ⟨rfl, rfl⟩ g
        · rw [if_neg a3] at g; exact absurd ⟨rfl, rfl⟩ g
theorem piece_size (s : ByteArray) (p e : Nat) (he : e ≤ s.size) : (s.extract p e).size = e - p := by
  rw [← len_eq, Lib.extract_data, List.length_take, List.length_drop, len_eq]; omega
theorem piece_getD (s : ByteArray) (p e j : Nat) (hj : p + j < e) : (s.extract p e).data.toList.getD j 0 = s.data.toList.getD (p + j) 0 := by
  rw [Lib.extract_data, List.getD_eq_getElem?_getD, List.getElem?_take, if_pos (by omega), List.getElem?_drop, ← List.getD_eq_getElem?_getD]
/-- a character that lies in a piece of a text is the piece's -/
theorem decode_part (s : ByteArray) (p e i : Nat) (he : e ≤ s.size) (hi : p + i < e) (hw : p + i + (Utf8.decode s (p + i)).2 ≤ e) (g : badB s (p + i) = false) :
    Utf8.decode (s.extract p e) i = Utf8.decode s (p + i) := by
  have hl := len_eq s
  have hp := piece_size s p e he
  have g' : ¬ ((Utf8.decode s (p + i)).1 = 65533 ∧ (Utf8.decode s (p + i)).2 = 1) := by
    rintro ⟨x, y⟩
    unfold badB at g
    rw [x, y] at g
    cases g
  rw [Lib.decode_N] at hw g'
  rw [Lib.decode_N, Lib.decode_N, len_eq, hp, piece_getD s p e i hi]
  refine decodeN_short _ _ _ _ _ _ _ _ _ (by omega) (fun h => ?_) (fun h => ?_) (fun h => ?_) (by omega) g'
  · rw [piece_getD s p e (i + 1) (by omega), Nat.add_assoc]
  · rw [piece_getD s p e (i + 2) (by omega), Nat.add_assoc]
  · rw [piece_getD s p e (i + 3) (by omega), Nat.add_assoc]
theorem decode_piece (s : ByteArray) (p e i : Nat) (he : e ≤ s.size) (hi : p + i < e) (hw : p + i + (Utf8.decode s (p + i)).2 ≤ e) (g : (Utf8.decode s (p + i)).1 ≠ 65533) :
    Utf8.decode (s.extract p e) i = Utf8.decode s (p + i) := decode_part s p e i he hi hw (not_bad g)
theorem inName_ne {r : Int} (h : inName r = true) : r ≠ 65533 := by
  rintro rfl
  revert h
  decide
/-- the characters of a name, as those of the piece that it is -/
theorem names_in (s : ByteArray) (p e : Nat) (hs : e ≤ s.size) : ∀ (k i : Nat), e - (p + i) ≤ k → p + i ≤ e → endOf s (p + i) = e → ∀ r ∈ runes (s.extract p e) i, inName r = true := by
  intro k
  induction k with
  | zero => intro i h h2 _ r hr; rw [runes_end (by rw [piece_size s p e hs]; omega)] at hr; cases hr
  | succ k ih =>
    intro i h h2 hc r hr
    by_cases hi : p + i < e
    · obtain ⟨h3, h4, h5, h6⟩ := end_chain hc hi
      have hd := decode_piece s p e i hs hi h5 (by have := inName_ne h4; omega)
      rw [runes_step (by rw [piece_size s p e hs]; omega), hd, List.mem_cons] at hr
      rcases hr with rfl | hr
      · exact h4
      · exact ih (i + (Utf8.decode s (p + i)).2) (by have := wd_pos s (p + i); omega) (by omega) (by rw [← Nat.add_assoc]; exact h6) r hr
    · rw [runes_end (by rw [piece_size s p e hs]; omega)] at hr; cases hr
theorem name_of_end (s : ByteArray) (p : Nat) (hp : p < s.size) (hk : kindI ((Utf8.decode s p).1 : Int) = 1) :
    nameL (runes (s.extract p (endOf s p)) 0) = decide ((runes (s.extract p (endOf s p)) 0).length ≤ 16) := by
  have hb := endOf_bd s _ p (Nat.le_refl _) (by omega)
  have hin : inName ((Utf8.decode s p).1 : Int) = true := by unfold inName; rw [hk]; rfl
  have hlt : p < endOf s p := by
    rw [endOf_step hp, if_pos hin]
    have := endOf_bd s _ (p + (Utf8.decode s p).2) (Nat.le_refl _) (wd_le s p hp)
    have := wd_pos s p
    omega
  obtain ⟨h3, h4, h5, h6⟩ := end_chain rfl hlt
  have hd := decode_piece s p (endOf s p) 0 hb.2 hlt h5 (by have := inName_ne h4; rw [Nat.add_zero]; omega)
  have hall := names_in s p (endOf s p) hb.2 _ 0 (Nat.le_refl _) (by omega) rfl
  have hst := runes_step (s := s.extract p (endOf s p)) (p := 0) (by rw [piece_size s p _ hb.2]; omega)
  rw [Nat.add_zero] at hd
  rw [hd] at hst
  have hall' : (runes (s.extract p (endOf s p)) 0).all inName = true := List.all_eq_true.2 hall
  unfold nameL
  rw [hall']
  have hl : 1 ≤ (runes (s.extract p (endOf s p)) 0).length := by rw [hst]; simp
  have hh : (runes (s.extract p (endOf s p)) 0).head?.map kindI = some 1 := by rw [hst]; simp [hk]
  rw [hh, decide_eq_true hl]
  simp
theorem end_pos (s : ByteArray) (p : Nat) (hp : p < s.size) (hk : kindI ((Utf8.decode s p).1 : Int) = 1) : p < endOf s p ∧ endOf s p ≤ s.size := by
  have hin : inName ((Utf8.decode s p).1 : Int) = true := by unfold inName; rw [hk]; rfl
  have hb := endOf_bd s _ p (Nat.le_refl _) (by omega)
  refine ⟨?_, hb.2⟩
  rw [endOf_step hp, if_pos hin]
  have := endOf_bd s _ (p + (Utf8.decode s p).2) (Nat.le_refl _) (wd_le s p hp)
  have := wd_pos s p
  omega
end Go.Proofs.YtkdpmbjcdbmffaaDoor.Pl
