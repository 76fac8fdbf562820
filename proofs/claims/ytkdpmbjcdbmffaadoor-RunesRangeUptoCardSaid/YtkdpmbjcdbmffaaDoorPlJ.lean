/- Plain facts: what stands ahead of the first bad byte; the characters of a line. -/
import Derived.Test.YtkdpmbjcdbmffaaDoorPlI
import Derived.Test.YtkdpmbjcdbmffaaDoorRunM
namespace Go.Proofs.YtkdpmbjcdbmffaaDoor.Pl

/-- ahead of the first bad byte stands none -/
theorem head_good (s : ByteArray) : ∀ (k p q : Nat), s.size - p ≤ k → firstBad s p = some q → firstBad (s.extract 0 q) p = none := by
  intro k
  induction k with
  | zero =>
    intro p q h2 hb
    rw [firstBad_end (by omega)] at hb
    cases hb
  | succ k ih =>
    intro p q h2 hb
    obtain ⟨b1, b2, b3⟩ := firstBad_bd s (s.size - p) p q (Nat.le_refl _) hb
    by_cases hpq : p < q
    · have hp : p < s.size := by omega
      rw [firstBad_step hp] at hb
      split at hb
      · cases hb; omega
      · rename_i hg
        have hg' : badB s p = false := by simpa using hg
        have h4 := firstBad_bd s (s.size - (p + (Utf8.decode s p).2)) _ q (Nat.le_refl _) hb
        have hd := decode_part s 0 q p (by omega) (by omega) (by rw [Nat.zero_add]; omega) (by rw [Nat.zero_add]; exact hg')
        rw [Nat.zero_add] at hd
        have hsz := piece_size s 0 q (by omega)
        rw [firstBad_step (by omega), show badB (s.extract 0 q) p = false by unfold badB; rw [hd]; exact hg', hd]
        exact ih _ _ (by have := wd_pos s p; omega) hb
    · rw [firstBad_end (by rw [piece_size s 0 q (by omega)]; omega)]
theorem bad_wid {s : ByteArray} {p : Nat} (h : badB s p = true) : (Utf8.decode s p).2 = 1 := by
  unfold badB at h
  simp only [Bool.and_eq_true, decide_eq_true_eq] at h
  exact h.2

/-- a piece grows by a character -/
theorem piece_more (s : ByteArray) (f i : Nat) (hf : f ≤ i) (hi : i < s.size) (hg : badB s i = false) : ∀ (k p : Nat), i - (f + p) ≤ k → f + p ≤ i → firstBad (s.extract f i) p = none →
    firstBad (s.extract f (i + (Utf8.decode s i).2)) p = none ∧ runes (s.extract f (i + (Utf8.decode s i).2)) p = runes (s.extract f i) p ++ [((Utf8.decode s i).1 : Int)] := by
  have hw := wd_pos s i
  have hl := wd_le s i hi
  have z1 := piece_size s f i (by omega)
  have z2 := piece_size s f (i + (Utf8.decode s i).2) (by omega)
  have last : ∀ p, f + p = i → firstBad (s.extract f (i + (Utf8.decode s i).2)) p = none ∧ runes (s.extract f (i + (Utf8.decode s i).2)) p = runes (s.extract f i) p ++ [((Utf8.decode s i).1 : Int)] := by
    intro p hp
    have hd := decode_part s f (i + (Utf8.decode s i).2) p (by omega) (by omega) (by rw [hp]; exact Nat.le_refl _) (by rw [hp]; exact hg)
    rw [hp] at hd
    rw [firstBad_step (by omega), runes_step (by omega), show badB (s.extract f (i + (Utf8.decode s i).2)) p = false by unfold badB; rw [hd]; exact hg, hd, firstBad_end (by omega), runes_end (by omega), runes_end (s := s.extract f i) (by omega)]
    exact ⟨rfl, rfl⟩
  intro k
  induction k with
  | zero => intro p h1 h2 _; exact last p (by omega)
  | succ k ih =>
    intro p h1 h2 hb
    by_cases hp : f + p = i
    · exact last p hp
    · have hpl : p < (s.extract f i).size := by omega
      rw [firstBad_step hpl] at hb
      split at hb
      · cases hb
      · rename_i hg2
        have hg2' : badB (s.extract f i) p = false := by simpa using hg2
        have hcat : s.extract f i ++ s.extract i (i + (Utf8.decode s i).2) = s.extract f (i + (Utf8.decode s i).2) := by
          rw [ByteArray.extract_append_extract, Nat.min_eq_left (by omega), Nat.max_eq_right (by omega)]
        have hd := decode_cat (s.extract f i) (s.extract i (i + (Utf8.decode s i).2)) p hpl hg2'
        rw [hcat] at hd
        have hwp := wd_pos (s.extract f i) p
        have hwl := wd_le (s.extract f i) p hpl
        obtain ⟨r1, r2⟩ := ih (p + (Utf8.decode (s.extract f i) p).2) (by omega) (by omega) hb
        rw [firstBad_step (by omega), runes_step (by omega), runes_step hpl, show badB (s.extract f (i + (Utf8.decode s i).2)) p = false by unfold badB; rw [hd]; exact hg2', hd, r1, r2]
        exact ⟨rfl, rfl⟩

theorem decodeN_tail (n b0 b1 b2 b3 : Nat) : (1 < (Lib.decodeN n b0 b1 b2 b3).2 → b1 / 64 = 2) ∧ (2 < (Lib.decodeN n b0 b1 b2 b3).2 → b2 / 64 = 2) ∧ (3 < (Lib.decodeN n b0 b1 b2 b3).2 → b3 / 64 = 2) ∧ (Lib.decodeN n b0 b1 b2 b3).2 ≤ 4 := by
  unfold Lib.decodeN
  repeat' split
  all_goals simp_all
theorem decodeN_ten (n b0 b1 b2 b3 : Nat) : (Lib.decodeN n b0 b1 b2 b3).1 = 10 ↔ b0 = 10 := by
  unfold Lib.decodeN
  repeat' split
  all_goals simp only []
  all_goals omega
theorem ten_byt (s : ByteArray) (i : Nat) : (Utf8.decode s i).1 = 10 ↔ byt s i = 10 := by
  rw [Lib.decode_N]
  exact decodeN_ten _ _ _ _ _
theorem ten_wid {s : ByteArray} {i : Nat} (h : byt s i = 10) : (Utf8.decode s i).2 = 1 := by
  rw [Lib.decode_N]
  unfold byt at h
  unfold Lib.decodeN
  rw [if_pos (by omega)]
theorem tail_byt (s : ByteArray) (i j : Nat) (h1 : i < j) (h2 : j < i + (Utf8.decode s i).2) : byt s j ≠ 10 := by
  rw [Lib.decode_N] at h2
  have h := decodeN_tail (s.data.toList.length - i) (s.data.toList.getD i 0).toNat (s.data.toList.getD (i + 1) 0).toNat (s.data.toList.getD (i + 2) 0).toNat (s.data.toList.getD (i + 3) 0).toNat
  obtain ⟨t1, t2, t3, t4⟩ := h
  unfold byt
  by_cases e1 : j = i + 1
  · subst e1; have := t1 (by omega); omega
  · by_cases e2 : j = i + 2
    · subst e2; have := t2 (by omega); omega
    · by_cases e3 : j = i + 3
      · subst e3; have := t3 (by omega); omega
      · omega
theorem line_same (s : ByteArray) (i : Nat) : ∀ w, (∀ j, i ≤ j → j < i + w → byt s j ≠ 10) → fromN s (i + w) = fromN s i ∧ lineN s (i + w) = lineN s i
  | 0, _ => ⟨rfl, rfl⟩
  | w + 1, h => by
    obtain ⟨e1, e2⟩ := line_same s i w (fun j h1 h2 => h j h1 (by omega))
    have := h (i + w) (by omega) (by omega)
    rw [← Nat.add_assoc, from_no this, line_no this]
    exact ⟨e1, e2⟩
/-- What holds at each character of a text without bad bytes: line, column. -/
def LC (s : ByteArray) (i : Nat) (line col : Nat) : Prop := line = lineN s i ∧ col = (runes (s.extract (fromN s i) i) 0).length + 1 ∧ firstBad (s.extract (fromN s i) i) 0 = none
theorem LC_start (s : ByteArray) : LC s 0 1 1 := by
  have hz : (s.extract 0 0).size = 0 := by rw [piece_size s 0 0 (by omega)]
  refine ⟨rfl, ?_, ?_⟩
  · show 1 = (runes (s.extract 0 0) 0).length + 1
    rw [runes_end (by omega)]; rfl
  · show firstBad (s.extract 0 0) 0 = none
    exact firstBad_end (by omega)
theorem LC_nl {s : ByteArray} {i l c : Nat} (h : LC s i l c) (hi : i < s.size) (h10 : (Utf8.decode s i).1 = 10) : LC s (i + (Utf8.decode s i).2) (l + 1) 1 := by
  have hb := (ten_byt s i).1 h10
  rw [ten_wid hb]
  have hz : (s.extract (i + 1) (i + 1)).size = 0 := by rw [piece_size s _ _ (by omega)]; omega
  refine ⟨?_, ?_, ?_⟩
  · rw [line_nl hb, h.1]
  · rw [from_nl hb, runes_end (by omega)]; rfl
  · rw [from_nl hb]; exact firstBad_end (by omega)
theorem LC_no {s : ByteArray} {i l c : Nat} (h : LC s i l c) (hi : i < s.size) (hg : badB s i = false) (h10 : (Utf8.decode s i).1 ≠ 10) : LC s (i + (Utf8.decode s i).2) l (c + 1) := by
  have hb : byt s i ≠ 10 := fun e => h10 ((ten_byt s i).2 e)
  obtain ⟨e1, e2⟩ := line_same s i (Utf8.decode s i).2 (fun j h1 h2 => by
    by_cases e : j = i
    · rw [e]; exact hb
    · exact tail_byt s i j (by omega) h2)
  have hf := from_le s i
  obtain ⟨r1, r2⟩ := piece_more s (fromN s i) i hf hi hg _ 0 (Nat.le_refl _) hf h.2.2
  refine ⟨by rw [e2]; exact h.1, ?_, by rw [e1]; exact r1⟩
  rw [e1, r2, List.length_append, h.2.1]
  rfl
end Go.Proofs.YtkdpmbjcdbmffaaDoor.Pl
