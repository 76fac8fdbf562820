/- Plain facts on texts (no program): the order of texts of characters is that of their bytes. No condition. -/
import Derived.Test.YtkdpmbjcdbmffaaDoorPlD
namespace Go.Proofs.YtkdpmbjcdbmffaaDoor.Pl
open Go

def okR (r : Int) : Prop := 0 ≤ r ∧ (r < 55296 ∨ (57343 < r ∧ r ≤ 1114111))
theorem decode_ok (s : ByteArray) (p : Nat) : okR ((Utf8.decode s p).1 : Int) := by
  have h := Lib.decodeN_valid (s.size - p) (s.get! p).toNat (s.get! (p + 1)).toNat (s.get! (p + 2)).toNat (s.get! (p + 3)).toNat (UInt8.toNat_lt _)
  rw [← Lib.decode_at] at h
  unfold okR
  omega
theorem runes_ok (s : ByteArray) : ∀ (k p : Nat), s.size - p ≤ k → ∀ r ∈ runes s p, okR r := by
  intro k
  induction k with
  | zero => intro p h r hr; rw [runes_end (by omega)] at hr; cases hr
  | succ k ih =>
    intro p h r hr
    by_cases hp : p < s.size
    · rw [runes_step hp, List.mem_cons] at hr
      rcases hr with rfl | hr
      · exact decode_ok s p
      · exact ih _ (by have := wd_pos s p; omega) r hr
    · rw [runes_end hp] at hr; cases hr
theorem bytes_runes (s : ByteArray) : ∀ (k p : Nat), p ≤ s.size → s.size - p ≤ k → firstBad s p = none → s.data.toList.drop p = (runes s p).flatMap Lib.encodeRune := by
  intro k
  induction k with
  | zero =>
    intro p h1 h2 _
    rw [runes_end (by omega), List.drop_eq_nil_of_le (by rw [len_eq]; omega)]; rfl
  | succ k ih =>
    intro p h1 h2 hb
    by_cases hp : p < s.size
    · rw [firstBad_step hp] at hb
      split at hb
      · cases hb
      · rename_i hg
        have hd := Lib.decodeL_drop s p
        have hne : s.data.toList.drop p ≠ [] := by
          intro e
          have := congrArg List.length e
          rw [List.length_drop, len_eq] at this
          simp at this
          omega
        have he := Lib.encode_decode (s.data.toList.drop p) hne (by rw [hd]; unfold badB at hg; simpa using hg)
        rw [hd] at he
        rw [runes_step hp, List.flatMap_cons, he, ← ih _ (wd_le s p hp) (by have := wd_pos s p; omega) hb, ← List.drop_drop]
        exact (List.take_append_drop _ _).symm
    · rw [runes_end hp, List.drop_eq_nil_of_le (by rw [len_eq]; omega)]; rfl

/-! ### bytes -/
theorem less_app (p u v : List UInt8) : Op.bytesLess (p ++ u) (p ++ v) = Op.bytesLess u v := by
  induction p with
  | nil => rfl
  | cons a p ih => simp [Op.bytesLess, ih]
theorem less_irr (u : List UInt8) : Op.bytesLess u u = false := by
  induction u with
  | nil => rfl
  | cons a u ih => simp [Op.bytesLess, ih]
theorem less_asym (u : List UInt8) : ∀ v, Op.bytesLess u v = true → Op.bytesLess v u = false := by
  induction u with
  | nil => intro v _; cases v <;> rfl
  | cons a u ih =>
    intro v h
    cases v with
    | nil => simp [Op.bytesLess] at h
    | cons b v =>
      simp only [Op.bytesLess, Bool.or_eq_true, decide_eq_true_eq, Bool.and_eq_true, beq_iff_eq] at h
      simp only [Op.bytesLess, Bool.or_eq_false_iff, decide_eq_false_iff_not, Bool.and_eq_false_iff]
      rcases h with h | ⟨rfl, h⟩
      · have h' : a.toNat < b.toNat := UInt8.lt_iff_toNat_lt.1 h
        refine ⟨fun g => ?_, .inl ?_⟩
        · have g' : b.toNat < a.toNat := UInt8.lt_iff_toNat_lt.1 g
          omega
        · simp only [beq_eq_false_iff_ne, ne_eq]
          rintro rfl
          omega
      · exact ⟨fun g => by have g' : a.toNat < a.toNat := UInt8.lt_iff_toNat_lt.1 g; omega, .inr (ih v h)⟩
def lessZ : List Int → List Int → Prop
  | _, [] => False
  | [], _ :: _ => False
  | a :: x, b :: y => a < b ∨ (a = b ∧ lessZ x y)
/-- a number of a byte -/
def byZ (l : List Int) : Prop := ∀ x ∈ l, 0 ≤ x ∧ x < 256
theorem less_of_Z (x : List Int) : ∀ y, byZ x → byZ y → lessZ x y → ∀ u v : List UInt8, Op.bytesLess (x.map (fun z => z.toNat.toUInt8) ++ u) (y.map (fun z => z.toNat.toUInt8) ++ v) = true := by
  induction x with
  | nil => intro y _ _ h; cases y <;> exact h.elim
  | cons a x ih =>
    intro y hx hy h u v
    cases y with
    | nil => exact h.elim
    | cons b y =>
      have ha := hx a (by simp)
      have hb := hy b (by simp)
      simp only [List.map_cons, List.cons_append, Op.bytesLess, Bool.or_eq_true, decide_eq_true_eq, Bool.and_eq_true, beq_iff_eq]
      rcases h with h | ⟨rfl, h⟩
      · left
        rw [UInt8.lt_iff_toNat_lt]
        simp
        omega
      · right
        exact ⟨rfl, ih y (fun z hz => hx z (by simp [hz])) (fun z hz => hy z (by simp [hz])) h u v⟩
theorem enc_by {r : Int} (h : okR r) : byZ (Lib.encodeRuneZ r) := by
  unfold okR at h
  unfold Lib.encodeRuneZ
  intro x hx
  split at hx
  · simp at hx; omega
  · split at hx
    · simp at hx; omega
    · split at hx
      · simp at hx; omega
      · split at hx
        · simp at hx; omega
        · simp at hx; omega
theorem enc_less {a b : Int} (ha : okR a) (hb : okR b) (h : a < b) : lessZ (Lib.encodeRuneZ a) (Lib.encodeRuneZ b) := by
  unfold okR at ha hb
  unfold Lib.encodeRuneZ
  split
  · split
    · simp only [lessZ]; omega
    · split
      · simp only [lessZ]; omega
      · split
        · simp only [lessZ]; omega
        · split
          · simp only [lessZ]; omega
          · simp only [lessZ]; omega
  · split
    · split
      · omega
      · split
        · simp only [lessZ]; omega
        · split
          · simp only [lessZ]; omega
          · split
            · simp only [lessZ]; omega
            · simp only [lessZ]; omega
    · split
      · split
        · omega
        · split
          · omega
          · split
            · simp only [lessZ]; omega
            · split
              · simp only [lessZ]; omega
              · simp only [lessZ]; omega
      · split
        · split
          · omega
          · split
            · omega
            · split
              · omega
              · split
                · simp only [lessZ]; omega
                · omega
        · omega
theorem cmp_less (x : List Int) : ∀ y, (∀ r ∈ x, okR r) → (∀ r ∈ y, okR r) → cmpL x y = -1 → Op.bytesLess (x.flatMap Lib.encodeRune) (y.flatMap Lib.encodeRune) = true := by
  induction x with
  | nil =>
    intro y _ hy h
    cases y with
    | nil => cases h
    | cons b y =>
      have hb := hy b (by simp)
      have : Lib.encodeRune b ≠ [] := by
        unfold Lib.encodeRune Lib.encodeRuneZ
        (repeat' split) <;> simp
      rw [List.flatMap_nil, List.flatMap_cons]
      cases he : Lib.encodeRune b with
      | nil => exact absurd he this
      | cons c l => rfl
  | cons a x ih =>
    intro y hx hy h
    cases y with
    | nil => cases h
    | cons b y =>
      rw [List.flatMap_cons, List.flatMap_cons]
      simp only [cmpL] at h
      by_cases h1 : a < b
      · exact less_of_Z _ _ (enc_by (hx a (by simp))) (enc_by (hy b (by simp))) (enc_less (hx a (by simp)) (hy b (by simp)) h1) _ _
      · rw [if_neg h1] at h
        by_cases h2 : b < a
        · rw [if_pos h2] at h; cases h
        · rw [if_neg h2] at h
          obtain rfl : a = b := by omega
          rw [less_app]
          exact ih y (fun r hr => hx r (by simp [hr])) (fun r hr => hy r (by simp [hr])) h
theorem cmp_same (x : List Int) : ∀ y, cmpL x y = 0 → x = y := by
  induction x with
  | nil => intro y h; cases y with
    | nil => rfl
    | cons b y => cases h
  | cons a x ih =>
    intro y h
    cases y with
    | nil => cases h
    | cons b y =>
      simp only [cmpL] at h
      by_cases h1 : a < b
      · rw [if_pos h1] at h; cases h
      · rw [if_neg h1] at h
        by_cases h2 : b < a
        · rw [if_pos h2] at h; cases h
        · rw [if_neg h2] at h
          obtain rfl : a = b := by omega
          rw [ih y h]
/-- what the bytes tell -/
theorem order_bytes (a b : ByteArray) (ha : firstBad a 0 = none) (hb : firstBad b 0 = none) :
    (cmpL (runes a 0) (runes b 0) = -1 ∧ Op.bytesLess a.toList b.toList = true ∧ (a.toList == b.toList) = false) ∨
    (cmpL (runes a 0) (runes b 0) = 1 ∧ Op.bytesLess a.toList b.toList = false ∧ (a.toList == b.toList) = false) ∨
    (cmpL (runes a 0) (runes b 0) = 0 ∧ Op.bytesLess a.toList b.toList = false ∧ (a.toList == b.toList) = true) := by
  have e1 := bytes_runes a _ 0 (by omega) (Nat.le_refl _) ha
  have e2 := bytes_runes b _ 0 (by omega) (Nat.le_refl _) hb
  rw [List.drop_zero] at e1 e2
  have o1 := runes_ok a _ 0 (Nat.le_refl _)
  have o2 := runes_ok b _ 0 (Nat.le_refl _)
  rw [ByteArray.toList_eq, ByteArray.toList_eq, e1, e2]
  have hbd := cmpL_bd (runes a 0) (runes b 0)
  rcases (show cmpL (runes a 0) (runes b 0) = -1 ∨ cmpL (runes a 0) (runes b 0) = 1 ∨ cmpL (runes a 0) (runes b 0) = 0 by omega) with h | h | h
  · refine .inl ⟨h, cmp_less _ _ o1 o2 h, ?_⟩
    have := cmp_less _ _ o1 o2 h
    rw [beq_eq_false_iff_ne]
    intro e
    rw [e, less_irr] at this
    cases this
  · have h' : cmpL (runes b 0) (runes a 0) = -1 := by rw [cmpL_anti, h]
    have hl := cmp_less _ _ o2 o1 h'
    refine .inr (.inl ⟨h, less_asym _ _ hl, ?_⟩)
    rw [beq_eq_false_iff_ne]
    intro e
    rw [e, less_irr] at hl
    cases hl
  · have e := cmp_same _ _ h
    refine .inr (.inr ⟨h, ?_, ?_⟩)
    · rw [e, less_irr]
    · rw [e]; simp
end Go.Proofs.YtkdpmbjcdbmffaaDoor.Pl
