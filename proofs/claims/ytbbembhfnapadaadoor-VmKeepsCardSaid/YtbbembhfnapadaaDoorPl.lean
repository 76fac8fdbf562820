/- Plain facts on texts as lists of characters (no program): what a range over a text comes by with, the kinds of characters, names, the order of two texts. No condition. -/
import Derived.Lib.RuneCountTail
import Derived.Lib.TrimU
import Derived.Lib.QuoteLoop
import Derived.Laws.Runes
import Derived.Below
import Derived.Lib.TrimUEq
import Derived.Laws.Strings
import Derived.KernelRfl
import Derived.Laws.RangeAny
namespace Go.Proofs.YtbbembhfnapadaaDoor.Pl
open Go

theorem wd_pos (s : ByteArray) (p : Nat) : 1 ≤ (Utf8.decode s p).2 := Lib.width_pos s p
theorem wd_le (s : ByteArray) (p : Nat) (h : p < s.size) : p + (Utf8.decode s p).2 ≤ s.size := by
  rw [Lib.decode_at]
  have := Lib.decodeN_width_le (s.size - p) (s.get! p).toNat (s.get! (p + 1)).toNat (s.get! (p + 2)).toNat (s.get! (p + 3)).toNat (by omega)
  omega

def runesN (s : ByteArray) : Nat → Nat → List Int
  | 0, _ => []
  | k + 1, p => if p < s.size then ((Utf8.decode s p).1 : Int) :: runesN s k (p + (Utf8.decode s p).2) else []
theorem runesN_more (s : ByteArray) (k : Nat) : ∀ (j p : Nat), s.size - p ≤ k → k ≤ j → runesN s j p = runesN s k p := by
  induction k with
  | zero => intro j p h _; cases j with
    | zero => rfl
    | succ j => simp only [runesN]; rw [if_neg (by omega)]
  | succ k ih => intro j p h hj; cases j with
    | zero => omega
    | succ j =>
      simp only [runesN]
      split
      · rw [ih j _ (by have := wd_pos s p; omega) (by omega)]
      · rfl
/-- The characters of s from the place p on, as a range over s comes by with them. -/
def runes (s : ByteArray) (p : Nat) : List Int := runesN s (s.size - p) p
theorem runes_end {s : ByteArray} {p : Nat} (h : ¬ p < s.size) : runes s p = [] := by
  unfold runes; rw [show s.size - p = 0 by omega]; rfl
theorem runes_step {s : ByteArray} {p : Nat} (h : p < s.size) : runes s p = ((Utf8.decode s p).1 : Int) :: runes s (p + (Utf8.decode s p).2) := by
  unfold runes
  obtain ⟨k, hk⟩ : ∃ k, s.size - p = k + 1 := ⟨s.size - p - 1, by omega⟩
  rw [hk]; simp only [runesN]; rw [if_pos h]
  rw [runesN_more s (s.size - (p + (Utf8.decode s p).2)) k _ (Nat.le_refl _) (by have := wd_pos s p; omega)]
theorem runes_tail (s : ByteArray) (a : Nat) : ∀ (k p : Nat), s.size - (a + p) ≤ k → runes (s.extract a s.size) p = runes s (a + p) := by
  intro k
  induction k with
  | zero => intro p h; rw [runes_end (by simp [ByteArray.size_extract]; omega), runes_end (by omega)]
  | succ k ih =>
    intro p h
    by_cases hp : a + p < s.size
    · rw [runes_step hp, runes_step (s := s.extract a s.size) (p := p) (by simp [ByteArray.size_extract]; omega), Lib.tail_decode, ih _ (by have := wd_pos s (a + p); omega), Nat.add_assoc]
    · rw [runes_end (by simp [ByteArray.size_extract]; omega), runes_end hp]

/-! ### the kinds -/
def spans : List (Int × Int) := [(97, 122), (65, 90), (95, 95), (192, 214), (216, 246), (248, 591), (880, 893), (895, 902), (904, 1023), (1024, 1153), (1162, 1327), (19968, 40959), (66560, 66639)]
def letB (r : Int) : Bool := spans.any fun x => decide (x.1 ≤ r) && decide (r ≤ x.2)
def zeros : List Int := [48, 1632, 65296]
/-- the digit 0 of the script of a digit; 0: r is none -/
def zeroI (r : Int) : Int := if 48 ≤ r ∧ r ≤ 57 then 48 else if 1632 ≤ r ∧ r ≤ 1641 then 1632 else if 65296 ≤ r ∧ r ≤ 65305 then 65296 else 0
def digB (r : Int) : Bool := decide (zeroI r ≠ 0)
def blankL : List Int := [32, 9, 10, 13, 160, 12288]
def signL : List Int := [40, 41, 43, 45, 42, 47, 37, 38, 124, 94, 126, 60, 62, 61, 63, 58, 59, 44, 64, 172, 183, 215, 247, 8722, 8743, 8744, 8801, 8810, 8811, 8853]
/-- does r stand in l? -/
def hasB (l : List Int) (r : Int) : Bool := l.contains r
def kindI (r : Int) : Int :=
  if letB r = true then 1 else if digB r = true then 2 else if validRune r = false ∨ r = 65533 then 0
  else if hasB blankL r = true then 3 else if hasB signL r = true then 4 else if 8320 ≤ r ∧ r ≤ 8329 then 5 else 0
def inName (r : Int) : Bool := kindI r == 1 || kindI r == 2 || kindI r == 5
theorem zero_1 {r : Int} (a : 48 ≤ r) (b : r ≤ 57) : zeroI r = 48 := if_pos ⟨a, b⟩
theorem zero_2 {r : Int} (a : 1632 ≤ r) (b : r ≤ 1641) : zeroI r = 1632 := by unfold zeroI; rw [if_neg (by omega), if_pos ⟨a, b⟩]
theorem zero_3 {r : Int} (a : 65296 ≤ r) (b : r ≤ 65305) : zeroI r = 65296 := by unfold zeroI; rw [if_neg (by omega), if_neg (by omega), if_pos ⟨a, b⟩]
theorem zero_0 {r : Int} (a : ¬ (48 ≤ r ∧ r ≤ 57)) (b : ¬ (1632 ≤ r ∧ r ≤ 1641)) (c : ¬ (65296 ≤ r ∧ r ≤ 65305)) : zeroI r = 0 := by unfold zeroI; rw [if_neg a, if_neg b, if_neg c]
def lo (k : Nat) : Int := (spans.getD k (0, 0)).1
def hi (k : Nat) : Int := (spans.getD k (0, 0)).2
theorem let_at {r : Int} {k : Nat} (hk : k < 13) (a : lo k ≤ r) (b : r ≤ hi k) : letB r = true := by
  unfold letB
  rw [List.any_eq_true]
  exact ⟨spans.getD k (0, 0), by rw [List.getD_eq_getElem?_getD, List.getElem?_eq_getElem (show k < spans.length from hk)]; exact List.getElem_mem _, by simp [lo, hi] at a b; simp [a, b]⟩
theorem let_none {r : Int} (h : ∀ k, k < 13 → ¬ (lo k ≤ r ∧ r ≤ hi k)) : letB r = false := by
  unfold letB
  rw [List.any_eq_false]
  intro x hx
  obtain ⟨k, hk, rfl⟩ := List.getElem_of_mem hx
  have := h k hk
  simp only [lo, hi, List.getD_eq_getElem?_getD, List.getElem?_eq_getElem hk, Option.getD_some] at this
  simp only [Bool.and_eq_true, decide_eq_true_eq]
  exact this
theorem lohi_bd (k : Nat) : 0 ≤ lo k ∧ lo k ≤ 66560 ∧ 0 ≤ hi k ∧ hi k ≤ 66639 := by
  by_cases hk : k < 13
  · have : ∀ k : Fin 13, 0 ≤ lo k ∧ lo k ≤ 66560 ∧ 0 ≤ hi k ∧ hi k ≤ 66639 := by decide
    exact this ⟨k, hk⟩
  · have hn : spans.getD k (0, 0) = (0, 0) := by rw [List.getD_eq_getElem?_getD, List.getElem?_eq_none (by simp [spans]; omega)]; rfl
    unfold lo hi; rw [hn]; omega
theorem blanks_are : runes ⟨#[32, 9, 10, 13, 194, 160, 227, 128, 128]⟩ 0 = blankL := by kernel_rfl
theorem signs_are : runes ⟨#[40, 41, 43, 45, 42, 47, 37, 38, 124, 94, 126, 60, 62, 61, 63, 58, 59, 44, 64, 194, 172, 194, 183, 195, 151, 195, 183, 226, 136, 146, 226, 136, 167, 226, 136, 168, 226, 137, 161, 226, 137, 170, 226, 137, 171, 226, 138, 149]⟩ 0 = signL := by kernel_rfl
theorem kind_1 {r : Int} (h : letB r = true) : kindI r = 1 := if_pos h
theorem kind_2 {r : Int} (h : letB r = false) (g : digB r = true) : kindI r = 2 := by unfold kindI; simp [h, g]
theorem kind_0 {r : Int} (h : letB r = false) (g : digB r = false) (v : validRune r = false ∨ r = 65533) : kindI r = 0 := by unfold kindI; simp only [h, g, Bool.false_eq_true, if_false]; rw [if_pos v]
theorem kind_3 {r : Int} (h : letB r = false) (g : digB r = false) (v : validRune r = true) (n : r ≠ 65533) (b : hasB blankL r = true) : kindI r = 3 := by unfold kindI; simp only [h, g, v, n, b, Bool.false_eq_true, Bool.true_eq_false, or_self, if_false, if_true]
theorem kind_4 {r : Int} (h : letB r = false) (g : digB r = false) (v : validRune r = true) (n : r ≠ 65533) (b : hasB blankL r = false) (s : hasB signL r = true) : kindI r = 4 := by unfold kindI; simp only [h, g, v, n, b, s, Bool.false_eq_true, Bool.true_eq_false, or_self, if_false, if_true]
theorem kind_5 {r : Int} (h : letB r = false) (g : digB r = false) (v : validRune r = true) (n : r ≠ 65533) (b : hasB blankL r = false) (s : hasB signL r = false) : kindI r = if 8320 ≤ r ∧ r ≤ 8329 then 5 else 0 := by unfold kindI; simp only [h, g, v, n, b, s, Bool.false_eq_true, Bool.true_eq_false, or_self, if_false]
def letP (r : Int) : Prop := (97 ≤ r ∧ r ≤ 122) ∨ (65 ≤ r ∧ r ≤ 90) ∨ r = 95 ∨ (192 ≤ r ∧ r ≤ 214) ∨ (216 ≤ r ∧ r ≤ 246) ∨ (248 ≤ r ∧ r ≤ 591) ∨ (880 ≤ r ∧ r ≤ 893) ∨ (895 ≤ r ∧ r ≤ 902) ∨ (904 ≤ r ∧ r ≤ 1023) ∨ (1024 ≤ r ∧ r ≤ 1153) ∨ (1162 ≤ r ∧ r ≤ 1327) ∨ (19968 ≤ r ∧ r ≤ 40959) ∨ (66560 ≤ r ∧ r ≤ 66639)
theorem letB_iff (r : Int) : letB r = true ↔ letP r := by
  simp only [letB, spans, List.any_cons, List.any_nil, Bool.or_false, Bool.or_eq_true, Bool.and_eq_true, decide_eq_true_eq, letP]
  omega
theorem letB_t {r : Int} (h : letP r) : letB r = true := (letB_iff r).2 h
theorem letB_f {r : Int} (h : ¬ letP r) : letB r = false := by
  cases e : letB r with
  | false => rfl
  | true => exact absurd ((letB_iff r).1 e) h
theorem zeroI_cases (r : Int) : (digB r = true ∧ 0 ≤ r - zeroI r ∧ r - zeroI r ≤ 9 ∧ 48 ≤ zeroI r ∧ zeroI r ≤ 65296) ∨ (digB r = false ∧ zeroI r = 0) := by
  unfold digB zeroI
  split
  · left; simp; omega
  · split
    · left; simp; omega
    · split
      · left; simp; omega
      · right; simp
/-- the value of a digit; -1: it is none -/
def dval (r : Int) : Int := if digB r = true then r - zeroI r else -1
theorem blank_kind {r : Int} (h : r = 32 ∨ r = 9 ∨ r = 10 ∨ r = 13 ∨ r = 160 ∨ r = 12288) : kindI r = 3 := by
  rcases h with rfl | rfl | rfl | rfl | rfl | rfl <;> decide
theorem index_kind {r : Int} (a : 8320 ≤ r) (b : r ≤ 8329) : kindI r = 5 := by
  rcases (show r = 8320 ∨ r = 8321 ∨ r = 8322 ∨ r = 8323 ∨ r = 8324 ∨ r = 8325 ∨ r = 8326 ∨ r = 8327 ∨ r = 8328 ∨ r = 8329 by omega) with rfl | rfl | rfl | rfl | rfl | rfl | rfl | rfl | rfl | rfl <;> decide
theorem sign_kind {r : Int} (h : hasB signL r = true) : kindI r = 4 := by
  have : ∀ x ∈ signL, kindI x = 4 := by decide
  exact this r (by simpa [hasB] using h)
theorem none_kind {r : Int} (h : letB r = false) (g : digB r = false) (b : ¬ (r = 32 ∨ r = 9 ∨ r = 10 ∨ r = 13 ∨ r = 160 ∨ r = 12288)) (s : hasB signL r = false) (i : ¬ (8320 ≤ r ∧ r ≤ 8329)) : kindI r = 0 := by
  by_cases v : validRune r = false ∨ r = 65533
  · exact kind_0 h g v
  · have v1 : validRune r = true := by cases e : validRune r with | true => rfl | false => exact absurd (.inl e) v
    have b' : hasB blankL r = false := by
      cases e : hasB blankL r with
      | false => rfl
      | true => exfalso; apply b; simp [hasB, blankL] at e; omega
    rw [kind_5 h g v1 (fun e => v (.inr e)) b' s, if_neg i]
theorem decode_int (s : ByteArray) (p : Nat) : (0 : Int) ≤ ((Utf8.decode s p).1 : Int) ∧ ((Utf8.decode s p).1 : Int) ≤ 2147483647 := by have := Lib.rune_le s p; omega
theorem below_iter {B : Nat} {w wr : World} {s : ByteArray} {p : Nat} (h : Go.RowKit.Below B w wr) (hB : B ≤ wr.heap.size) : Go.RowKit.Below B w (wr.iter s p) := h.alloc hB _
end Go.Proofs.YtbbembhfnapadaaDoor.Pl
