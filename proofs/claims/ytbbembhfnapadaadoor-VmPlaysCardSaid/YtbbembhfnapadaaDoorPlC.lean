/- Plain facts on texts (no program): the width and the character at a place, by definition. No condition. -/
import Derived.Test.YtbbembhfnapadaaDoorPlB
namespace Go.Proofs.YtbbembhfnapadaaDoor.Pl
open Go

/-- the width of the character at p; 0: a bad byte, or the end -/
def wid (s : ByteArray) (p : Nat) : Nat := if p < s.size ∧ badB s p = false then (Utf8.decode s p).2 else 0
/-- the character at p; -1: a bad byte, or the end -/
def runeAt (s : ByteArray) (p : Nat) : Int := if p < s.size ∧ badB s p = false then ((Utf8.decode s p).1 : Int) else -1
theorem wid_bad {s : ByteArray} {p : Nat} (h : badB s p = true) : wid s p = 0 := by unfold wid; simp [h]
theorem wid_end {s : ByteArray} {p : Nat} (h : ¬ p < s.size) : wid s p = 0 := by unfold wid; simp [h]
theorem wid_good {s : ByteArray} {p : Nat} (h : p < s.size) (g : badB s p = false) : wid s p = (Utf8.decode s p).2 := by unfold wid; simp [h, g]
theorem runeAt_bad {s : ByteArray} {p : Nat} (h : badB s p = true) : runeAt s p = -1 := by unfold runeAt; simp [h]
theorem runeAt_end {s : ByteArray} {p : Nat} (h : ¬ p < s.size) : runeAt s p = -1 := by unfold runeAt; simp [h]
theorem runeAt_good {s : ByteArray} {p : Nat} (h : p < s.size) (g : badB s p = false) : runeAt s p = ((Utf8.decode s p).1 : Int) := by unfold runeAt; simp [h, g]
theorem runeAt_bd (s : ByteArray) (p : Nat) : -1 ≤ runeAt s p ∧ runeAt s p ≤ 1114111 := by
  unfold runeAt
  split
  · have := Lib.rune_le s p; omega
  · omega
theorem wid_bd (s : ByteArray) (p : Nat) : wid s p ≤ s.size - p := by
  unfold wid
  split
  · rename_i h; have := wd_le s p h.1; omega
  · omega
theorem not_bad {s : ByteArray} {p : Nat} (h : (Utf8.decode s p).1 ≠ 65533) : badB s p = false := by unfold badB; simp [h]
/-- fewer than three bytes are left -/
theorem bad_short (s : ByteArray) (p : Nat) (h : (Utf8.decode s p).1 = 65533) (hs : s.size - p < 3) : badB s p = true := by
  have := bad_eq s p h
  rw [Lib.tail_size, decide_eq_false (by omega), Bool.false_and] at this
  cases e : badB s p with
  | true => rfl
  | false => rw [e] at this; cases this
theorem bad_long (s : ByteArray) (p : Nat) (h : (Utf8.decode s p).1 = 65533) (hs : 3 ≤ s.size - p) : ((s.extract p (p + 3)).toList == [239, 191, 189]) = !badB s p := by
  have := bad_eq s p h
  rw [Lib.tail_size, decide_eq_true hs, Bool.true_and] at this
  rw [← this, ByteArray.toList_eq, ByteArray.toList_eq, Lib.extract_data, Lib.extract_data, Lib.extract_data]
  simp only [List.drop_zero, Nat.sub_zero, Nat.add_sub_cancel_left]
  rw [List.take_take, Nat.min_eq_left hs]
end Go.Proofs.YtbbembhfnapadaaDoor.Pl
