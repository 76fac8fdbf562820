/- The walks of the two Columns. -/
import Derived.Test.YtkdpmbjcdbmffaaDoorRunJ
namespace Go.Proofs.YtkdpmbjcdbmffaaDoor
open Go.RowKit Pl

def byt (s : ByteArray) (i : Nat) : Nat := (s.data.toList.getD i 0).toNat
/-- The line of a place, and where it begins. -/
def lineN (s : ByteArray) : Nat → Nat
  | 0 => 1
  | i + 1 => if byt s i = 10 then lineN s i + 1 else lineN s i
def fromN (s : ByteArray) : Nat → Nat
  | 0 => 0
  | i + 1 => if byt s i = 10 then i + 1 else fromN s i
theorem from_le (s : ByteArray) : ∀ i, fromN s i ≤ i
  | 0 => Nat.le_refl _
  | i + 1 => by
    have := from_le s i
    unfold fromN
    split <;> omega
theorem line_le (s : ByteArray) : ∀ i, lineN s i ≤ i + 1
  | 0 => Nat.le_refl _
  | i + 1 => by
    have := line_le s i
    unfold lineN
    split <;> omega
theorem line_nl {s : ByteArray} {i : Nat} (h : byt s i = 10) : lineN s (i + 1) = lineN s i + 1 := if_pos h
theorem line_no {s : ByteArray} {i : Nat} (h : byt s i ≠ 10) : lineN s (i + 1) = lineN s i := if_neg h
theorem from_nl {s : ByteArray} {i : Nat} (h : byt s i = 10) : fromN s (i + 1) = i + 1 := if_pos h
theorem from_no {s : ByteArray} {i : Nat} (h : byt s i ≠ 10) : fromN s (i + 1) = fromN s i := if_neg h
set_option maxHeartbeats 400000 in
theorem refcolumn_calls (s : ByteArray) (p : Nat) (hs : s.size ≤ maxLen) (hp : p ≤ s.size) (hs2 : s.size < 9223372036854775000) (w : World) :
    Calls Tryd.prog 24 #[.string s, .int .i64 p] w fun e w' => e = .returned (.tuple #[.int .i64 (lineN s p), .int .i64 (((runes (s.extract (fromN s p) p) 0).length + 1 : Nat) : Int), .int .i64 0]) ∧ Below w.heap.size w w' := by
  have b0 : decide ((p : Int) < 0) = false := decide_eq_false (by omega)
  have b1 : decide ((s.size : Int) < (p : Int)) = false := decide_eq_false (by omega)
  go_enter Tryd.func24, Tryd.ntmps24
  go_wp2_with fail
  go_loopw [4, 7, 8] (fun v4 v7 v8 w' => ∃ i : Nat, v8 = .int .i64 i ∧ i ≤ p ∧ v4 = .int .i64 (lineN s i) ∧ v7 = .int .i64 (fromN s i) ∧ w = w') (fun _ _ v8 _ => p - (intOf v8).toNat)
  case atStart => exact ⟨0, rfl, by omega, rfl, rfl, rfl⟩
  case round =>
    obtain ⟨i, rfl, hi, rfl, rfl, rfl⟩ := hrel
    have hll := line_le s i
    have hfl := from_le s i
    by_cases h1 : i < p
    · have b2 : decide ((i : Int) < (p : Int)) = true := decide_eq_true (by omega)
      have p1 : ((i : Int) < (s.size : Int)) = True := eq_true (by omega)
      have hl : i < s.data.toList.length := by rw [len_eq]; omega
      have hby : ((s[i]'(by omega)).toNat) = byt s i := by
        unfold byt
        rw [List.getD_eq_getElem?_getD, List.getElem?_eq_getElem hl]
        rfl
      by_cases h10 : byt s i = 10
      · have l1 := Lib.hid (line_nl h10)
        have f1 := Lib.hid (from_nl h10)
        go_wp2_with fail
        exact ⟨⟨i + 1, by go_num, by omega, by rw [l1.out]; go_num, by rw [f1.out]; go_num, by first | trivial | rfl⟩, by simp [intOf]; omega⟩
      · have l1 := Lib.hid (line_no h10)
        have f1 := Lib.hid (from_no h10)
        have hne : ((byt s i : Int) == 10) = false := by simp; omega
        go_wp2_with fail
        exact ⟨⟨i + 1, by go_num, by omega, by rw [l1.out], by rw [f1.out], by first | trivial | rfl⟩, by simp [intOf]; omega⟩
    · have hip : i = p := by omega
      subst hip
      have b2 : decide ((i : Int) < (i : Int)) = false := decide_eq_false (by omega)
      have q1 : ((fromN s i : Int) ≤ (i : Int)) = True := eq_true (by omega)
      have q2 : ((i : Int) ≤ (s.size : Int)) = True := eq_true (by omega)
      clear h1
      go_wp2_with fail
      have ht : Hid ((s.extract (fromN s i) i).size ≤ s.size) := Lib.hid (by rw [ByteArray.size_extract]; omega)
      generalize htt : s.extract (fromN s i) i = t at *
      have Htt := Lib.hid htt; clear htt
      go_loopw [5] (fun v5 w' => ∃ q k : Nat, q ≤ t.size ∧ v5 = .int .i64 ((k + 1 : Nat) : Int) ∧ Hid (k + (runes t q).length = (runes t 0).length) ∧ w' = w.iter t q) (fun _ w' => t.size - w'.iterPos w.heap.size)
      case atStart => exact ⟨0, 0, by omega, rfl, Lib.hid (by omega), rfl⟩
      case round =>
        obtain ⟨q, k, hq, rfl, Hc, rfl⟩ := hrel
        have hkl : k ≤ s.size := by
          have h1 := Hc.out
          have h2 := runes_length t 0
          have h3 := ht.out
          omega
        by_cases hlt : q < t.size
        · have hnx : ∀ ty, (Instr.next (.pointer (some ⟨w.heap.size, 0, none⟩)) true ty).run Tryd.prog (w.iter t q) = _ := fun ty => run_next_any w t q ty hlt
          have hst := Lib.hid (runes_step hlt)
          have hwd := wd_pos t q
          have hwl := wd_le t q hlt
          go_wp2_with fail
          refine ⟨⟨q + (Utf8.decode t q).2, k + 1, by omega, by go_num, Lib.hid (by rw [← Hc.out, hst.out, List.length_cons]; omega), rfl⟩, ?_⟩
          simp
          omega
        · have hnx : ∀ ty, (Instr.next (.pointer (some ⟨w.heap.size, 0, none⟩)) true ty).run Tryd.prog (w.iter t q) = _ := fun ty => run_next_end w t q ty hlt
          have hk : (runes t 0).length = k := by rw [← Hc.out, runes_end hlt]; simp
          have Hk := Lib.hid hk; clear hk
          go_wp2_with fail
          go_ret3
          exact ⟨by rw [Htt.out, Hk.out]; rfl, (Below.refl _ _).alloc (Nat.le_refl _) _⟩
end Go.Proofs.YtkdpmbjcdbmffaaDoor
