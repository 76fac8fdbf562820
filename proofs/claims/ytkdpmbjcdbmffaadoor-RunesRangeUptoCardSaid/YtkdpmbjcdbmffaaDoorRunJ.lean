/- The walks of the references of Check and Span; the answers at places that are none. -/
import Derived.Test.YtkdpmbjcdbmffaaDoorRunE
import Derived.Test.YtkdpmbjcdbmffaaDoorRunF
import Derived.Test.YtkdpmbjcdbmffaaDoorRunH
import Derived.Test.YtkdpmbjcdbmffaaDoorPlF
namespace Go.Proofs.YtkdpmbjcdbmffaaDoor
open Go.RowKit Pl

theorem below_lower {B C : Nat} {w w' : World} (h : Below B w w') (hc : C ≤ B) : Below C w w' := ⟨h.os, h.tape, h.output, h.size, fun k hk => h.block k (by omega)⟩
theorem kind_m1 : kindI (-1) = 0 := by decide
theorem runeAt_kind (s : ByteArray) (p : Nat) (h : p < s.size) : kindI (runeAt s p) = kindI ((Utf8.decode s p).1 : Int) := by
  rcases Bool.eq_false_or_eq_true (badB s p) with hb | hb
  · rw [runeAt_bad hb, kind_m1]
    have h1 : (Utf8.decode s p).1 = 65533 := by
      unfold badB at hb
      simp only [Bool.and_eq_true, decide_eq_true_eq] at hb
      exact hb.1
    rw [h1]
    decide
  · rw [runeAt_good h hb]
theorem runeAt_let (s : ByteArray) (p : Nat) : (kindI (runeAt s p) == 1) = letAt s p := by
  unfold letAt
  by_cases h : p < s.size
  · rw [runeAt_kind s p h, decide_eq_true h, Bool.true_and]
  · rw [runeAt_end h, decide_eq_false h, Bool.false_and, kind_m1]; rfl
theorem runeAt_name (s : ByteArray) (p : Nat) (h : p < s.size) : inName (runeAt s p) = inName ((Utf8.decode s p).1 : Int) := by
  unfold inName
  rw [runeAt_kind s p h]
theorem name_wid {s : ByteArray} {p : Nat} (h : p < s.size) (hn : inName ((Utf8.decode s p).1 : Int) = true) : wid s p = (Utf8.decode s p).2 := by
  rcases Bool.eq_false_or_eq_true (badB s p) with hb | hb
  · rw [bad_kind hb] at hn; cases hn
  · exact wid_good h hb

set_option maxHeartbeats 400000 in
theorem refcheck_calls (s : ByteArray) (hs : s.size ≤ maxLen) (w : World) :
    Calls Tryd.prog 21 #[.string s] w fun e w' => e = .returned (chkV (firstBad s 0)) ∧ Below w.heap.size w w' := by
  have hs' := hs
  unfold maxLen at hs'
  have HS := Lib.hid hs; clear hs
  go_enter Tryd.func21, Tryd.ntmps21
  go_wp2_with fail
  go_loopw [4, 5] (fun v4 _ w' => ∃ p : Nat, v4 = .int .i64 p ∧ p ≤ s.size ∧ Hid (firstBad s p = firstBad s 0) ∧ Below w.heap.size w w') (fun v4 _ _ => s.size - (intOf v4).toNat)
  case atStart => exact ⟨0, rfl, by omega, Lib.hid rfl, Below.refl _ _⟩
  case round =>
    obtain ⟨p, rfl, hp, H, hb⟩ := hrel
    by_cases h1 : p < s.size
    · have b1 : decide ((p : Int) < (s.size : Int)) = true := decide_eq_true (by omega)
      have hst := Lib.hid (firstBad_step h1)
      go_wp2_with fail
      refine (width_calls s p HS.out (by have := HS.out; unfold maxLen at this ⊢; omega) wr).mono ?_
      rintro e w1 ⟨rfl, hb1⟩
      have hbb := hb.trans (below_lower hb1 hb.size)
      rcases Bool.eq_false_or_eq_true (badB s p) with hbad | hbad
      · rw [wid_bad hbad]
        have e1 : firstBad s 0 = some p := by rw [← H.out, hst.out, if_pos hbad]
        have E1 := Lib.hid e1; clear e1
        have Hb := Lib.hid hbad; clear hbad
        go_wp2_with fail
        go_ret2
        exact ⟨by rw [E1.out]; rfl, hbb⟩
      · rw [wid_good h1 hbad]
        have e1 : firstBad s (p + (Utf8.decode s p).2) = firstBad s 0 := by rw [← H.out, hst.out, if_neg (by rw [hbad]; exact Bool.false_ne_true)]
        have E1 := Lib.hid e1; clear e1
        have hw1 := wd_pos s p
        have hw2 := wd_le s p h1
        have g0 : (((Utf8.decode s p).2 : Int) == 0) = false := by simp; omega
        have Hb := Lib.hid hbad; clear hbad
        go_wp2_with fail
        exact ⟨⟨p + (Utf8.decode s p).2, by go_num, by omega, E1, hbb⟩, by simp [intOf]; omega⟩
    · have b1 : decide ((p : Int) < (s.size : Int)) = false := decide_eq_false (by omega)
      have e1 : firstBad s 0 = none := by rw [← H.out, firstBad_end h1]
      have E1 := Lib.hid e1; clear e1
      go_wp2_with fail
      go_ret2
      exact ⟨by rw [E1.out]; rfl, hb⟩

/-- A place that is none. -/
def outB (s : ByteArray) (a : Int) : Prop := a < 0 ∨ (s.size : Int) < a
theorem runes_Span_out (s : ByteArray) (a : Int) (h : outB s a) (w : World) :
    Calls Tryd.prog 18 #[.string s, .int .i64 a] w fun e w' => e = .returned (.tuple #[.int .i64 0, .int .i64 2]) ∧ w = w' := by
  by_cases h0 : a < 0
  · have b0 : decide (a < 0) = true := decide_eq_true h0
    have H0 := Lib.hid h0; clear h0 h
    go_enter Tryd.func18, Tryd.ntmps18
    go_wp2_with fail
    go_ret2
    exact ⟨rfl, rfl⟩
  · have b0 : decide (a < 0) = false := decide_eq_false h0
    have b1 : decide ((s.size : Int) < a) = true := decide_eq_true (by rcases h with h | h; exact absurd h h0; exact h)
    have H0 := Lib.hid h0; clear h0 h
    go_enter Tryd.func18, Tryd.ntmps18
    go_wp2_with fail
    go_ret2
    exact ⟨rfl, rfl⟩
theorem ref_Span_out (s : ByteArray) (a : Int) (h : outB s a) (w : World) :
    Calls Tryd.prog 22 #[.string s, .int .i64 a] w fun e w' => e = .returned (.tuple #[.int .i64 0, .int .i64 2]) ∧ w = w' := by
  by_cases h0 : a < 0
  · have b0 : decide (a < 0) = true := decide_eq_true h0
    have H0 := Lib.hid h0; clear h0 h
    go_enter Tryd.func22, Tryd.ntmps22
    go_wp2_with fail
    go_ret2
    exact ⟨rfl, rfl⟩
  · have b0 : decide (a < 0) = false := decide_eq_false h0
    have b1 : decide ((s.size : Int) < a) = true := decide_eq_true (by rcases h with h | h; exact absurd h h0; exact h)
    have H0 := Lib.hid h0; clear h0 h
    go_enter Tryd.func22, Tryd.ntmps22
    go_wp2_with fail
    go_ret2
    exact ⟨rfl, rfl⟩
theorem runes_Number_out (s : ByteArray) (a : Int) (h : outB s a) (w : World) :
    Calls Tryd.prog 19 #[.string s, .int .i64 a] w fun e w' => e = .returned (.tuple #[.int .u64 0, .int .i64 0, .int .i64 2]) ∧ w = w' := by
  by_cases h0 : a < 0
  · have b0 : decide (a < 0) = true := decide_eq_true h0
    have H0 := Lib.hid h0; clear h0 h
    go_enter Tryd.func19, Tryd.ntmps19
    go_wp2_with fail
    go_ret3
    exact ⟨rfl, rfl⟩
  · have b0 : decide (a < 0) = false := decide_eq_false h0
    have b1 : decide ((s.size : Int) < a) = true := decide_eq_true (by rcases h with h | h; exact absurd h h0; exact h)
    have H0 := Lib.hid h0; clear h0 h
    go_enter Tryd.func19, Tryd.ntmps19
    go_wp2_with fail
    go_ret3
    exact ⟨rfl, rfl⟩
theorem ref_Number_out (s : ByteArray) (a : Int) (h : outB s a) (w : World) :
    Calls Tryd.prog 23 #[.string s, .int .i64 a] w fun e w' => e = .returned (.tuple #[.int .u64 0, .int .i64 0, .int .i64 2]) ∧ w = w' := by
  by_cases h0 : a < 0
  · have b0 : decide (a < 0) = true := decide_eq_true h0
    have H0 := Lib.hid h0; clear h0 h
    go_enter Tryd.func23, Tryd.ntmps23
    go_wp2_with fail
    go_ret3
    exact ⟨rfl, rfl⟩
  · have b0 : decide (a < 0) = false := decide_eq_false h0
    have b1 : decide ((s.size : Int) < a) = true := decide_eq_true (by rcases h with h | h; exact absurd h h0; exact h)
    have H0 := Lib.hid h0; clear h0 h
    go_enter Tryd.func23, Tryd.ntmps23
    go_wp2_with fail
    go_ret3
    exact ⟨rfl, rfl⟩
theorem runes_Column_out (s : ByteArray) (a : Int) (h : outB s a) (w : World) :
    Calls Tryd.prog 20 #[.string s, .int .i64 a] w fun e w' => e = .returned (.tuple #[.int .i64 0, .int .i64 0, .int .i64 2]) ∧ w = w' := by
  by_cases h0 : a < 0
  · have b0 : decide (a < 0) = true := decide_eq_true h0
    have H0 := Lib.hid h0; clear h0 h
    go_enter Tryd.func20, Tryd.ntmps20
    go_wp2_with fail
    go_ret3
    exact ⟨rfl, rfl⟩
  · have b0 : decide (a < 0) = false := decide_eq_false h0
    have b1 : decide ((s.size : Int) < a) = true := decide_eq_true (by rcases h with h | h; exact absurd h h0; exact h)
    have H0 := Lib.hid h0; clear h0 h
    go_enter Tryd.func20, Tryd.ntmps20
    go_wp2_with fail
    go_ret3
    exact ⟨rfl, rfl⟩
theorem ref_Column_out (s : ByteArray) (a : Int) (h : outB s a) (w : World) :
    Calls Tryd.prog 24 #[.string s, .int .i64 a] w fun e w' => e = .returned (.tuple #[.int .i64 0, .int .i64 0, .int .i64 2]) ∧ w = w' := by
  by_cases h0 : a < 0
  · have b0 : decide (a < 0) = true := decide_eq_true h0
    have H0 := Lib.hid h0; clear h0 h
    go_enter Tryd.func24, Tryd.ntmps24
    go_wp2_with fail
    go_ret3
    exact ⟨rfl, rfl⟩
  · have b0 : decide (a < 0) = false := decide_eq_false h0
    have b1 : decide ((s.size : Int) < a) = true := decide_eq_true (by rcases h with h | h; exact absurd h h0; exact h)
    have H0 := Lib.hid h0; clear h0 h
    go_enter Tryd.func24, Tryd.ntmps24
    go_wp2_with fail
    go_ret3
    exact ⟨rfl, rfl⟩
theorem refspan_no (s : ByteArray) (p : Nat) (hs : s.size ≤ maxLen) (hp : p ≤ s.size) (hl : letAt s p = false) (w : World) :
    Calls Tryd.prog 22 #[.string s, .int .i64 p] w fun e w' => e = .returned (.tuple #[.int .i64 0, .int .i64 11]) ∧ Below w.heap.size w w' := by
  have HS := Lib.hid hs
  unfold maxLen at hs
  have hk := runeAt_let s p
  rw [hl] at hk
  have hbd := runeAt_bd s p
  have b0 : decide ((p : Int) < 0) = false := decide_eq_false (by omega)
  have b1 : decide ((s.size : Int) < (p : Int)) = false := decide_eq_false (by omega)
  go_enter Tryd.func22, Tryd.ntmps22
  go_wp2_with fail
  refine (rune_calls s p HS.out (by unfold maxLen; omega) w).mono ?_
  rintro e w1 ⟨rfl, hb1⟩
  go_wp2_with fail
  refine (refkind_calls (runeAt s p) (by omega) (by omega) w1).mono ?_
  rintro e w2 ⟨rfl, hb2⟩
  have hbb := hb1.trans (below_lower hb2 hb1.size)
  generalize kindI (runeAt s p) = k at *
  have g1 : (k != 1) = true := by rw [bne, hk]; rfl
  have Hk := Lib.hid hk; clear hk
  go_wp2_with fail
  go_ret2
  exact ⟨rfl, hbb⟩
set_option maxHeartbeats 400000 in
theorem refspan_yes (s : ByteArray) (p : Nat) (hs : s.size ≤ maxLen) (hp : p ≤ s.size) (hl : letAt s p = true) (w : World) :
    Calls Tryd.prog 22 #[.string s, .int .i64 p] w fun e w' => e = .returned (.tuple #[.int .i64 (endOf s p), .int .i64 0]) ∧ Below w.heap.size w w' := by
  have HS := Lib.hid hs
  unfold maxLen at hs
  have hk := runeAt_let s p
  rw [hl] at hk
  have hbd := runeAt_bd s p
  have b0 : decide ((p : Int) < 0) = false := decide_eq_false (by omega)
  have b1 : decide ((s.size : Int) < (p : Int)) = false := decide_eq_false (by omega)
  go_enter Tryd.func22, Tryd.ntmps22
  go_wp2_with fail
  refine (rune_calls s p HS.out (by unfold maxLen; omega) w).mono ?_
  rintro e w1 ⟨rfl, hb1⟩
  go_wp2_with fail
  refine (refkind_calls (runeAt s p) (by omega) (by omega) w1).mono ?_
  rintro e w2 ⟨rfl, hb2⟩
  have hb0 := hb1.trans (below_lower hb2 hb1.size)
  generalize kindI (runeAt s p) = k at *
  have g1 : (k != 1) = false := by rw [bne, hk]; rfl
  have Hk := Lib.hid hk; clear hk
  clear hb1 hb2 b0 b1
  go_wp2_with fail
  go_loopw [1] (fun v1 w' => ∃ q : Nat, v1 = .int .i64 q ∧ q ≤ s.size ∧ Hid (endOf s q = endOf s p) ∧ Below w.heap.size w w') (fun v1 _ => s.size - (intOf v1).toNat)
  case atStart => exact ⟨p, rfl, hp, Lib.hid rfl, hb0⟩
  case round =>
    obtain ⟨q, rfl, hq, H, hb⟩ := hrel
    by_cases h1 : q < s.size
    · have b1 : decide ((q : Int) < (s.size : Int)) = true := decide_eq_true (by omega)
      have hst := Lib.hid (endOf_step h1)
      have hnm := Lib.hid (runeAt_name s q h1)
      have hbq := runeAt_bd s q
      go_wp2_with fail
      refine (rune_calls s q HS.out (by unfold maxLen; omega) wr).mono ?_
      rintro e w3 ⟨rfl, hb3⟩
      go_wp2_with fail
      refine (behind_calls (runeAt s q) (by omega) (by omega) w3).mono ?_
      rintro e w4 ⟨rfl, hb4⟩
      have hb5 := hb.trans (below_lower (hb3.trans (below_lower hb4 hb3.size)) hb.size)
      rw [hnm.out]
      rcases Bool.eq_false_or_eq_true (inName ((Utf8.decode s q).1 : Int)) with hn | hn
      · have hwd := Lib.hid (name_wid h1 hn)
        have e1 : endOf s (q + (Utf8.decode s q).2) = endOf s p := by rw [← H.out, hst.out, if_pos hn]
        have E1 := Lib.hid e1; clear e1
        rw [hn]
        have Hn := Lib.hid hn; clear hn
        have hw1 := wd_pos s q
        have hw2 := wd_le s q h1
        go_wp2_with fail
        refine (width_calls s q HS.out (by unfold maxLen; omega) w4).mono ?_
        rintro e w6 ⟨rfl, hb6⟩
        have hb7 := hb5.trans (below_lower hb6 hb5.size)
        rw [hwd.out]
        go_wp2_with fail
        exact ⟨⟨q + (Utf8.decode s q).2, by go_num, by omega, E1, hb7⟩, by simp [intOf]; omega⟩
      · have e1 : endOf s p = q := by rw [← H.out, hst.out, if_neg (by rw [hn]; exact Bool.false_ne_true)]
        have E1 := Lib.hid e1; clear e1
        rw [hn]
        have Hn := Lib.hid hn; clear hn
        go_wp2_with fail
        go_ret2
        exact ⟨by rw [E1.out]; rfl, hb5⟩
    · have b1 : decide ((q : Int) < (s.size : Int)) = false := decide_eq_false (by omega)
      have e1 : endOf s p = q := by rw [← H.out, endOf_end h1]
      have E1 := Lib.hid e1; clear e1
      go_wp2_with fail
      go_ret2
      exact ⟨by rw [E1.out]; rfl, hb⟩
theorem zero_m1 : zeroI (-1) = 0 := by decide
theorem runeAt_zero (s : ByteArray) (p : Nat) (h : p < s.size) : zeroI (runeAt s p) = zeroI ((Utf8.decode s p).1 : Int) := by
  rcases Bool.eq_false_or_eq_true (badB s p) with hb | hb
  · rw [runeAt_bad hb, zero_m1]
    have h1 : (Utf8.decode s p).1 = 65533 := by
      unfold badB at hb
      simp only [Bool.and_eq_true, decide_eq_true_eq] at hb
      exact hb.1
    rw [h1]
    decide
  · rw [runeAt_good h hb]
theorem runeAt_zeroAt (s : ByteArray) (p : Nat) : zeroI (runeAt s p) = zeroAt s p := by
  unfold zeroAt
  by_cases h : p < s.size
  · rw [runeAt_zero s p h, if_pos h]
  · rw [runeAt_end h, if_neg h, zero_m1]
/-- Where a digit of a script stands the character is a good one, and its number is told. -/
theorem digit_good {s : ByteArray} {p : Nat} (h : p < s.size) (hz : zeroI ((Utf8.decode s p).1 : Int) ≠ 0) : wid s p = (Utf8.decode s p).2 ∧ dval (runeAt s p) = ((Utf8.decode s p).1 : Int) - zeroI ((Utf8.decode s p).1 : Int) := by
  rcases Bool.eq_false_or_eq_true (badB s p) with hb | hb
  · have h1 : (Utf8.decode s p).1 = 65533 := by
      unfold badB at hb
      simp only [Bool.and_eq_true, decide_eq_true_eq] at hb
      exact hb.1
    rw [h1] at hz
    exact absurd (by decide) hz
  · refine ⟨wid_good h hb, ?_⟩
    rw [runeAt_good h hb]
    unfold dval digB
    rw [if_pos (decide_eq_true hz)]
theorem refnumber_no (s : ByteArray) (p : Nat) (hs : s.size ≤ maxLen) (hp : p ≤ s.size) (hz : zeroAt s p = 0) (w : World) :
    Calls Tryd.prog 23 #[.string s, .int .i64 p] w fun e w' => e = .returned (.tuple #[.int .u64 0, .int .i64 0, .int .i64 11]) ∧ Below w.heap.size w w' := by
  have HS := Lib.hid hs
  unfold maxLen at hs
  have hk := runeAt_zeroAt s p
  rw [hz] at hk
  have hbd := runeAt_bd s p
  have b0 : decide ((p : Int) < 0) = false := decide_eq_false (by omega)
  have b1 : decide ((s.size : Int) < (p : Int)) = false := decide_eq_false (by omega)
  go_enter Tryd.func23, Tryd.ntmps23
  go_wp2_with fail
  refine (rune_calls s p HS.out (by unfold maxLen; omega) w).mono ?_
  rintro e w1 ⟨rfl, hb1⟩
  go_wp2_with fail
  refine (refdigit_calls (runeAt s p) (by omega) (by omega) w1).mono ?_
  rintro e w2 ⟨rfl, rfl⟩
  rw [hk]
  go_wp2_with fail
  go_ret3
  exact ⟨rfl, hb1⟩
set_option maxHeartbeats 1000000 in
theorem refnumber_yes (s : ByteArray) (p : Nat) (hs : s.size ≤ maxLen) (hp : p ≤ s.size) (hz : zeroAt s p ≠ 0) (w : World) :
    Calls Tryd.prog 23 #[.string s, .int .i64 p] w fun e w' => e = .returned (numVal (numV s (zeroAt s p) p 0 false)) ∧ Below w.heap.size w w' := by
  have HS := Lib.hid hs
  unfold maxLen at hs
  have hk := runeAt_zeroAt s p
  have hbd := runeAt_bd s p
  have b0 : decide ((p : Int) < 0) = false := decide_eq_false (by omega)
  have b1 : decide ((s.size : Int) < (p : Int)) = false := decide_eq_false (by omega)
  generalize zeroAt s p = z at *
  have gz : (z == 0) = false := by simp [hz]
  go_enter Tryd.func23, Tryd.ntmps23
  go_wp2_with fail
  refine (rune_calls s p HS.out (by unfold maxLen; omega) w).mono ?_
  rintro e w1 ⟨rfl, hb1⟩
  go_wp2_with fail
  refine (refdigit_calls (runeAt s p) (by omega) (by omega) w1).mono ?_
  rintro e w2 ⟨rfl, rfl⟩
  rw [hk]
  have HZ := Lib.hid hz; clear hz hk b0 b1
  go_wp2_with fail
  go_loopw [1, 9, 10, 11, 12] (fun v1 v9 v10 _ _ w' => ∃ (q : Nat) (m : Int) (b : Bool), v1 = .int .i64 q ∧ q ≤ s.size ∧ v9 = .int .u64 m ∧ 0 ≤ m ∧ m ≤ 18446744073709551615 ∧ v10 = .bool b ∧ Hid (numV s z q m b = numV s z p 0 false) ∧ Below w.heap.size w w') (fun v1 _ _ _ _ _ => s.size - (intOf v1).toNat)
  case atStart => exact ⟨p, 0, false, rfl, hp, rfl, by omega, by omega, rfl, Lib.hid rfl, hb1⟩
  case round =>
    obtain ⟨q, m, b, rfl, hq, rfl, hm0, hm1, rfl, H, hb⟩ := hrel
    by_cases h1 : q < s.size
    · have b1 : decide ((q : Int) < (s.size : Int)) = true := decide_eq_true (by omega)
      have hst := Lib.hid (fun (n : Int) (l : Bool) => numV_step (z := z) (n := n) (l := l) h1)
      have hzq := Lib.hid (runeAt_zero s q h1)
      have hbq := runeAt_bd s q
      have hw1 := wd_pos s q
      have hw2 := wd_le s q h1
      go_wp2_with fail
      refine (rune_calls s q HS.out (by unfold maxLen; omega) wr).mono ?_
      rintro e w3 ⟨rfl, hb3⟩
      have hb5 := hb.trans (below_lower hb3 hb.size)
      go_wp2_with fail
      refine (refdigit_calls (runeAt s q) (by omega) (by omega) w3).mono ?_
      rintro e w4 ⟨rfl, rfl⟩
      rw [hzq.out]
      by_cases hzx : zeroI ((Utf8.decode s q).1 : Int) = z
      · have hdg := digit_good h1 (by rw [hzx]; exact HZ.out)
        have hdb : 0 ≤ ((Utf8.decode s q).1 : Int) - z ∧ ((Utf8.decode s q).1 : Int) - z ≤ 9 := by
          rcases zeroI_cases ((Utf8.decode s q).1 : Int) with h | h
          · rw [hzx] at h; omega
          · exfalso; apply HZ.out; rw [← hzx]; exact h.2
        rw [hdg.2, hzx]
        have hwd := Lib.hid hdg.1
        have Hst : Hid (∀ (n : Int) (l : Bool), numV s z q n l = numV s z (q + (Utf8.decode s q).2) (w64 (10 * n + (((Utf8.decode s q).1 : Int) - z))) (l || lgB n (((Utf8.decode s q).1 : Int) - z))) := Lib.hid (fun n l => by rw [hst.out n l, if_pos hzx])
        have Hzx := Lib.hid hzx; clear hzx hdg hst hzq
        generalize hxx : ((Utf8.decode s q).1 : Int) - z = x at *
        have Hxx := Lib.hid hxx; clear hxx
        have Hlg := Lib.hid (lgB_eq (n := m) hdb.1 hdb.2)
        by_cases c1 : 1844674407370955161 < m
        · have d1 := decide_eq_true c1
          have hlg : Hid (lgB m x = true) := Lib.hid (by rw [Hlg.out, d1, Bool.true_or])
          go_wp2_with fail
          refine (width_calls s q HS.out (by unfold maxLen; omega) w3).mono ?_
          rintro e w6 ⟨rfl, hb6⟩
          have hb7 := hb5.trans (below_lower hb6 hb5.size)
          rw [hwd.out]
          go_wp2_with fail
          refine ⟨⟨q + (Utf8.decode s q).2, w64 (10 * m + x), true, by go_num, by omega, by first | rw [u64w2] | rw [w64_id (by omega) (by omega)], (w64_bd _).1, (w64_bd _).2, rfl, Lib.hid (by rw [← H.out, Hst.out, hlg.out, Bool.or_true]), hb7⟩, ?_⟩
          simp [intOf]
          omega
        · have d1 := decide_eq_false c1
          by_cases c2 : m = 1844674407370955161
          · have d2 : (m == 1844674407370955161) = true := by simp [c2]
            by_cases c3 : 5 < x
            · have d3 := decide_eq_true c3
              have hlg : Hid (lgB m x = true) := Lib.hid (by rw [Hlg.out, d1, d2, d3]; rfl)
              have C1 := Lib.hid c1; have C2 := Lib.hid c2; have C3 := Lib.hid c3; clear c1 c2 c3
              go_wp2_with fail
              refine (width_calls s q HS.out (by unfold maxLen; omega) w3).mono ?_
              rintro e w6 ⟨rfl, hb6⟩
              have hb7 := hb5.trans (below_lower hb6 hb5.size)
              rw [hwd.out]
              go_wp2_with fail
              refine ⟨⟨q + (Utf8.decode s q).2, w64 (10 * m + x), true, by go_num, by omega, by first | rw [u64w2] | rw [w64_id (by omega) (by omega)], (w64_bd _).1, (w64_bd _).2, rfl, Lib.hid (by rw [← H.out, Hst.out, hlg.out, Bool.or_true]), hb7⟩, ?_⟩
              simp [intOf]
              omega
            · have d3 := decide_eq_false c3
              have hlg : Hid (lgB m x = false) := Lib.hid (by rw [Hlg.out, d1, d2, d3]; rfl)
              have hle : m ≤ 1844674407370955161 := by omega
              have C1 := Lib.hid c1; have C2 := Lib.hid c2; clear c1 c2
              go_wp2_with fail
              refine (width_calls s q HS.out (by unfold maxLen; omega) w3).mono ?_
              rintro e w6 ⟨rfl, hb6⟩
              have hb7 := hb5.trans (below_lower hb6 hb5.size)
              rw [hwd.out]
              go_wp2_with fail
              refine ⟨⟨q + (Utf8.decode s q).2, w64 (10 * m + x), b, by go_num, by omega, by first | rw [u64w2] | rw [w64_id (by omega) (by omega)], (w64_bd _).1, (w64_bd _).2, rfl, Lib.hid (by rw [← H.out, Hst.out, hlg.out, Bool.or_false]), hb7⟩, ?_⟩
              simp [intOf]
              omega
          · have d2 : (m == 1844674407370955161) = false := by simp [c2]
            have hlg : Hid (lgB m x = false) := Lib.hid (by rw [Hlg.out, d1, d2]; rfl)
            have hle : m < 1844674407370955161 := by omega
            have C1 := Lib.hid c1; have C2 := Lib.hid c2; clear c1 c2
            go_wp2_with fail
            refine (width_calls s q HS.out (by unfold maxLen; omega) w3).mono ?_
            rintro e w6 ⟨rfl, hb6⟩
            have hb7 := hb5.trans (below_lower hb6 hb5.size)
            rw [hwd.out]
            go_wp2_with fail
            refine ⟨⟨q + (Utf8.decode s q).2, w64 (10 * m + x), b, by go_num, by omega, by first | rw [u64w2] | rw [w64_id (by omega) (by omega)], (w64_bd _).1, (w64_bd _).2, rfl, Lib.hid (by rw [← H.out, Hst.out, hlg.out, Bool.or_false]), hb7⟩, ?_⟩
            simp [intOf]
            omega
      · have hzx2 : (zeroI ((Utf8.decode s q).1 : Int) != z) = true := by simpa using hzx
        have hr : numV s z p 0 false = (m, q, b) := by rw [← H.out, hst.out, if_neg hzx]
        have Hr := Lib.hid hr; clear hr hzx
        cases b with
        | true =>
          go_wp2_with fail
          go_ret3
          exact ⟨by rw [Hr.out]; rfl, hb5⟩
        | false =>
          go_wp2_with fail
          go_ret3
          exact ⟨by rw [Hr.out]; rfl, hb5⟩
    · have b1 : decide ((q : Int) < (s.size : Int)) = false := decide_eq_false (by omega)
      have hr : numV s z p 0 false = (m, q, b) := by rw [← H.out, numV_end h1]
      have Hr := Lib.hid hr; clear hr
      cases b with
      | true =>
        go_wp2_with fail
        go_ret3
        exact ⟨by rw [Hr.out]; rfl, hb⟩
      | false =>
        go_wp2_with fail
        go_ret3
        exact ⟨by rw [Hr.out]; rfl, hb⟩
end Go.Proofs.YtkdpmbjcdbmffaaDoor
