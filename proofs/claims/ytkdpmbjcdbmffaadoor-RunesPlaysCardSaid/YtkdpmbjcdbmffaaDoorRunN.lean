/- The walk of RunesPlays. -/
import Derived.Test.YtkdpmbjcdbmffaaDoorRunM
import Derived.Test.YtkdpmbjcdbmffaaDoorRunD
namespace Go.Proofs.YtkdpmbjcdbmffaaDoor
open Go.RowKit Pl

theorem same_below {w w' : World} (h : w = w') : Below w.heap.size w w' := h ▸ Below.refl _ _
theorem spans_same (s : ByteArray) (a : Int) (hs : s.size ≤ maxLen) : ∃ c g : Int,
    (∀ w, Tabs w → UTabs w → Calls Tryd.prog 18 #[.string s, .int .i64 a] w fun e w' => e = .returned (.tuple #[.int .i64 c, .int .i64 g]) ∧ Below w.heap.size w w') ∧
    (∀ w, Calls Tryd.prog 22 #[.string s, .int .i64 a] w fun e w' => e = .returned (.tuple #[.int .i64 c, .int .i64 g]) ∧ Below w.heap.size w w') := by
  by_cases ho : outB s a
  · exact ⟨0, 2, fun w _ _ => (runes_Span_out s a ho w).mono (fun e w' h => ⟨h.1, same_below h.2⟩), fun w => (ref_Span_out s a ho w).mono (fun e w' h => ⟨h.1, same_below h.2⟩)⟩
  · have h1 : 0 ≤ a ∧ a ≤ s.size := by unfold outB at ho; omega
    obtain ⟨p, rfl⟩ := Int.eq_ofNat_of_zero_le h1.1
    have hp : p ≤ s.size := by omega
    rcases Bool.eq_false_or_eq_true (letAt s p) with hl | hl
    · exact ⟨endOf s p, 0, fun w hT hU => span_yes s p hs hp hl w hT hU, fun w => refspan_yes s p hs hp hl w⟩
    · exact ⟨0, 11, fun w hT hU => span_no s p hp hl w hT hU, fun w => refspan_no s p hs hp hl w⟩
theorem numVal_form (r : Int × Nat × Bool) : ∃ n i g : Int, numVal r = .tuple #[.int .u64 n, .int .i64 i, .int .i64 g] := by
  unfold numVal
  split
  · exact ⟨_, _, _, rfl⟩
  · exact ⟨_, _, _, rfl⟩
theorem numbers_same (s : ByteArray) (a : Int) (hs : s.size ≤ maxLen) : ∃ n i g : Int,
    (∀ w, Tabs w → UTabs w → Calls Tryd.prog 19 #[.string s, .int .i64 a] w fun e w' => e = .returned (.tuple #[.int .u64 n, .int .i64 i, .int .i64 g]) ∧ Below w.heap.size w w') ∧
    (∀ w, Calls Tryd.prog 23 #[.string s, .int .i64 a] w fun e w' => e = .returned (.tuple #[.int .u64 n, .int .i64 i, .int .i64 g]) ∧ Below w.heap.size w w') := by
  by_cases ho : outB s a
  · exact ⟨0, 0, 2, fun w _ _ => (runes_Number_out s a ho w).mono (fun e w' h => ⟨h.1, same_below h.2⟩), fun w => (ref_Number_out s a ho w).mono (fun e w' h => ⟨h.1, same_below h.2⟩)⟩
  · have h1 : 0 ≤ a ∧ a ≤ s.size := by unfold outB at ho; omega
    obtain ⟨p, rfl⟩ := Int.eq_ofNat_of_zero_le h1.1
    have hp : p ≤ s.size := by omega
    by_cases hz : zeroAt s p = 0
    · exact ⟨0, 0, 11, fun w hT hU => number_no s p hp hz w hT hU, fun w => refnumber_no s p hs hp hz w⟩
    · obtain ⟨n, i, g, e⟩ := numVal_form (numV s (zeroAt s p) p 0 false)
      exact ⟨n, i, g, fun w hT hU => e ▸ number_yes s p hs hp hz w hT hU, fun w => e ▸ refnumber_yes s p hs hp hz w⟩
theorem columns_same (s : ByteArray) (a : Int) (hs : s.size ≤ 140737488351232) : ∃ n i g : Int,
    (∀ w, Calls Tryd.prog 20 #[.string s, .int .i64 a] w fun e w' => e = .returned (.tuple #[.int .i64 n, .int .i64 i, .int .i64 g]) ∧ Below w.heap.size w w') ∧
    (∀ w, Calls Tryd.prog 24 #[.string s, .int .i64 a] w fun e w' => e = .returned (.tuple #[.int .i64 n, .int .i64 i, .int .i64 g]) ∧ Below w.heap.size w w') := by
  by_cases ho : outB s a
  · exact ⟨0, 0, 2, fun w => (runes_Column_out s a ho w).mono (fun e w' h => ⟨h.1, same_below h.2⟩), fun w => (ref_Column_out s a ho w).mono (fun e w' h => ⟨h.1, same_below h.2⟩)⟩
  · have h1 : 0 ≤ a ∧ a ≤ s.size := by unfold outB at ho; omega
    obtain ⟨p, rfl⟩ := Int.eq_ofNat_of_zero_le h1.1
    have hp : p ≤ s.size := by omega
    exact ⟨_, _, _, fun w => column_calls s p hs hp w, fun w => refcolumn_calls s p (by unfold maxLen; omega) hp (by omega) w⟩
theorem chkV_form (r : Option Nat) : ∃ n g : Int, chkV r = .tuple #[.int .i64 n, .int .i64 g] := by
  cases r with
  | none => exact ⟨_, _, rfl⟩
  | some p => exact ⟨_, _, rfl⟩

set_option maxRecDepth 100000 in
set_option maxHeartbeats 1000000 in
theorem RunesPlays_walk (s : ByteArray) (a : Int) (hs : s.size ≤ 140737488351232) (_ : -9223372036854775808 ≤ a) (_ : a ≤ 9223372036854775807) (w : World) (hT : Tabs w) (hU : UTabs w) :
    Calls Tryd.prog 9 #[.string s, .int .i64 a] w fun e w' => e = .returned (.bool true) ∧ Below w.heap.size w w' := by
  have hm : s.size ≤ maxLen := by unfold maxLen; omega
  obtain ⟨c1, g1, hc⟩ := chkV_form (firstBad s 0)
  obtain ⟨c2, g2, sa, sb⟩ := spans_same s a hm
  obtain ⟨n3, i3, g3, na, nb⟩ := numbers_same s a hm
  obtain ⟨n4, i4, g4, ca, cb⟩ := columns_same s a hs
  have ka := fun w => check_calls s hm w
  have kb := fun w => refcheck_calls s hm w
  rw [hc] at ka kb
  have HC := Lib.hid hc; clear hc
  have SA := Lib.hid sa; have SB := Lib.hid sb; have NA := Lib.hid na; have NB := Lib.hid nb; have CA := Lib.hid ca; have CB := Lib.hid cb; have KA := Lib.hid ka; have KB := Lib.hid kb
  clear sa sb na nb ca cb ka kb
  go_enter Tryd.func9, Tryd.ntmps9
  go_wp2_with fail
  refine (awake_calls w hT).mono ?_
  rintro e w1 ⟨rfl, b1⟩
  go_wp2_with fail
  refine (KA.out w1).mono ?_
  rintro e w2 ⟨rfl, b2⟩
  have b2 := b1.trans (below_lower b2 b1.size)
  go_wp2_with fail
  refine (KB.out w2).mono ?_
  rintro e w3 ⟨rfl, b3⟩
  have b3 := b2.trans (below_lower b3 b2.size)
  go_wp2_with fail
  refine (SA.out w3 (hT.below b3) (utabs_below hU b3)).mono ?_
  rintro e w4 ⟨rfl, b4⟩
  have b4 := b3.trans (below_lower b4 b3.size)
  go_wp2_with fail
  refine (SB.out w4).mono ?_
  rintro e w5 ⟨rfl, b5⟩
  have b5 := b4.trans (below_lower b5 b4.size)
  go_wp2_with fail
  refine (NA.out w5 (hT.below b5) (utabs_below hU b5)).mono ?_
  rintro e w6 ⟨rfl, b6⟩
  have b6 := b5.trans (below_lower b6 b5.size)
  go_wp2_with fail
  refine (NB.out w6).mono ?_
  rintro e w7 ⟨rfl, b7⟩
  have b7 := b6.trans (below_lower b7 b6.size)
  go_wp2_with fail
  refine (CA.out w7).mono ?_
  rintro e w8 ⟨rfl, b8⟩
  have b8 := b7.trans (below_lower b8 b7.size)
  go_wp2_with fail
  refine (CB.out w8).mono ?_
  rintro e w9 ⟨rfl, b9⟩
  have b9 := b8.trans (below_lower b9 b8.size)
  go_wp2_with fail
  go_ret
  exact ⟨by simp, b9⟩
end Go.Proofs.YtkdpmbjcdbmffaaDoor
