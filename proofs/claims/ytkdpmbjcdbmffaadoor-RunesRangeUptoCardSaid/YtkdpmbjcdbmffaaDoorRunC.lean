/- The walks of the order of two texts. -/
import Derived.Test.YtkdpmbjcdbmffaaDoorRunB
namespace Go.Proofs.YtkdpmbjcdbmffaaDoor
open Go.RowKit Pl

/-- block b holds the runes xs -/
def RuneRow (w : World) (b : Nat) (xs : List Int) : Prop := ∀ i, i < xs.length → w.cell? ⟨b, i, none⟩ = some (.int .i32 (ix xs i))

theorem isnan_calls (r : Int) (w : World) :
    Calls Tryd.prog 48 #[.int .i32 r] w fun e w' => e = .returned (.bool false) ∧ w = w' := by
  go_enter Tryd.func48, Tryd.ntmps48
  go_wp2
  go_ret
  exact ⟨by simp, rfl⟩
theorem cmp_calls (a b : Int) (w : World) :
    Calls Tryd.prog 41 #[.int .i32 a, .int .i32 b] w fun e w' => e = .returned (.int .i64 (cmpI a b)) ∧ w = w' := by
  go_enter Tryd.func41, Tryd.ntmps41
  go_wp2_with (go_at_call 48; refine (isnan_calls _ _).mono ?_; rintro e w' ⟨rfl, rfl⟩)
  all_goals go_ret
  · have h : a < b := by assumption
    exact ⟨by rw [cmpI_lt h]; rfl, rfl⟩
  · have h : b < a := by assumption
    exact ⟨by rw [cmpI_gt h]; rfl, rfl⟩
  · exact ⟨by rw [cmpI_eq (by omega) (by omega)]; rfl, rfl⟩

set_option maxHeartbeats 1000000 in
theorem scompare_calls (xs ys : List Int) (b1 b2 c1 c2 : Nat) (w : World) (h1 : RuneRow w b1 xs) (h2 : RuneRow w b2 ys) (l1 : xs.length ≤ maxLen) (l2 : ys.length ≤ maxLen) :
    Calls Tryd.prog 36 #[.slice (some ⟨b1, 0, none⟩) xs.length c1, .slice (some ⟨b2, 0, none⟩) ys.length c2] w fun e w' => e = .returned (.int .i64 (cmpL xs ys)) ∧ w = w' := by
  unfold maxLen at l1 l2
  have H1 := Lib.hid h1; clear h1
  have H2 := Lib.hid h2; clear h2
  go_enter Tryd.func36, Tryd.ntmps36
  go_wp2
  go_loop [5, 6, 7, 8, 11] (fun _ _ _ _ i => ∃ k : Nat, k ≤ xs.length ∧ i = .int .i64 k ∧ (k ≤ ys.length) ∧ cmpL (xs.drop k) (ys.drop k) = cmpL xs ys) (fun _ _ _ _ i => xs.length - (intOf i).toNat)
  case atStart => exact ⟨0, by omega, rfl, by omega, rfl⟩
  case round =>
    obtain ⟨k, hk, rfl, hk2, hc⟩ := hrel
    have Hc := Lib.hid hc; clear hc
    by_cases hx : k < xs.length
    · have hcx := H1.out k hx
      by_cases hy : k < ys.length
      · have hcy := H2.out k hy
        go_wp2_with fail
        refine (cmp_calls _ _ w).mono ?_
        rintro e w' ⟨rfl, rfl⟩
        have hst := cmpL_step hx hy
        have Hst := Lib.hid hst; clear hst
        by_cases ha : ix xs k < ix ys k
        · rw [cmpI_lt ha]
          have Ha := Lib.hid ha; clear ha
          go_wp2_with fail
          go_ret
          exact ⟨by rw [← Hc.out, Hst.out, if_pos Ha.out]; rfl, rfl⟩
        · by_cases hb : ix ys k < ix xs k
          · rw [cmpI_gt hb]
            have Ha := Lib.hid ha; clear ha
            have Hb := Lib.hid hb; clear hb
            go_wp2_with fail
            go_ret
            exact ⟨by rw [← Hc.out, Hst.out, if_neg (Int.not_lt.2 Ha.out), if_pos Hb.out]; rfl, rfl⟩
          · rw [cmpI_eq ha hb]
            have Ha := Lib.hid ha; clear ha
            have Hb := Lib.hid hb; clear hb
            go_wp2_with fail
            refine ⟨⟨k + 1, by omega, by go_num, by omega, ?_⟩, by simp [intOf]; omega⟩
            rw [← Hc.out, Hst.out, if_neg (Int.not_lt.2 Ha.out), if_neg (Int.not_lt.2 Hb.out)]
      · go_wp2_with fail
        go_ret
        exact ⟨by rw [← Hc.out, cmpL_right hx (by omega)]; rfl, rfl⟩
    · go_wp2_with fail
      all_goals go_ret
      · exact ⟨by rw [← Hc.out, cmpL_left (by omega) (by omega)]; rfl, rfl⟩
      · exact ⟨by rw [← Hc.out, cmpL_ends (by omega) (by omega)]; rfl, rfl⟩

theorem zeroRow (w : World) (t e : TypeId) (s : ByteArray) :
    RuneRow (w.alloc (.cells (((runes s 0).map fun r => Value.int .i32 r).toArray ++ Array.replicate t (.int .i32 0)) e)) w.heap.size (runes s 0) := by
  intro i hi
  rw [cell_of_row _ w.heap.size i _ e (0, 0) (heap_alloc_new w _)]
  rw [Array.getElem?_append_left (by simpa using hi)]
  simp [ix, hi]
theorem RuneRow.below {w w' : World} {b : Nat} {xs : List Int} (h : RuneRow w b xs) (hb : Below w.heap.size w w') : RuneRow w' b xs := by
  intro i hi
  have hc := h i hi
  exact (hb.cell (World.block_lt_of_cell? w _ hc)).trans hc

/-- '[]rune(s)' -/
theorem run_torunes (w : World) (s : ByteArray) (hs : s.size ≤ 70368744177664) :
    ∃ c W, (convert 9 37 (.string s)).run Tryd.prog w = .ok (.slice (some ⟨w.heap.size, 0, none⟩) (runes s 0).length c) W ∧ RuneRow W w.heap.size (runes s 0) ∧ Below w.heap.size w W := by
  have hl := runes_length s 0
  have h := run_runes_of_string (P := Tryd.prog) w 9 37 21 s Tryd.underlying9 Tryd.underlying37 Tryd.underlying21 (by rw [runesFrom_all]; simp; omega)
  rw [runesFrom_all] at h
  refine ⟨_, _, h.trans (by simp; exact ⟨rfl, rfl⟩), ?_, ?_⟩
  · exact zeroRow w.drew _ _ s
  · exact (Below.refl _ _).drew.alloc (Nat.le_refl _) _

set_option maxHeartbeats 1000000 in
theorem order_calls (s t : ByteArray) (hs : s.size ≤ 70368744177664) (ht : t.size ≤ 70368744177664) (w : World) :
    Calls Tryd.prog 15 #[.string s, .string t] w fun e w' => e = .returned (.int .i64 (cmpL (runes s 0) (runes t 0))) ∧ Below w.heap.size w w' := by
  obtain ⟨c1, W1, hc1, hr1, hb1⟩ := run_torunes w s hs
  obtain ⟨c2, W2, hc2, hr2, hb2⟩ := run_torunes W1 t ht
  have hl := runes_length s 0
  have hl2 := runes_length t 0
  go_enter Tryd.func15, Tryd.ntmps15
  go_wp2_with fail
  refine (scompare_calls _ _ _ _ _ _ W2 (hr1.below hb2) hr2 (by unfold maxLen; omega) (by unfold maxLen; omega)).mono ?_
  rintro e w' ⟨rfl, rfl⟩
  go_wp2_with fail
  go_ret
  exact ⟨rfl, hb1.trans (hb2.mono hb1.size)⟩
end Go.Proofs.YtkdpmbjcdbmffaaDoor
