/- The walks of the reference on names and the order, and of the statement RunesNames. -/
import Derived.Test.YtkdpmbjcdbmffaaDoorRunD
import Derived.Test.YtkdpmbjcdbmffaaDoorPlC
import Derived.Deep.QuietTactic
import Derived.BigQuiet
namespace Go.Proofs.YtkdpmbjcdbmffaaDoor
open Go.RowKit Pl

set_option maxHeartbeats 4000000 in
theorem width_calls (s : ByteArray) (p : Nat) (hs : s.size ≤ maxLen) (hp : p ≤ maxLen) (w : World) :
    Calls Tryd.prog 35 #[.string s, .int .i64 p] w fun e w' => e = .returned (.int .i64 (wid s p)) ∧ Below w.heap.size w w' := by
  unfold maxLen at hs hp
  by_cases hlt : p < s.size
  · have hts : (s.extract p s.size).size = s.size - p := Lib.tail_size s p
    have hd0 : Utf8.decode (s.extract p s.size) 0 = Utf8.decode s p := Lib.tail_decode s p 0
    have hwp := wd_pos s p
    have hwl := wd_le s p hlt
    have Hts := Lib.hid hts
    have Hd0 := Lib.hid hd0; clear hd0
    go_enter Tryd.func35, Tryd.ntmps35
    go_wp2_with fail
    generalize s.extract p s.size = t at *
    clear hts
    go_loopw [5, 6] (fun _ _ w' => ∃ q : Nat, (q = 0 ∨ (q = (Utf8.decode s p).2 ∧ badB s p = false)) ∧ w' = w.iter t q) (fun _ _ w' => t.size - w'.iterPos w.heap.size)
    case atStart => exact ⟨0, .inl rfl, rfl⟩
    case round =>
      obtain ⟨q, hq, rfl⟩ := hrel
      rcases hq with rfl | ⟨rfl, hb⟩
      · have h0 : 0 < t.size := by rw [Hts.out]; omega
        have hnx : ∀ ty, (Instr.next (.pointer (some ⟨w.heap.size, 0, none⟩)) true ty).run Tryd.prog (w.iter t 0) = .ok (.tuple #[.bool true, .int .i64 ((0 : Nat) : Int), .int .i32 (Utf8.decode s p).1]) (w.iter t (0 + (Utf8.decode s p).2)) := fun ty => by
          have := run_next_any (P := Tryd.prog) w t 0 ty h0
          rw [Hd0.out] at this
          exact this
        by_cases hf : (Utf8.decode s p).1 = 65533
        · have hg : (((Utf8.decode s p).1 : Int) == 65533) = true := by rw [hf]; rfl
          by_cases h3 : s.size - p < 3
          · have hbad := bad_short s p hf h3
            have Hb := Lib.hid hbad; clear hbad
            have Hf := Lib.hid hf; clear hf
            have hd3 : ((s.size : Int) - p < 3) := by omega
            go_wp2_with fail
            go_ret
            exact ⟨by rw [wid_bad Hb.out]; rfl, (Below.refl _ _).alloc (Nat.le_refl _) _⟩
          · have hbl := bad_long s p hf (by omega)
            have hd3 : ¬ ((s.size : Int) - p < 3) := by omega
            have g1 : (p : Int) ≤ (p : Int) + 3 := by omega
            have g2 : (p : Int) + 3 ≤ (s.size : Int) := by omega
            have g3 : ((p : Int) + 3).toNat = p + 3 := by omega
            have Hf := Lib.hid hf; clear hf
            rcases Bool.eq_false_or_eq_true (badB s p) with hbad | hbad
            ·
              rw [hbad] at hbl
              have hbl' : ((s.extract p (p + 3)).toList == [239, 191, 189]) = false := hbl
              have Hb := Lib.hid hbad; clear hbad hbl
              go_wp2_with fail
              go_ret
              exact ⟨by rw [wid_bad Hb.out]; rfl, (Below.refl _ _).alloc (Nat.le_refl _) _⟩
            ·
              rw [hbad] at hbl
              have hbl' : ((s.extract p (p + 3)).toList == [239, 191, 189]) = true := hbl
              have Hb := Lib.hid hbad; clear hbad hbl
              go_wp2_with fail
              exact ⟨⟨_, .inr ⟨by omega, Hb.out⟩, rfl⟩, by simp; omega⟩
        · have hg : (((Utf8.decode s p).1 : Int) == 65533) = false := by simp; omega
          have hbad := not_bad hf
          have Hb := Lib.hid hbad; clear hbad
          have Hf := Lib.hid hf; clear hf
          go_wp2_with fail
          exact ⟨⟨_, .inr ⟨by omega, Hb.out⟩, rfl⟩, by simp; omega⟩
      · have Hb := Lib.hid hb; clear hb
        by_cases h2 : (Utf8.decode s p).2 < t.size
        · have hnx : ∀ ty, (Instr.next (.pointer (some ⟨w.heap.size, 0, none⟩)) true ty).run Tryd.prog (w.iter t (Utf8.decode s p).2) = _ := fun ty => run_next_any w t _ ty h2
          go_wp2_with fail
          go_ret
          exact ⟨by rw [wid_good hlt Hb.out]; rfl, (Below.refl _ _).alloc (Nat.le_refl _) _⟩
        · have hnx : ∀ ty, (Instr.next (.pointer (some ⟨w.heap.size, 0, none⟩)) true ty).run Tryd.prog (w.iter t (Utf8.decode s p).2) = _ := fun ty => run_next_end w t _ ty h2
          have he : (s.size : Int) - p = ((Utf8.decode s p).2 : Int) := by rw [Hts.out] at h2; omega
          have He := Lib.hid he; clear he
          go_wp2_with fail
          go_ret
          exact ⟨by rw [wid_good hlt Hb.out, ← He.out]; rfl, (Below.refl _ _).alloc (Nat.le_refl _) _⟩
  · go_enter Tryd.func35, Tryd.ntmps35
    go_wp2_with fail
    go_ret
    exact ⟨by rw [wid_end hlt]; rfl, Below.refl _ _⟩

set_option maxHeartbeats 2000000 in
theorem rune_calls (s : ByteArray) (p : Nat) (hs : s.size ≤ maxLen) (hp : p ≤ maxLen) (w : World) :
    Calls Tryd.prog 33 #[.string s, .int .i64 p] w fun e w' => e = .returned (.int .i32 (runeAt s p)) ∧ Below w.heap.size w w' := by
  have hs' := hs
  have hp' := hp
  unfold maxLen at hs' hp'
  by_cases hg : p < s.size ∧ badB s p = false
  · obtain ⟨hlt, hbad⟩ := hg
    have hw := wid_good hlt hbad
    have Hb := Lib.hid hbad; clear hbad
    have hwp := wd_pos s p
    go_enter Tryd.func33, Tryd.ntmps33
    go_wp2_with fail
    refine (width_calls s p hs hp w).mono ?_
    rintro e w1 ⟨rfl, hb1⟩
    rw [hw]
    clear hw
    have hz : (((Utf8.decode s p).2 : Int) == 0) = false := by simp; omega
    have hts : (s.extract p s.size).size = s.size - p := Lib.tail_size s p
    have hd0 : Utf8.decode (s.extract p s.size) 0 = Utf8.decode s p := Lib.tail_decode s p 0
    have Hts := Lib.hid hts; clear hts
    have Hd0 := Lib.hid hd0; clear hd0
    have hnx : ∀ ty, (Instr.next (.pointer (some ⟨w1.heap.size, 0, none⟩)) true ty).run Tryd.prog (w1.iter (s.extract p s.size) 0) = .ok (.tuple #[.bool true, .int .i64 ((0 : Nat) : Int), .int .i32 (Utf8.decode s p).1]) (w1.iter (s.extract p s.size) (0 + (Utf8.decode s p).2)) := fun ty => by
      have := run_next_any (P := Tryd.prog) w1 (s.extract p s.size) 0 ty (by rw [Hts.out]; omega)
      rw [Hd0.out] at this
      exact this
    go_wp2_with fail
    refine wp_loop_once ?_
    go_wp2_with fail
    go_ret
    exact ⟨by rw [runeAt_good hlt Hb.out]; rfl, hb1.alloc hb1.size _⟩
  · have hr : runeAt s p = -1 := by unfold runeAt; rw [if_neg hg]
    have hw : wid s p = 0 := by unfold wid; rw [if_neg hg]
    have Hr := Lib.hid hr; clear hr hg
    go_enter Tryd.func33, Tryd.ntmps33
    go_wp2_with fail
    refine (width_calls s p hs hp w).mono ?_
    rintro e w1 ⟨rfl, hb1⟩
    rw [hw]
    clear hw
    go_wp2_with fail
    go_ret
    exact ⟨by rw [Hr.out]; rfl, hb1⟩

theorem behind_calls (r : Int) (h0 : -2147483648 ≤ r) (h1 : r ≤ 2147483647) (w : World) :
    Calls Tryd.prog 34 #[.int .i32 r] w fun e w' => e = .returned (.bool (inName r)) ∧ Below w.heap.size w w' := by
  go_enter Tryd.func34, Tryd.ntmps34
  go_wp2_with fail
  refine (refkind_calls r h0 h1 w).mono ?_
  rintro e w' ⟨rfl, hb⟩
  by_cases a : (kindI r == 1) = true
  · go_wp2_with fail
    go_ret
    exact ⟨by unfold inName; rw [a]; rfl, hb⟩
  · have a : (kindI r == 1) = false := by simpa using a
    by_cases b : (kindI r == 2) = true
    · go_wp2_with fail
      go_ret
      exact ⟨by unfold inName; rw [a, b]; rfl, hb⟩
    · have b : (kindI r == 2) = false := by simpa using b
      go_wp2_with fail
      go_ret
      exact ⟨by unfold inName; rw [a, b]; rfl, hb⟩

theorem km1 : kindI (-1) = 0 := by decide
theorem im1 : inName (-1) = false := by decide

set_option maxHeartbeats 4000000 in
theorem refname_calls (s : ByteArray) (hs : s.size ≤ maxLen) (w : World) :
    Calls Tryd.prog 14 #[.string s] w fun e w' => e = .returned (.bool (nameL (runes s 0))) ∧ Below w.heap.size w w' := by
  have hs' := hs
  unfold maxLen at hs'
  go_enter Tryd.func14, Tryd.ntmps14
  go_wp2
  go_loopw [3, 4, 5] (fun n a _ w' => ∃ p k : Nat, p ≤ s.size ∧ k ≤ p ∧ n = .int .i64 k ∧ a = .int .i64 p ∧ Below w.heap.size w w' ∧ nameM k (runes s p) = nameL (runes s 0) ∧ (k = 0 → p = 0)) (fun _ a _ _ => s.size - (intOf a).toNat)
  case atStart => exact ⟨0, 0, by omega, by omega, rfl, rfl, Below.refl _ _, rfl, fun _ => rfl⟩
  case round =>
    obtain ⟨p, k, hp, hk, rfl, rfl, hb, hc, hk0⟩ := hrel
    have Hc := Lib.hid hc; clear hc
    have Hk0 := Lib.hid hk0; clear hk0
    have hpm : p ≤ maxLen := by unfold maxLen; omega
    by_cases hlt : p < s.size
    · have hd := decode_int s p
      have hwp := wd_pos s p
      have hwl := wd_le s p hlt
      go_wp2_with fail
      refine (rune_calls s p hs hpm wr).mono ?_
      rintro e W1 ⟨rfl, hb1⟩
      have hB1 : Below w.heap.size w W1 := hb.trans (hb1.mono hb.size)
      rcases Bool.eq_false_or_eq_true (badB s p) with hbad | hbad
      · rw [runeAt_bad hbad]
        have Hbad := Lib.hid hbad; clear hbad
        have hfin : nameL (runes s 0) = false := by rw [← Hc.out, runes_step hlt, nameM_bad (bad_kind Hbad.out)]
        have Hfin := Lib.hid hfin; clear hfin
        by_cases hk1 : k = 0
        · subst hk1
          go_wp2_with fail
          refine (refkind_calls (-1) (by omega) (by omega) W1).mono ?_
          rintro e W2 ⟨rfl, hb2⟩
          rw [km1]
          go_wp2_with fail
          go_ret
          exact ⟨by rw [Hfin.out]; rfl, hB1.trans (hb2.mono hB1.size)⟩
        · have hkz : ((k : Int) == 0) = false := by simp; omega
          go_wp2_with fail
          refine (behind_calls (-1) (by omega) (by omega) W1).mono ?_
          rintro e W2 ⟨rfl, hb2⟩
          rw [im1]
          go_wp2_with fail
          go_ret
          exact ⟨by rw [Hfin.out]; rfl, hB1.trans (hb2.mono hB1.size)⟩
      · rw [runeAt_good hlt hbad]
        have hw := wid_good hlt hbad
        have Hw := Lib.hid hw; clear hw
        have Hbad := Lib.hid hbad; clear hbad
        by_cases hk1 : k = 0
        · subst hk1
          obtain rfl : p = 0 := Hk0.out rfl
          go_wp2_with fail
          refine (refkind_calls _ (by omega) (by omega) W1).mono ?_
          rintro e W2 ⟨rfl, hb2⟩
          have hB2 : Below w.heap.size w W2 := hB1.trans (hb2.mono hB1.size)
          by_cases h1 : kindI ((Utf8.decode s 0).1 : Int) = 1
          · rw [h1]
            have H1 := Lib.hid h1; clear h1
            go_wp2_with fail
            refine (behind_calls _ (by omega) (by omega) W2).mono ?_
            rintro e W3 ⟨rfl, hb3⟩
            have hin : inName ((Utf8.decode s 0).1 : Int) = true := by unfold inName; rw [H1.out]; rfl
            rw [hin]
            clear hin
            have hB3 : Below w.heap.size w W3 := hB2.trans (hb3.mono hB2.size)
            go_wp2_with fail
            refine (width_calls s 0 hs hpm W3).mono ?_
            rintro e W4 ⟨rfl, hb4⟩
            rw [Hw.out]
            have hB4 : Below w.heap.size w W4 := hB3.trans (hb4.mono hB3.size)
            go_wp2_with fail
            refine ⟨⟨_, 1, hwl, by omega, rfl, by go_num, hB4, ?_, by omega⟩, by simp [intOf]; omega⟩
            rw [← Hc.out, runes_step hlt, nameM_first H1.out]
          · have h1' : (kindI ((Utf8.decode s 0).1 : Int) == 1) = false := by simpa using h1
            have H1 := Lib.hid h1; clear h1
            go_wp2_with fail
            go_ret
            exact ⟨by rw [← Hc.out, runes_step hlt, nameM_head H1.out]; rfl, hB2⟩
        · have hkz : ((k : Int) == 0) = false := by simp; omega
          go_wp2_with fail
          refine (behind_calls _ (by omega) (by omega) W1).mono ?_
          rintro e W3 ⟨rfl, hb3⟩
          have hB3 : Below w.heap.size w W3 := hB1.trans (hb3.mono hB1.size)
          rcases Bool.eq_false_or_eq_true (inName ((Utf8.decode s p).1 : Int)) with hin | hin
          · rw [hin]
            have Hin := Lib.hid hin; clear hin
            go_wp2_with fail
            refine (width_calls s p hs hpm W3).mono ?_
            rintro e W4 ⟨rfl, hb4⟩
            rw [Hw.out]
            have hB4 : Below w.heap.size w W4 := hB3.trans (hb4.mono hB3.size)
            go_wp2_with fail
            refine ⟨⟨p + (Utf8.decode s p).2, k + 1, hwl, by omega, by go_num, by go_num, hB4, ?_, by omega⟩, by simp [intOf]; omega⟩
            rw [← Hc.out, runes_step hlt, nameM_next hk1 Hin.out]
          · rw [hin]
            have Hin := Lib.hid hin; clear hin
            go_wp2_with fail
            go_ret
            exact ⟨by rw [← Hc.out, runes_step hlt, nameM_bad Hin.out]; rfl, hB3⟩
    · go_wp2_with fail
      all_goals go_ret
      all_goals refine ⟨?_, hb⟩
      all_goals rw [← Hc.out, runes_end hlt, nameM_nil]
      all_goals (show Ending.returned (Value.bool _) = Ending.returned (Value.bool _); congr 2; rw [Bool.eq_iff_iff]; simp; omega)

set_option maxHeartbeats 2000000 in
theorem reforder_calls (s t : ByteArray) (hs : s.size ≤ 70368744177664) (ht : t.size ≤ 70368744177664) (w : World) :
    Calls Tryd.prog 16 #[.string s, .string t] w fun e w' => e = .returned (.int .i64 (cmpL (runes s 0) (runes t 0))) ∧ Below w.heap.size w w' := by
  obtain ⟨c1, W1, hc1, hr1, hb1⟩ := run_torunes w s hs
  obtain ⟨c2, W2, hc2, hr2, hb2⟩ := run_torunes W1 t ht
  have hl := runes_length s 0
  have hl2 := runes_length t 0
  have hr1 := hr1.below hb2
  have hB := hb1.trans (hb2.mono hb1.size)
  go_enter Tryd.func16, Tryd.ntmps16
  go_wp2_with fail
  clear hc1 hc2
  have hlx : (runes s 0).length ≤ 70368744177664 := by omega
  have hly : (runes t 0).length ≤ 70368744177664 := by omega
  clear hl hl2 hb1 hb2
  generalize hxs : runes s 0 = xs at *
  generalize hys : runes t 0 = ys at *
  generalize hB1 : w.heap.size = B1 at *
  generalize W1.heap.size = B2 at *
  have Hxs := Lib.hid hxs; clear hxs
  have Hys := Lib.hid hys; clear hys
  have HB1 := Lib.hid hB1; clear hB1
  go_loopw [7] (fun i w' => ∃ k : Nat, k ≤ xs.length ∧ i = .int .i64 k ∧ k ≤ ys.length ∧ cmpL (xs.drop k) (ys.drop k) = cmpL xs ys ∧ Below B1 w w' ∧ RuneRow w' B1 xs ∧ RuneRow w' B2 ys) (fun i _ => xs.length - (intOf i).toNat)
  case atStart => exact ⟨0, by omega, rfl, by omega, rfl, hB, hr1, hr2⟩
  case round =>
    obtain ⟨k, hk, rfl, hk2, hc, hbr, h1, h2⟩ := hrel
    have H1 := Lib.hid h1; clear h1
    have H2 := Lib.hid h2; clear h2
    have Hc := Lib.hid hc; clear hc
    by_cases hx : k < xs.length
    · have hcx := H1.out k hx
      by_cases hy : k < ys.length
      · have hcy := H2.out k hy
        have hst := cmpL_step hx hy
        have Hst := Lib.hid hst; clear hst
        have i0 : (0 : Int) ≤ (k : Int) := by omega
        have i1 : (k : Int) < (xs.length : Int) := by omega
        have i2 : (k : Int) < (ys.length : Int) := by omega
        by_cases ha : ix xs k < ix ys k
        · have Ha := Lib.hid ha
          go_wp2_with fail
          go_quiet (fail)
          go_wp2_with fail
          go_ret
          exact ⟨by rw [Hxs.out, Hys.out, ← Hc.out, Hst.out, if_pos Ha.out]; rfl, by rw [HB1.out]; exact ⟨hbr.os, hbr.tape, hbr.output, hbr.size, hbr.block⟩⟩
        · have Ha : Hid (¬ ix xs k < ix ys k) := Lib.hid ha
          by_cases hb : ix ys k < ix xs k
          · have Hb := Lib.hid hb
            go_wp2_with fail
            go_quiet (fail)
            go_wp2_with fail
            go_quiet (fail)
            go_wp2_with fail
            go_ret
            exact ⟨by rw [Hxs.out, Hys.out, ← Hc.out, Hst.out, if_neg (Int.not_lt.2 Ha.out), if_pos Hb.out]; rfl, by rw [HB1.out]; exact ⟨hbr.os, hbr.tape, hbr.output, hbr.size, hbr.block⟩⟩
          · have Hb : Hid (¬ ix ys k < ix xs k) := Lib.hid hb
            go_wp2_with fail
            go_quiet (fail)
            go_wp2_with fail
            go_quiet (fail)
            go_wp2_with fail
            refine ⟨⟨k + 1, by omega, by go_num, by omega, ?_, ⟨hbr.os, hbr.tape, hbr.output, hbr.size, hbr.block⟩, fun i hi => H1.out i hi, fun i hi => H2.out i hi⟩, by simp [intOf]; omega⟩
            rw [← Hc.out, Hst.out, if_neg (Int.not_lt.2 Ha.out), if_neg (Int.not_lt.2 Hb.out)]
      · go_wp2_with fail
        all_goals go_ret
        all_goals first
          | exact ⟨by rw [Hxs.out, Hys.out, ← Hc.out, cmpL_right hx (by omega)]; rfl, by rw [HB1.out]; exact ⟨hbr.os, hbr.tape, hbr.output, hbr.size, hbr.block⟩⟩
    · go_wp2_with fail
      all_goals go_ret
      all_goals first
        | exact ⟨by rw [Hxs.out, Hys.out, ← Hc.out, cmpL_left (by omega) (by omega)]; rfl, by rw [HB1.out]; exact ⟨hbr.os, hbr.tape, hbr.output, hbr.size, hbr.block⟩⟩
        | exact ⟨by rw [Hxs.out, Hys.out, ← Hc.out, cmpL_ends (by omega) (by omega)]; rfl, by rw [HB1.out]; exact ⟨hbr.os, hbr.tape, hbr.output, hbr.size, hbr.block⟩⟩

set_option maxHeartbeats 2000000 in
theorem RunesNames_walk (s t : ByteArray) (hs : s.size ≤ 1048576) (ht : t.size ≤ 1048576) (w : World) (hT : Tabs w) :
    Calls Tryd.prog 4 #[.string s, .string t] w fun e w' => e = .returned (.bool true) ∧ Below w.heap.size w w' := by
  have hsm : s.size ≤ maxLen := by unfold maxLen; omega
  have htm : t.size ≤ maxLen := by unfold maxLen; omega
  go_enter Tryd.func4, Tryd.ntmps4
  go_wp2_with fail
  refine (awake_calls w hT).mono ?_
  rintro e w1 ⟨rfl, hb1⟩
  go_wp2_with fail
  refine (name_calls s hsm w1 (hT.below hb1)).mono ?_
  rintro e w2 ⟨rfl, hb2⟩
  have hB2 : Below w.heap.size w w2 := hb1.trans (hb2.mono hb1.size)
  generalize hns : nameL (runes s 0) = ns
  have Hns := Lib.hid hns; clear hns
  go_wp2_with fail
  refine (refname_calls s hsm w2).mono ?_
  rintro e w3 ⟨rfl, hb3⟩
  have hB3 : Below w.heap.size w w3 := hB2.trans (hb3.mono hB2.size)
  rw [Hns.out]
  go_wp2_with fail
  refine (name_calls t htm w3 (hT.below hB3)).mono ?_
  rintro e w4 ⟨rfl, hb4⟩
  have hB4 : Below w.heap.size w w4 := hB3.trans (hb4.mono hB3.size)
  generalize hnt : nameL (runes t 0) = nt
  have Hnt := Lib.hid hnt; clear hnt
  go_wp2_with fail
  refine (refname_calls t htm w4).mono ?_
  rintro e w5 ⟨rfl, hb5⟩
  have hB5 : Below w.heap.size w w5 := hB4.trans (hb5.mono hB4.size)
  rw [Hnt.out]
  go_wp2_with fail
  refine (order_calls s t (by omega) (by omega) w5).mono ?_
  rintro e w6 ⟨rfl, hb6⟩
  have hB6 : Below w.heap.size w w6 := hB5.trans (hb6.mono hB5.size)
  generalize hno : cmpL (runes s 0) (runes t 0) = no
  have Hno := Lib.hid hno; clear hno
  go_wp2_with fail
  refine (reforder_calls s t (by omega) (by omega) w6).mono ?_
  rintro e w7 ⟨rfl, hb7⟩
  have hB7 : Below w.heap.size w w7 := hB6.trans (hb7.mono hB6.size)
  rw [Hno.out]
  go_wp2_with fail
  go_ret
  exact ⟨by simp, hB7⟩
end Go.Proofs.YtkdpmbjcdbmffaaDoor
