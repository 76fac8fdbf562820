/- The walks of the reference on names (for the seats that have no statement on runes). -/
import Derived.Test.YtbbembhfnapadaaDoorRunB
import Derived.Test.YtbbembhfnapadaaDoorPlC
import Derived.Deep.QuietTactic
import Derived.BigQuiet
namespace Go.Proofs.YtbbembhfnapadaaDoor
open Go.RowKit Pl

set_option maxHeartbeats 4000000 in
theorem width_calls (s : ByteArray) (p : Nat) (hs : s.size ≤ maxLen) (hp : p ≤ maxLen) (w : World) :
    Calls Tryd.prog 92 #[.string s, .int .i64 p] w fun e w' => e = .returned (.int .i64 (wid s p)) ∧ Below w.heap.size w w' := by
  unfold maxLen at hs hp
  by_cases hlt : p < s.size
  · have hts : (s.extract p s.size).size = s.size - p := Lib.tail_size s p
    have hd0 : Utf8.decode (s.extract p s.size) 0 = Utf8.decode s p := Lib.tail_decode s p 0
    have hwp := wd_pos s p
    have hwl := wd_le s p hlt
    have Hts := Lib.hid hts
    have Hd0 := Lib.hid hd0; clear hd0
    go_enter Tryd.func92, Tryd.ntmps92
    go_wp2_with fail
    generalize s.extract p s.size = t at *
    clear hts
    go_loopw [5, 6] (fun _ _ w' => ∃ q : Nat, (q = 0 ∨ (q = (Utf8.decode s p).2 ∧ badB s p = false)) ∧ w' = w.iter t q) (fun _ _ w' => t.size - w'.iterPos w.heap.size)
    case atStart => exact ⟨0, .inl rfl, rfl⟩
    case round =>
      obtain ⟨q, hq, rfl⟩ := hrel
      rcases hq with rfl | ⟨rfl, hb⟩
      · have h0 : 0 < t.size := by rw [Hts.out]; omega
        have hnx : ∀ ty, (Instr.next (.pointer (some ⟨w.heap.size, 0, none⟩)) true ty).run Tryd.prog (w.iter t 0) = .ok (.tuple #[.bool true, .int .i64 ((0 : Nat) : Int), .int .i32 (Utf8.decode s p).1]) (w.iter t (0 + (Utf8.decode s p).2)) := fun ty => by
          have := run_next_any (P := Tryd.prog) w t 0 ty h0
          rw [Hd0.out] at this
          exact this
        by_cases hf : (Utf8.decode s p).1 = 65533
        · have hg : (((Utf8.decode s p).1 : Int) == 65533) = true := by rw [hf]; rfl
          by_cases h3 : s.size - p < 3
          · have hbad := bad_short s p hf h3
            have Hb := Lib.hid hbad; clear hbad
            have Hf := Lib.hid hf; clear hf
            have hd3 : ((s.size : Int) - p < 3) := by omega
            go_wp2_with fail
            go_ret
            exact ⟨by rw [wid_bad Hb.out]; rfl, (Below.refl _ _).alloc (Nat.le_refl _) _⟩
          · have hbl := bad_long s p hf (by omega)
            have hd3 : ¬ ((s.size : Int) - p < 3) := by omega
            have g1 : (p : Int) ≤ (p : Int) + 3 := by omega
            have g2 : (p : Int) + 3 ≤ (s.size : Int) := by omega
            have g3 : ((p : Int) + 3).toNat = p + 3 := by omega
            have Hf := Lib.hid hf; clear hf
            rcases Bool.eq_false_or_eq_true (badB s p) with hbad | hbad
            ·
              rw [hbad] at hbl
              have hbl' : ((s.extract p (p + 3)).toList == [239, 191, 189]) = false := hbl
              have Hb := Lib.hid hbad; clear hbad hbl
              go_wp2_with fail
              go_ret
              exact ⟨by rw [wid_bad Hb.out]; rfl, (Below.refl _ _).alloc (Nat.le_refl _) _⟩
            ·
              rw [hbad] at hbl
              have hbl' : ((s.extract p (p + 3)).toList == [239, 191, 189]) = true := hbl
              have Hb := Lib.hid hbad; clear hbad hbl
              go_wp2_with fail
              exact ⟨⟨_, .inr ⟨by omega, Hb.out⟩, rfl⟩, by simp; omega⟩
        · have hg : (((Utf8.decode s p).1 : Int) == 65533) = false := by simp; omega
          have hbad := not_bad hf
          have Hb := Lib.hid hbad; clear hbad
          have Hf := Lib.hid hf; clear hf
          go_wp2_with fail
          exact ⟨⟨_, .inr ⟨by omega, Hb.out⟩, rfl⟩, by simp; omega⟩
      · have Hb := Lib.hid hb; clear hb
        by_cases h2 : (Utf8.decode s p).2 < t.size
        · have hnx : ∀ ty, (Instr.next (.pointer (some ⟨w.heap.size, 0, none⟩)) true ty).run Tryd.prog (w.iter t (Utf8.decode s p).2) = _ := fun ty => run_next_any w t _ ty h2
          go_wp2_with fail
          go_ret
          exact ⟨by rw [wid_good hlt Hb.out]; rfl, (Below.refl _ _).alloc (Nat.le_refl _) _⟩
        · have hnx : ∀ ty, (Instr.next (.pointer (some ⟨w.heap.size, 0, none⟩)) true ty).run Tryd.prog (w.iter t (Utf8.decode s p).2) = _ := fun ty => run_next_end w t _ ty h2
          have he : (s.size : Int) - p = ((Utf8.decode s p).2 : Int) := by rw [Hts.out] at h2; omega
          have He := Lib.hid he; clear he
          go_wp2_with fail
          go_ret
          exact ⟨by rw [wid_good hlt Hb.out, ← He.out]; rfl, (Below.refl _ _).alloc (Nat.le_refl _) _⟩
  · go_enter Tryd.func92, Tryd.ntmps92
    go_wp2_with fail
    go_ret
    exact ⟨by rw [wid_end hlt]; rfl, Below.refl _ _⟩

set_option maxHeartbeats 2000000 in
theorem rune_calls (s : ByteArray) (p : Nat) (hs : s.size ≤ maxLen) (hp : p ≤ maxLen) (w : World) :
    Calls Tryd.prog 89 #[.string s, .int .i64 p] w fun e w' => e = .returned (.int .i32 (runeAt s p)) ∧ Below w.heap.size w w' := by
  have hs' := hs
  have hp' := hp
  unfold maxLen at hs' hp'
  by_cases hg : p < s.size ∧ badB s p = false
  · obtain ⟨hlt, hbad⟩ := hg
    have hw := wid_good hlt hbad
    have Hb := Lib.hid hbad; clear hbad
    have hwp := wd_pos s p
    go_enter Tryd.func89, Tryd.ntmps89
    go_wp2_with fail
    refine (width_calls s p hs hp w).mono ?_
    rintro e w1 ⟨rfl, hb1⟩
    rw [hw]
    clear hw
    have hz : (((Utf8.decode s p).2 : Int) == 0) = false := by simp; omega
    have hts : (s.extract p s.size).size = s.size - p := Lib.tail_size s p
    have hd0 : Utf8.decode (s.extract p s.size) 0 = Utf8.decode s p := Lib.tail_decode s p 0
    have Hts := Lib.hid hts; clear hts
    have Hd0 := Lib.hid hd0; clear hd0
    have hnx : ∀ ty, (Instr.next (.pointer (some ⟨w1.heap.size, 0, none⟩)) true ty).run Tryd.prog (w1.iter (s.extract p s.size) 0) = .ok (.tuple #[.bool true, .int .i64 ((0 : Nat) : Int), .int .i32 (Utf8.decode s p).1]) (w1.iter (s.extract p s.size) (0 + (Utf8.decode s p).2)) := fun ty => by
      have := run_next_any (P := Tryd.prog) w1 (s.extract p s.size) 0 ty (by rw [Hts.out]; omega)
      rw [Hd0.out] at this
      exact this
    go_wp2_with fail
    refine wp_loop_once ?_
    go_wp2_with fail
    go_ret
    exact ⟨by rw [runeAt_good hlt Hb.out]; rfl, hb1.alloc hb1.size _⟩
  · have hr : runeAt s p = -1 := by unfold runeAt; rw [if_neg hg]
    have hw : wid s p = 0 := by unfold wid; rw [if_neg hg]
    have Hr := Lib.hid hr; clear hr hg
    go_enter Tryd.func89, Tryd.ntmps89
    go_wp2_with fail
    refine (width_calls s p hs hp w).mono ?_
    rintro e w1 ⟨rfl, hb1⟩
    rw [hw]
    clear hw
    go_wp2_with fail
    go_ret
    exact ⟨by rw [Hr.out]; rfl, hb1⟩

theorem behind_calls (r : Int) (h0 : -2147483648 ≤ r) (h1 : r ≤ 2147483647) (w : World) :
    Calls Tryd.prog 91 #[.int .i32 r] w fun e w' => e = .returned (.bool (inName r)) ∧ Below w.heap.size w w' := by
  go_enter Tryd.func91, Tryd.ntmps91
  go_wp2_with fail
  refine (refkind_calls r h0 h1 w).mono ?_
  rintro e w' ⟨rfl, hb⟩
  by_cases a : (kindI r == 1) = true
  · go_wp2_with fail
    go_ret
    exact ⟨by unfold inName; rw [a]; rfl, hb⟩
  · have a : (kindI r == 1) = false := by simpa using a
    by_cases b : (kindI r == 2) = true
    · go_wp2_with fail
      go_ret
      exact ⟨by unfold inName; rw [a, b]; rfl, hb⟩
    · have b : (kindI r == 2) = false := by simpa using b
      go_wp2_with fail
      go_ret
      exact ⟨by unfold inName; rw [a, b]; rfl, hb⟩

theorem km1 : kindI (-1) = 0 := by decide
theorem im1 : inName (-1) = false := by decide

set_option maxHeartbeats 4000000 in
theorem refname_calls (s : ByteArray) (hs : s.size ≤ maxLen) (w : World) :
    Calls Tryd.prog 60 #[.string s] w fun e w' => e = .returned (.bool (nameL (runes s 0))) ∧ Below w.heap.size w w' := by
  have hs' := hs
  unfold maxLen at hs'
  go_enter Tryd.func60, Tryd.ntmps60
  go_wp2
  go_loopw [3, 4, 5] (fun n a _ w' => ∃ p k : Nat, p ≤ s.size ∧ k ≤ p ∧ n = .int .i64 k ∧ a = .int .i64 p ∧ Below w.heap.size w w' ∧ nameM k (runes s p) = nameL (runes s 0) ∧ (k = 0 → p = 0)) (fun _ a _ _ => s.size - (intOf a).toNat)
  case atStart => exact ⟨0, 0, by omega, by omega, rfl, rfl, Below.refl _ _, rfl, fun _ => rfl⟩
  case round =>
    obtain ⟨p, k, hp, hk, rfl, rfl, hb, hc, hk0⟩ := hrel
    have Hc := Lib.hid hc; clear hc
    have Hk0 := Lib.hid hk0; clear hk0
    have hpm : p ≤ maxLen := by unfold maxLen; omega
    by_cases hlt : p < s.size
    · have hd := decode_int s p
      have hwp := wd_pos s p
      have hwl := wd_le s p hlt
      go_wp2_with fail
      refine (rune_calls s p hs hpm wr).mono ?_
      rintro e W1 ⟨rfl, hb1⟩
      have hB1 : Below w.heap.size w W1 := hb.trans (hb1.mono hb.size)
      rcases Bool.eq_false_or_eq_true (badB s p) with hbad | hbad
      · rw [runeAt_bad hbad]
        have Hbad := Lib.hid hbad; clear hbad
        have hfin : nameL (runes s 0) = false := by rw [← Hc.out, runes_step hlt, nameM_bad (bad_kind Hbad.out)]
        have Hfin := Lib.hid hfin; clear hfin
        by_cases hk1 : k = 0
        · subst hk1
          go_wp2_with fail
          refine (refkind_calls (-1) (by omega) (by omega) W1).mono ?_
          rintro e W2 ⟨rfl, hb2⟩
          rw [km1]
          go_wp2_with fail
          go_ret
          exact ⟨by rw [Hfin.out]; rfl, hB1.trans (hb2.mono hB1.size)⟩
        · have hkz : ((k : Int) == 0) = false := by simp; omega
          go_wp2_with fail
          refine (behind_calls (-1) (by omega) (by omega) W1).mono ?_
          rintro e W2 ⟨rfl, hb2⟩
          rw [im1]
          go_wp2_with fail
          go_ret
          exact ⟨by rw [Hfin.out]; rfl, hB1.trans (hb2.mono hB1.size)⟩
      · rw [runeAt_good hlt hbad]
        have hw := wid_good hlt hbad
        have Hw := Lib.hid hw; clear hw
        have Hbad := Lib.hid hbad; clear hbad
        by_cases hk1 : k = 0
        · subst hk1
          obtain rfl : p = 0 := Hk0.out rfl
          go_wp2_with fail
          refine (refkind_calls _ (by omega) (by omega) W1).mono ?_
          rintro e W2 ⟨rfl, hb2⟩
          have hB2 : Below w.heap.size w W2 := hB1.trans (hb2.mono hB1.size)
          by_cases h1 : kindI ((Utf8.decode s 0).1 : Int) = 1
          · rw [h1]
            have H1 := Lib.hid h1; clear h1
            go_wp2_with fail
            refine (behind_calls _ (by omega) (by omega) W2).mono ?_
            rintro e W3 ⟨rfl, hb3⟩
            have hin : inName ((Utf8.decode s 0).1 : Int) = true := by unfold inName; rw [H1.out]; rfl
            rw [hin]
            clear hin
            have hB3 : Below w.heap.size w W3 := hB2.trans (hb3.mono hB2.size)
            go_wp2_with fail
            refine (width_calls s 0 hs hpm W3).mono ?_
            rintro e W4 ⟨rfl, hb4⟩
            rw [Hw.out]
            have hB4 : Below w.heap.size w W4 := hB3.trans (hb4.mono hB3.size)
            go_wp2_with fail
            refine ⟨⟨_, 1, hwl, by omega, rfl, by go_num, hB4, ?_, by omega⟩, by simp [intOf]; omega⟩
            rw [← Hc.out, runes_step hlt, nameM_first H1.out]
          · have h1' : (kindI ((Utf8.decode s 0).1 : Int) == 1) = false := by simpa using h1
            have H1 := Lib.hid h1; clear h1
            go_wp2_with fail
            go_ret
            exact ⟨by rw [← Hc.out, runes_step hlt, nameM_head H1.out]; rfl, hB2⟩
        · have hkz : ((k : Int) == 0) = false := by simp; omega
          go_wp2_with fail
          refine (behind_calls _ (by omega) (by omega) W1).mono ?_
          rintro e W3 ⟨rfl, hb3⟩
          have hB3 : Below w.heap.size w W3 := hB1.trans (hb3.mono hB1.size)
          rcases Bool.eq_false_or_eq_true (inName ((Utf8.decode s p).1 : Int)) with hin | hin
          · rw [hin]
            have Hin := Lib.hid hin; clear hin
            go_wp2_with fail
            refine (width_calls s p hs hpm W3).mono ?_
            rintro e W4 ⟨rfl, hb4⟩
            rw [Hw.out]
            have hB4 : Below w.heap.size w W4 := hB3.trans (hb4.mono hB3.size)
            go_wp2_with fail
            refine ⟨⟨p + (Utf8.decode s p).2, k + 1, hwl, by omega, by go_num, by go_num, hB4, ?_, by omega⟩, by simp [intOf]; omega⟩
            rw [← Hc.out, runes_step hlt, nameM_next hk1 Hin.out]
          · rw [hin]
            have Hin := Lib.hid hin; clear hin
            go_wp2_with fail
            go_ret
            exact ⟨by rw [← Hc.out, runes_step hlt, nameM_bad Hin.out]; rfl, hB3⟩
    · go_wp2_with fail
      all_goals go_ret
      all_goals refine ⟨?_, hb⟩
      all_goals rw [← Hc.out, runes_end hlt, nameM_nil]
      all_goals (show Ending.returned (Value.bool _) = Ending.returned (Value.bool _); congr 2; rw [Bool.eq_iff_iff]; simp; omega)

end Go.Proofs.YtbbembhfnapadaaDoor
