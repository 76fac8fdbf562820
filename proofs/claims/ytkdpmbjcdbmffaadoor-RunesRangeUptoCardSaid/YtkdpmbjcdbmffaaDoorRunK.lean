/- The walk of the statement RunesRange. -/
import Derived.Test.YtkdpmbjcdbmffaaDoorPlJ
import Derived.Test.YtkdpmbjcdbmffaaDoorRunF
import Derived.Test.YtkdpmbjcdbmffaaDoorRunG
namespace Go.Proofs.YtkdpmbjcdbmffaaDoor
open Go.RowKit Pl

/-- 'string(rs)' -/
theorem run_backrunes (w : World) (b c : Nat) (zs : List Int) (hr : RuneRow w b zs) :
    (convert 37 9 (.slice (some ⟨b, 0, none⟩) zs.length c)).run Tryd.prog w = .ok (.string (runesBytes zs)) w := by
  have h := run_convert_runes (P := Tryd.prog) w 37 9 21 ⟨b, 0, none⟩ zs.length c zs (Nat.le_refl _) Tryd.underlying37 Tryd.underlying21 Tryd.underlying9 (fun j hj => by
    have e : (Addr.add ⟨b, 0, none⟩ j) = ⟨b, j, none⟩ := by
      unfold Addr.add
      split
      · rename_i h; rw [h]
      · simp
    rw [e]
    exact hr j hj)
  rw [List.take_of_length_le (Nat.le_refl _)] at h
  exact h

set_option maxRecDepth 100000 in
set_option maxHeartbeats 4000000 in
theorem RunesRange_walk (s : ByteArray) (hs : s.size ≤ 1048576) (w : World) (hT : Tabs w) :
    Calls Tryd.prog 8 #[.string s] w fun e w' => e = .returned (.bool true) ∧ Below w.heap.size w w' := by
  have hsm : s.size ≤ maxLen := by unfold maxLen; omega
  have hback := back_iff s
  go_enter Tryd.func8, Tryd.ntmps8
  go_wp2_with fail
  refine (awake_calls w hT).mono ?_
  rintro e w1 ⟨rfl, hB1⟩
  go_wp2_with fail
  refine (check_calls s hsm w1).mono ?_
  rintro e w2 ⟨rfl, hb2⟩
  have hB2 : Below w.heap.size w w2 := hB1.trans (hb2.mono hB1.size)
  obtain ⟨c3, w3, hc3, hr3, hb3⟩ := run_torunes w2 s (by omega)
  have hB3 : Below w.heap.size w w3 := hB2.trans (hb3.mono hB2.size)
  have hcb := run_backrunes w3 _ c3 _ hr3
  have hln := runes_length s 0
  generalize hzs : (runes s 0).length = n at *
  generalize hbk : runesBytes (runes s 0) = u at *
  have HCB := Lib.hid hcb; clear hcb
  have HC3 := Lib.hid hc3; clear hc3
  cases hfb : firstBad s 0 with
  | none =>
    have hbe : (u.toList == s.toList) = true := by
      rw [ByteArray.toList_eq, ByteArray.toList_eq, hback.2 hfb, beq_self_eq_true]
    have HFB := Lib.hid hfb; clear hfb hback
    have hc3 := HC3.out
    have hcb := HCB.out
    clear HC3 HCB hr3 hb2 hb3
    dsimp only [chkV]
    go_wp2_with fail
    have hz3 := hB3.size
    go_loopw [9, 10, 11, 12, 13, 14, 15] (fun v9 v10 _ _ _ _ _ w' => ∃ p line col : Nat, p ≤ s.size ∧ v9 = .int .i64 line ∧ v10 = .int .i64 col ∧ Hid (LC s p line col) ∧ Hid (firstBad s p = none) ∧ It w' w3.heap.size s p ∧ Below w.heap.size w w') (fun _ _ _ _ _ _ _ w' => s.size - w'.iterPos w3.heap.size)
    case atStart => exact ⟨0, 1, 1, by omega, rfl, rfl, Lib.hid (LC_start s), HFB, It.new _ _, hB3.alloc hB3.size _⟩
    case round =>
      obtain ⟨p, line, col, hp, rfl, rfl, HL, HB, hit, hB⟩ := hrel
      obtain ⟨wo, rfl⟩ : ∃ wo : World, wo = wr := ⟨_, rfl⟩
      have hit' : wo.heap[w3.heap.size]? = some (.stringIter s p) := hit
      have hlb : line ≤ p + 1 := by rw [HL.out.1]; exact line_le s p
      have hcl : col ≤ s.size + 1 := by
        rw [HL.out.2.1]
        have h1 := runes_length (s.extract (fromN s p) p) 0
        have h2 := piece_size s (fromN s p) p hp
        omega
      by_cases hlt : p < s.size
      · have hnx : ∀ ty, (Instr.next (.pointer (some ⟨w3.heap.size, 0, none⟩)) true ty).run Tryd.prog wo = _ := fun ty => Lib.run_next_any_at wo w3.heap.size s p ty hit' hlt
        have hd := decode_int s p
        have hwp := wd_pos s p
        have hwl := wd_le s p hlt
        have hitA := hit.moved (p + (Utf8.decode s p).2)
        have hBA := Lib.below_iterAt hB hz3 s (p + (Utf8.decode s p).2)
        have Hw := Lib.hid hit.pos
        have HB2 : Hid (badB s p = false ∧ firstBad s (p + (Utf8.decode s p).2) = none) := by
          have h := HB.out
          rw [firstBad_step hlt] at h
          split at h
          · cases h
          · rename_i g
            exact Lib.hid ⟨by simpa using g, h⟩
        clear hit hit' hB
        go_wp2_with fail
        generalize wo.iterAt w3.heap.size s (p + (Utf8.decode s p).2) = W1 at *
        have HitA := Lib.hid hitA; clear hitA
        refine (column_calls s p (by omega) hp W1).mono ?_
        rintro e W2 ⟨rfl, hb2⟩
        have hB2 : Below w.heap.size w W2 := hBA.trans (hb2.mono hBA.size)
        have hit2 := HitA.out.below hb2 HitA.out.lt
        rw [← HL.out.1, ← HL.out.2.1]
        clear hb2
        have HIT2 := Lib.hid hit2; clear hit2
        by_cases h10 : (Utf8.decode s p).1 = 10
        · have h10b : (((Utf8.decode s p).1 : Int) == 10) = true := by rw [h10]; rfl
          have h10c : decide (((Utf8.decode s p).1 : Int) = 10) = true := by rw [h10]; rfl
          have H10 := Lib.hid h10; clear h10
          go_wp2_with fail
          refine ⟨⟨p + (Utf8.decode s p).2, line + 1, 1, hwl, by go_num, rfl, Lib.hid (LC_nl HL.out hlt H10.out), Lib.hid HB2.out.2, HIT2.out, hB2⟩, ?_⟩
          rw [Hw.out, HIT2.out.pos]; omega
        · have h10b : (((Utf8.decode s p).1 : Int) == 10) = false := by simp; omega
          have h10c : decide (((Utf8.decode s p).1 : Int) = 10) = false := by simp; omega
          have H10 := Lib.hid h10; clear h10
          go_wp2_with fail
          refine ⟨⟨p + (Utf8.decode s p).2, line, col + 1, hwl, rfl, by go_num, Lib.hid (LC_no HL.out hlt HB2.out.1 H10.out), Lib.hid HB2.out.2, HIT2.out, hB2⟩, ?_⟩
          rw [Hw.out, HIT2.out.pos]; omega
      · have hnx : ∀ ty, (Instr.next (.pointer (some ⟨w3.heap.size, 0, none⟩)) true ty).run Tryd.prog wo = _ := fun ty => Lib.run_next_end_at wo w3.heap.size s p ty hit' hlt
        clear hit hit'
        obtain rfl : p = s.size := by omega
        go_wp2_with fail
        refine (column_calls s s.size (by omega) hp wo).mono ?_
        rintro e W2 ⟨rfl, hb2⟩
        have hB2 : Below w.heap.size w W2 := hB.trans (hb2.mono hB.size)
        rw [← HL.out.1, ← HL.out.2.1]
        go_wp2_with fail
        go_ret
        exact ⟨by simp, hB2⟩
  | some q =>
    obtain ⟨q1, q2, q3⟩ := firstBad_bd s s.size 0 q (by omega) hfb
    have hne : (u.toList == s.toList) = false := by
      have h1 : ¬ (u.data.toList = s.data.toList) := fun e => by
        have := hback.1 e
        rw [hfb] at this
        cases this
      rw [ByteArray.toList_eq, ByteArray.toList_eq]
      simpa using h1
    have HHD := Lib.hid (head_good s s.size 0 q (by omega) hfb)
    have hhs := piece_size s 0 q (by omega)
    have hts := Lib.tail_size s q
    have hdt : Utf8.decode (s.extract q s.size) 0 = Utf8.decode s q := Lib.tail_decode s q 0
    have hw1 := bad_wid q3
    clear hfb hback
    have hc3 := HC3.out
    have hcb := HCB.out
    clear HC3 HCB hr3 hb2 hb3
    dsimp only [chkV]
    have g0 : decide ((q : Int) < 0) = false := decide_eq_false (by omega)
    have g1 : decide ((s.size : Int) ≤ (q : Int)) = false := decide_eq_false (by omega)
    have g2 : ((q : Int) ≤ (s.size : Int)) = True := eq_true (by omega)
    go_wp2_with fail
    generalize s.extract 0 q = hd at *
    refine (check_calls hd (by unfold maxLen; omega) w3).mono ?_
    rintro e w4 ⟨rfl, hb4⟩
    have hB4 : Below w.heap.size w w4 := hB3.trans (hb4.mono hB3.size)
    rw [HHD.out]
    dsimp only [chkV]
    have g3 : (0 ≤ (q : Int)) = True := eq_true (by omega)
    clear hb4
    go_wp2_with fail
    generalize s.extract q s.size = t at *
    have hz4 := hB4.size
    go_loopw [7, 8] (fun v7 _ w' => ∃ p : Nat, (p = 0 ∨ p = 1) ∧ v7 = .int .i64 0 ∧ It w' w4.heap.size t p ∧ Below w.heap.size w w') (fun _ _ w' => t.size - w'.iterPos w4.heap.size)
    case atStart => exact ⟨0, Or.inl rfl, rfl, It.new _ _, hB4.alloc hB4.size _⟩
    case round =>
      obtain ⟨p, hp, rfl, hit, hB⟩ := hrel
      obtain ⟨wo, rfl⟩ : ∃ wo : World, wo = wr := ⟨_, rfl⟩
      have hit' : wo.heap[w4.heap.size]? = some (.stringIter t p) := hit
      have Hw := Lib.hid hit.pos
      rcases hp with rfl | rfl
      · have hnx : ∀ ty, (Instr.next (.pointer (some ⟨w4.heap.size, 0, none⟩)) true ty).run Tryd.prog wo = .ok (.tuple #[.bool true, .int .i64 ((0 : Nat) : Int), .int .i32 (Utf8.decode t 0).1]) (wo.iterAt w4.heap.size t 1) := fun ty => by
          have := Lib.run_next_any_at (P := Tryd.prog) wo w4.heap.size t 0 ty hit' (by omega)
          rw [show (0 + (Utf8.decode t 0).2) = 1 by rw [hdt, hw1]] at this
          exact this
        have hitA := hit.moved 1
        have hBA := Lib.below_iterAt hB hz4 t 1
        clear hit hit' hB
        go_wp2_with fail
        refine ⟨⟨1, Or.inr rfl, rfl, hitA, hBA⟩, ?_⟩
        rw [Hw.out, hitA.pos]; omega
      · by_cases hlt : 1 < t.size
        · have hnx : ∀ ty, (Instr.next (.pointer (some ⟨w4.heap.size, 0, none⟩)) true ty).run Tryd.prog wo = _ := fun ty => Lib.run_next_any_at wo w4.heap.size t 1 ty hit' hlt
          have hBA := Lib.below_iterAt hB hz4 t (1 + (Utf8.decode t 1).2)
          clear hit hit' hB
          go_wp2_with fail
          go_ret
          exact ⟨rfl, hBA⟩
        · have hnx : ∀ ty, (Instr.next (.pointer (some ⟨w4.heap.size, 0, none⟩)) true ty).run Tryd.prog wo = _ := fun ty => Lib.run_next_end_at wo w4.heap.size t 1 ty hit' hlt
          have hqs : (q : Int) = (s.size : Int) - 1 := by omega
          clear hit hit'
          go_wp2_with fail
          go_ret
          exact ⟨by simp, hB⟩
end Go.Proofs.YtkdpmbjcdbmffaaDoor
