/- The walk of the statement RunesSpans. -/
import Derived.Test.YtkdpmbjcdbmffaaDoorRunG
namespace Go.Proofs.YtkdpmbjcdbmffaaDoor
open Go.RowKit Pl

/-- block k is an iterator over t that stands at i -/
def It (w : World) (k : Nat) (t : ByteArray) (i : Nat) : Prop := w.heap[k]? = some (.stringIter t i)
theorem It.below {w w' : World} {k : Nat} {t : ByteArray} {i B : Nat} (h : It w k t i) (hb : Below B w w') (hk : k < B) : It w' k t i := (hb.block k hk).trans h
theorem It.lt {w : World} {k : Nat} {t : ByteArray} {i : Nat} (h : It w k t i) : k < w.heap.size := (Array.getElem?_eq_some_iff.1 h).1
theorem It.pos {w : World} {k : Nat} {t : ByteArray} {i : Nat} (h : It w k t i) : w.iterPos k = i := by unfold World.iterPos; rw [show w.heap[k]? = _ from h]
theorem It.new (w : World) (t : ByteArray) : It (w.iter t 0) w.heap.size t 0 := World.iter_heap _ _ _
theorem It.other {w : World} {k j : Nat} {t u : ByteArray} {i m : Nat} (h : It w k t i) (hj : k ≠ j) : It (w.iterAt j u m) k t i := (Lib.iterAt_other w j k u m hj).trans h
theorem It.moved {w : World} {k : Nat} {t : ByteArray} {i : Nat} (h : It w k t i) (m : Nat) : It (w.iterAt k t m) k t m := Lib.iterAt_heap w k t i m h

theorem kind_of_in {r : Int} (h : inName r = true) : kindI r = 1 ∨ kindI r = 2 ∨ kindI r = 5 := by
  unfold inName at h
  simp only [Bool.or_eq_true, beq_iff_eq] at h
  omega
theorem kind_of_out {r : Int} (h : inName r = false) : kindI r ≠ 1 ∧ kindI r ≠ 2 ∧ kindI r ≠ 5 := by
  unfold inName at h
  simp only [Bool.or_eq_false_iff, beq_eq_false_iff_ne] at h
  exact ⟨h.1.1, h.1.2, h.2⟩

set_option maxRecDepth 100000 in
set_option maxHeartbeats 8000000 in
theorem RunesSpans_walk (s : ByteArray) (hs0 : s.size ≤ 140737488351232) (w : World) (hT : Tabs w) (hU : UTabs w) :
    Calls Tryd.prog 6 #[.string s] w fun e w' => e = .returned (.bool true) ∧ Below w.heap.size w w' := by
  have hsm : s.size ≤ maxLen := by unfold maxLen; omega
  go_enter Tryd.func6, Tryd.ntmps6
  go_wp2_with fail
  refine (awake_calls w hT).mono ?_
  rintro e w1 ⟨rfl, hb1⟩
  go_wp2_with fail
  go_loopw [3, 4, 5, 6, 7, 8, 9, 10, 11, 12, 14, 15] (fun _ _ _ _ _ _ _ _ _ _ _ _ w' => ∃ p : Nat, p ≤ s.size ∧ It w' w1.heap.size s p ∧ Below w.heap.size w w') (fun _ _ _ _ _ _ _ _ _ _ _ _ w' => s.size - w'.iterPos w1.heap.size)
  case atStart => exact ⟨0, by omega, It.new _ _, hb1.alloc hb1.size _⟩
  case round =>
    obtain ⟨p, hp, hit, hB⟩ := hrel
    obtain ⟨wo, rfl⟩ : ∃ wo : World, wo = wr := ⟨_, rfl⟩
    have hit' : wo.heap[w1.heap.size]? = some (.stringIter s p) := hit
    have hz1 := hb1.size
    by_cases hlt : p < s.size
    · have hnx : ∀ ty, (Instr.next (.pointer (some ⟨w1.heap.size, 0, none⟩)) true ty).run Tryd.prog wo = _ := fun ty => Lib.run_next_any_at wo w1.heap.size s p ty hit' hlt
      have hd := decode_int s p
      have hwp := wd_pos s p
      have hwl := wd_le s p hlt
      have hitA := hit.moved (p + (Utf8.decode s p).2)
      have hBA := Lib.below_iterAt hB hz1 s (p + (Utf8.decode s p).2)
      have Hw := Lib.hid hit.pos
      clear hit hit' hB
      go_wp2_with fail
      generalize wo.iterAt w1.heap.size s (p + (Utf8.decode s p).2) = W1 at *
      have HitA := Lib.hid hitA; clear hitA
      have hla : letAt s p = (kindI ((Utf8.decode s p).1 : Int) == 1) := by unfold letAt; rw [decide_eq_true hlt, Bool.true_and]
      rcases Bool.eq_false_or_eq_true (letAt s p) with hl | hl
      · have hk1 : kindI ((Utf8.decode s p).1 : Int) = 1 := by rw [hl] at hla; simpa using hla.symm
        obtain ⟨he1, he2⟩ := end_pos s p hlt hk1
        have hname := name_of_end s p hlt hk1
        have hidem := endOf_idem s _ p (Nat.le_refl _)
        have hstop : endOf s p < s.size → inName ((Utf8.decode s (endOf s p)).1 : Int) = false := end_stop
        refine (span_yes s p hsm hp hl W1 (hT.below hBA) (utabs_below hU hBA)).mono ?_
        rintro e W2 ⟨rfl, hb2⟩
        have hB2 : Below w.heap.size w W2 := hBA.trans (hb2.mono hBA.size)
        have hit2 := HitA.out.below hb2 HitA.out.lt
        clear hla hl
        generalize hE : endOf s p = E at *
        have HE := Lib.hid hE; clear hE
        have Hname := Lib.hid hname; clear hname
        have Hidem := Lib.hid hidem; clear hidem
        have Hstop := Lib.hid hstop; clear hstop
        have Hit2 := Lib.hid hit2; clear hit2
        go_wp2_with fail
        refine (kind_calls _ (by omega) (by omega) W2 (hT.below hB2)).mono ?_
        rintro e W3 ⟨rfl, hb3⟩
        have hB3 : Below w.heap.size w W3 := hB2.trans (hb3.mono hB2.size)
        have hit3 := Hit2.out.below hb3 Hit2.out.lt
        rw [hk1]
        have Hk1 := Lib.hid hk1; clear hk1
        have Hit3 := Lib.hid hit3; clear hit3
        clear hb2 hb3 hBA hB2
        have hle : p ≤ E := by omega
        have hle2 : (p : Int) ≤ (E : Int) := by omega
        have hle3 : (E : Int) ≤ (s.size : Int) := by omega
        have hde1 : decide (E ≤ p) = false := by simp; omega
        have hde2 : decide (s.size < E) = false := by simp; omega
        have hts : (s.extract p E).size = E - p := piece_size s p E he2
        have Hts := Lib.hid hts; clear hts
        go_wp2_with fail
        generalize hT1 : s.extract p E = t at *
        have HT1 := Lib.hid hT1; clear hT1
        go_loopw [7, 8, 9, 10, 11, 12] (fun n _ _ _ _ _ w' => ∃ i k : Nat, p + i ≤ E ∧ n = .int .i64 k ∧ k ≤ i ∧ k + (runes t i).length = (runes t 0).length ∧ endOf s (p + i) = E ∧ It w' W3.heap.size t i ∧ It w' w1.heap.size s (p + (Utf8.decode s p).2) ∧ Below w.heap.size w w') (fun _ _ _ _ _ _ w' => t.size - w'.iterPos W3.heap.size)
        case atStart => exact ⟨0, 0, by omega, rfl, by omega, by omega, HE.out, It.new _ _, (Hit3.out).below ((Below.refl _ _).alloc (Nat.le_refl _) _) Hit3.out.lt, hB3.alloc hB3.size _⟩
        case round =>
          obtain ⟨i, k, hi, rfl, hk, hlen, hc, hit4, hit5, hB4⟩ := hrel
          have Hlen := Lib.hid hlen; clear hlen
          have Hc := Lib.hid hc; clear hc
          have hlt1 : w1.heap.size < W3.heap.size := Hit3.out.lt
          have hz4 : W3.heap.size < wr.heap.size := hit4.lt
          have hz5 := hB4.size
          have hit4' : wr.heap[W3.heap.size]? = some (.stringIter t i) := hit4
          by_cases hlt2 : p + i < E
          · obtain ⟨g1, g2, g3, g4⟩ := end_chain Hc.out hlt2
            have hdp : Utf8.decode t i = Utf8.decode s (p + i) := by rw [← HT1.out]; exact decode_piece s p E i he2 hlt2 g3 (by have := inName_ne g2; omega)
            have hil : i < t.size := by rw [Hts.out]; omega
            have hnx : ∀ ty, (Instr.next (.pointer (some ⟨W3.heap.size, 0, none⟩)) true ty).run Tryd.prog wr = .ok (.tuple #[.bool true, .int .i64 i, .int .i32 (Utf8.decode s (p + i)).1]) (wr.iterAt W3.heap.size t (i + (Utf8.decode s (p + i)).2)) := fun ty => by
              have := Lib.run_next_any_at (P := Tryd.prog) wr W3.heap.size t i ty hit4' hil
              rw [hdp] at this
              exact this
            have Hst : Hid (runes t i = ((Utf8.decode s (p + i)).1 : Int) :: runes t (i + (Utf8.decode s (p + i)).2)) := Lib.hid (by rw [runes_step hil, hdp])
            have hd2 := decode_int s (p + i)
            have hwp2 := wd_pos s (p + i)
            have Hw2 := Lib.hid hit4.pos
            have hit6 := hit4.moved (i + (Utf8.decode s (p + i)).2)
            have hit7 := hit5.other (j := W3.heap.size) (u := t) (m := i + (Utf8.decode s (p + i)).2) (by omega)
            have hB6 := Lib.below_iterAt hB4 (Nat.le_of_lt (Nat.lt_of_le_of_lt hz1 hlt1)) t (i + (Utf8.decode s (p + i)).2)
            have hz6 := Lib.iterAt_size wr W3.heap.size t (i + (Utf8.decode s (p + i)).2)
            rw [← hz6] at hz4
            have G2 := Lib.hid g2; clear g2
            have G4 := Lib.hid g4; clear g4
            clear hdp hit4 hit5 hit4' hB4
            go_wp2_with fail
            generalize wr.iterAt W3.heap.size t (i + (Utf8.decode s (p + i)).2) = X1 at *
            have Hit6 := Lib.hid hit6; clear hit6
            have Hit7 := Lib.hid hit7; clear hit7
            clear hz6
            refine (kind_calls _ (by omega) (by omega) X1 (hT.below hB6)).mono ?_
            rintro e X2 ⟨rfl, hx2⟩
            have hB7 : Below w.heap.size w X2 := hB6.trans (hx2.mono hB6.size)
            have Hit8 := Lib.hid (Hit6.out.below hx2 Hit6.out.lt)
            have Hit9 := Lib.hid (Hit7.out.below hx2 Hit7.out.lt)
            rcases kind_of_in G2.out with hkk | hkk | hkk
            · rw [hkk]
              have hla2 : letAt s (p + i) = true := by unfold letAt; rw [decide_eq_true g1, hkk]; rfl
              have Hkk := Lib.hid hkk; clear hkk
              have hpi : (p : Int) + (i : Int) ≤ 9223372036854775807 := by omega
              have hpi2 : (p : Int) + (i : Int) = ((p + i : Nat) : Int) := by omega
              have Hpi2 := Lib.hid hpi2; clear hpi2
              go_wp2_with fail
              rw [Hpi2.out]
              refine (span_yes s (p + i) hsm (by omega) hla2 X2 (hT.below hB7) (utabs_below hU hB7)).mono ?_
              rintro e X3 ⟨rfl, hx3⟩
              have hB8 : Below w.heap.size w X3 := hB7.trans (hx3.mono hB7.size)
              have hit10 := Hit8.out.below hx3 Hit8.out.lt
              have hit11 := Hit9.out.below hx3 Hit9.out.lt
              rw [Hc.out]
              clear hx2 hx3 hla2
              go_wp2_with fail
              refine ⟨⟨i + (Utf8.decode s (p + i)).2, k + 1, by omega, by go_num, by omega, ?_, by rw [← Nat.add_assoc]; exact G4.out, hit10, hit11, hB8⟩, ?_⟩
              · have := Hlen.out; rw [Hst.out, List.length_cons] at this; omega
              · rw [Hw2.out, hit10.pos]; omega
            all_goals
              rw [hkk]
              have Hkk := Lib.hid hkk
              clear hkk hx2
              go_wp2_with fail
              refine ⟨⟨i + (Utf8.decode s (p + i)).2, k + 1, by omega, by go_num, by omega, ?_, by rw [← Nat.add_assoc]; exact G4.out, Hit8.out, Hit9.out, hB7⟩, ?_⟩
              · have := Hlen.out; rw [Hst.out, List.length_cons] at this; omega
              · rw [Hw2.out, Hit8.out.pos]; omega
          · have hil : ¬ i < t.size := by rw [Hts.out]; omega
            have hnx : ∀ ty, (Instr.next (.pointer (some ⟨W3.heap.size, 0, none⟩)) true ty).run Tryd.prog wr = _ := fun ty => Lib.run_next_end_at wr W3.heap.size t i ty hit4' hil
            have hkl : k = (runes t 0).length := by have := Hlen.out; rw [runes_end hil] at this; simpa using this
            have Hkl := Lib.hid hkl; clear hkl
            have Hit5 := Lib.hid hit5; clear hit5
            clear hit4 hit4'
            have h64 : (s.extract E s.size).size = s.size - E := Lib.tail_size s E
            have H64 := Lib.hid h64; clear h64
            go_wp2_with fail
            rw [HT1.out]
            refine (name_calls t (by rw [Hts.out]; unfold maxLen; omega) wr (hT.below hB4)).mono ?_
            rintro e X1 ⟨rfl, hx1⟩
            have hB5 : Below w.heap.size w X1 := hB4.trans (hx1.mono hB4.size)
            have Hit6 := Lib.hid (Hit5.out.below hx1 Hit5.out.lt)
            rw [Hname.out, ← Hkl.out]
            clear hx1
            have hkd : decide (k ≤ 16) = decide ((k : Int) ≤ 16) := by rw [decide_eq_decide]; omega
            rw [hkd]
            clear hkd
            have heq : (decide ((k : Int) ≤ 16) == decide ((k : Int) ≤ 16)) = true := by simp
            have hbeq : (decide ((k : Int) ≤ 16) != decide ((k : Int) ≤ 16)) = false := by simp
            go_wp2_with fail
            generalize hT2 : s.extract E s.size = t2 at *
            have HT2 := Lib.hid hT2; clear hT2
            have hy0 := It.new X1 t2
            have hy1 : It (X1.iter t2 0) w1.heap.size s (p + (Utf8.decode s p).2) := Hit6.out.below ((Below.refl _ X1).alloc (Nat.le_refl _) (.stringIter t2 0)) Hit6.out.lt
            have hBy : Below w.heap.size w (X1.iter t2 0) := hB5.alloc hB5.size _
            have hy0' : (X1.iter t2 0).heap[X1.heap.size]? = some (.stringIter t2 0) := hy0
            by_cases hE2 : E < s.size
            · have h64 := H64.out
              have hnx : ∀ ty, (Instr.next (.pointer (some ⟨X1.heap.size, 0, none⟩)) true ty).run Tryd.prog (X1.iter t2 0) = .ok (.tuple #[.bool true, .int .i64 ((0 : Nat) : Int), .int .i32 (Utf8.decode s E).1]) ((X1.iter t2 0).iterAt X1.heap.size t2 (Utf8.decode s E).2) := fun ty => by
                have := Lib.run_next_any_at (P := Tryd.prog) (X1.iter t2 0) X1.heap.size t2 0 ty hy0' (by omega)
                rw [← HT2.out, Lib.tail_decode, Nat.add_zero, Nat.zero_add, HT2.out] at this
                exact this
              have hout := kind_of_out (Hstop.out hE2)
              have hd9 := decode_int s E
              have hy2 := hy1.other (j := X1.heap.size) (u := t2) (m := (Utf8.decode s E).2) (Nat.ne_of_lt Hit6.out.lt)
              have hBy2 := Lib.below_iterAt hBy hB5.size t2 (Utf8.decode s E).2
              clear h64 hy0 hy0' hBy
              refine wp_loop_once ?_
              go_wp2_with fail
              generalize (X1.iter t2 0).iterAt X1.heap.size t2 (Utf8.decode s E).2 = Y1 at *
              have Hy2 := Lib.hid hy2; clear hy2 hy1
              refine (kind_calls _ (by omega) (by omega) Y1 (hT.below hBy2)).mono ?_
              rintro e Y2 ⟨rfl, hz2⟩
              have hBy3 : Below w.heap.size w Y2 := hBy2.trans (hz2.mono hBy2.size)
              have hy3 := Hy2.out.below hz2 Hy2.out.lt
              obtain ⟨o1, o2, o3⟩ := hout
              have o1' : (kindI ((Utf8.decode s E).1 : Int) == 1) = false := by simpa using o1
              have o2' : (kindI ((Utf8.decode s E).1 : Int) == 2) = false := by simpa using o2
              have o3' : (kindI ((Utf8.decode s E).1 : Int) == 5) = false := by simpa using o3
              clear o1 o2 o3 hz2
              go_wp2_with fail
              all_goals refine ⟨⟨p + (Utf8.decode s p).2, hwl, hy3, hBy3⟩, ?_⟩
              all_goals rw [Hw.out, hy3.pos]
              all_goals omega
            · have hnx : ∀ ty, (Instr.next (.pointer (some ⟨X1.heap.size, 0, none⟩)) true ty).run Tryd.prog (X1.iter t2 0) = _ := fun ty => Lib.run_next_end_at (X1.iter t2 0) X1.heap.size t2 0 ty hy0' (by rw [H64.out]; omega)
              clear hy0 hy0'
              refine wp_loop_once ?_
              go_wp2_with fail
              all_goals refine ⟨⟨p + (Utf8.decode s p).2, hwl, hy1, hBy⟩, ?_⟩
              all_goals rw [Hw.out, hy1.pos]
              all_goals omega
      · have hk1 : (kindI ((Utf8.decode s p).1 : Int) == 1) = false := by rw [← hla, hl]
        refine (span_no s p hp hl W1 (hT.below hBA) (utabs_below hU hBA)).mono ?_
        rintro e W2 ⟨rfl, hb2⟩
        have hB2 : Below w.heap.size w W2 := hBA.trans (hb2.mono hBA.size)
        have Hit2 := Lib.hid (HitA.out.below hb2 HitA.out.lt)
        clear hla hl hb2
        go_wp2_with fail
        refine (kind_calls _ (by omega) (by omega) W2 (hT.below hB2)).mono ?_
        rintro e W3 ⟨rfl, hb3⟩
        have hB3 : Below w.heap.size w W3 := hB2.trans (hb3.mono hB2.size)
        have hit3 := Hit2.out.below hb3 Hit2.out.lt
        clear hb3
        go_wp2_with fail
        all_goals refine ⟨⟨p + (Utf8.decode s p).2, hwl, hit3, hB3⟩, ?_⟩
        all_goals rw [Hw.out, hit3.pos]
        all_goals omega
    · have hnx : ∀ ty, (Instr.next (.pointer (some ⟨w1.heap.size, 0, none⟩)) true ty).run Tryd.prog wo = _ := fun ty => Lib.run_next_end_at wo w1.heap.size s p ty hit' hlt
      clear hit hit'
      go_wp2_with fail
      go_ret
      exact ⟨rfl, hB⟩
end Go.Proofs.YtkdpmbjcdbmffaaDoor
