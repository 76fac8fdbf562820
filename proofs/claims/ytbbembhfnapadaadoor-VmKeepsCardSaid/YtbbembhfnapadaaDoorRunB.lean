/- The walks of the functions of runes that tell names and the order, and of their references. -/
import Derived.Test.YtbbembhfnapadaaDoorRunA
import Derived.Test.YtbbembhfnapadaaDoorPlB
namespace Go.Proofs.YtbbembhfnapadaaDoor
open Go.RowKit Pl

theorem lpre_calls (s t : ByteArray) (_ : s.size ≤ maxLen) (_ : t.size ≤ maxLen) (w : World) :
    Calls Tryd.prog 160 #[.string s, .string t] w fun e w' => e = .returned (.bool (decide (t.size ≤ s.size) && (s.extract 0 t.size).toList == t.toList)) ∧ w = w' := by
  by_cases h : t.size ≤ s.size
  · go_enter Tryd.func160, Tryd.ntmps160
    go_wp2
    go_ret
    exact ⟨by simp [h], rfl⟩
  · go_enter Tryd.func160, Tryd.ntmps160
    go_wp2
    go_ret
    exact ⟨by simp [h], rfl⟩
theorem pre_calls (s t : ByteArray) (hs : s.size ≤ maxLen) (ht : t.size ≤ maxLen) (w : World) :
    Calls Tryd.prog 140 #[.string s, .string t] w fun e w' => e = .returned (.bool (decide (t.size ≤ s.size) && (s.extract 0 t.size).toList == t.toList)) ∧ w = w' := by
  go_enter Tryd.func140, Tryd.ntmps140
  go_wp2_with fail
  refine (lpre_calls s t hs ht w).mono ?_
  rintro e w' ⟨rfl, rfl⟩
  go_wp2_with fail
  go_ret
  exact ⟨rfl, rfl⟩
theorem bad_calls (s : ByteArray) (p : Nat) (hs : s.size ≤ maxLen) (hp : p < s.size) (w : World) :
    Calls Tryd.prog 124 #[.string s, .int .i64 p, .int .i32 (Utf8.decode s p).1] w fun e w' => e = .returned (.bool (badB s p)) ∧ w = w' := by
  have hs' := hs
  unfold maxLen at hs'
  by_cases h : (Utf8.decode s p).1 = 65533
  · have hb := bad_eq s p h
    have Hb := Lib.hid hb; clear hb
    have hg : (((Utf8.decode s p).1 : Int) == 65533) = true := by rw [h]; rfl
    have Hh := Lib.hid h; clear h
    go_enter Tryd.func124, Tryd.ntmps124
    go_wp2_with fail
    refine (pre_calls (s.extract p s.size) ⟨#[239, 191, 189]⟩ (by rw [Lib.tail_size]; unfold maxLen at hs ⊢; omega) (by decide) w).mono ?_
    rintro e w' ⟨rfl, rfl⟩
    have e3 : (decide ((⟨#[239, 191, 189]⟩ : ByteArray).size ≤ (s.extract p s.size).size) && ((s.extract p s.size).extract 0 (⟨#[239, 191, 189]⟩ : ByteArray).size).toList == (⟨#[239, 191, 189]⟩ : ByteArray).toList) = !badB s p := by
      rw [ByteArray.toList_eq ⟨#[239, 191, 189]⟩]
      exact Hb.out
    rw [e3]
    clear e3
    go_wp2_with fail
    go_ret
    exact ⟨by simp, rfl⟩
  · have hg : (((Utf8.decode s p).1 : Int) == 65533) = false := by simp; omega
    have Hh := Lib.hid h; clear h
    go_enter Tryd.func124, Tryd.ntmps124
    go_wp2_with fail
    go_ret
    exact ⟨by unfold badB; rw [decide_eq_false Hh.out]; rfl, rfl⟩
theorem inname_calls (r : Int) (h0 : -2147483648 ≤ r) (h1 : r ≤ 2147483647) (w : World) (hT : Tabs w) :
    Calls Tryd.prog 126 #[.int .i32 r] w fun e w' => e = .returned (.bool (inName r)) ∧ Below w.heap.size w w' := by
  go_enter Tryd.func126, Tryd.ntmps126
  go_wp2_with fail
  refine (kind_calls r h0 h1 w hT).mono ?_
  rintro e w' ⟨rfl, hb⟩
  by_cases a : (kindI r == 1) = true
  · go_wp2_with fail
    go_ret
    exact ⟨by unfold inName; rw [a]; rfl, hb⟩
  · have a : (kindI r == 1) = false := by simpa using a
    by_cases b : (kindI r == 2) = true
    · go_wp2_with fail
      go_ret
      exact ⟨by unfold inName; rw [a, b]; rfl, hb⟩
    · have b : (kindI r == 2) = false := by simpa using b
      go_wp2_with fail
      go_ret
      exact ⟨by unfold inName; rw [a, b]; rfl, hb⟩

set_option maxHeartbeats 4000000 in
theorem name_calls (s : ByteArray) (hs : s.size ≤ maxLen) (w : World) (hT : Tabs w) :
    Calls Tryd.prog 93 #[.string s] w fun e w' => e = .returned (.bool (nameL (runes s 0))) ∧ Below w.heap.size w w' := by
  have hs' := hs
  unfold maxLen at hs'
  go_enter Tryd.func93, Tryd.ntmps93
  go_wp2
  go_loopw [3] (fun n w' => ∃ p k : Nat, p ≤ s.size ∧ k ≤ p ∧ n = .int .i64 k ∧ w'.heap[w.heap.size]? = some (.stringIter s p) ∧ Below w.heap.size w w' ∧ nameM k (runes s p) = nameL (runes s 0) ∧ (k = 0 → p = 0)) (fun _ w' => s.size - w'.iterPos w.heap.size)
  case atStart => exact ⟨0, 0, by omega, by omega, rfl, World.iter_heap _ _ _, (Below.refl _ _).alloc (Nat.le_refl _) _, rfl, fun _ => rfl⟩
  case round =>
    obtain ⟨p, k, hp, hk, rfl, hit, hb, hc, hk0⟩ := hrel
    have Hc := Lib.hid hc; clear hc
    have Hk0 := Lib.hid hk0; clear hk0
    have Hit := Lib.hid hit
    have hTr := hT.below hb
    have hlt0 : w.heap.size < wr.heap.size := (Array.getElem?_eq_some_iff.1 hit).1
    by_cases hlt : p < s.size
    · have hnx : ∀ ty, (Instr.next (.pointer (some ⟨w.heap.size, 0, none⟩)) true ty).run Tryd.prog wr = _ := fun ty => Lib.run_next_any_at wr w.heap.size s p ty hit hlt
      have hd := decode_int s p
      have hit1 := Lib.iterAt_heap wr w.heap.size s p (p + (Utf8.decode s p).2) hit
      have hb1 := Lib.below_iterAt hb (Nat.le_refl _) s (p + (Utf8.decode s p).2)
      have hz1 := Lib.iterAt_size wr w.heap.size s (p + (Utf8.decode s p).2)
      have hT1 := hT.below hb1
      have hwd := wd_pos s p
      have hwl := wd_le s p hlt
      have Hw : Hid (wr.iterPos w.heap.size = p) := Lib.hid (by unfold World.iterPos; rw [hit])
      clear hit
      go_wp2_with fail
      generalize wr.iterAt w.heap.size s (p + (Utf8.decode s p).2) = W1 at *
      rw [← hz1] at hlt0
      have Hit1 := Lib.hid hit1; clear hit1
      clear hz1
      refine (bad_calls s p hs hlt W1).mono ?_
      rintro e w' ⟨rfl, rfl⟩
      by_cases hbad : badB s p = true
      · go_wp2_with fail
        go_ret
        exact ⟨by rw [← Hc.out, runes_step hlt, nameM_bad (bad_kind hbad)]; rfl, hb1⟩
      · have hbad : badB s p = false := by simpa using hbad
        by_cases hk1 : k = 0
        · subst hk1
          obtain rfl : p = 0 := Hk0.out rfl
          go_wp2_with fail
          refine (kind_calls _ (by omega) (by omega) W1 hT1).mono ?_
          rintro e W2 ⟨rfl, hb2⟩
          have hB2 : Below w.heap.size w W2 := hb1.trans (hb2.mono hb1.size)
          by_cases h1 : kindI ((Utf8.decode s 0).1 : Int) = 1
          · rw [h1]
            have H1 := Lib.hid h1; clear h1
            go_wp2_with fail
            refine (inname_calls _ (by omega) (by omega) W2 (hT1.below (hb2.mono (Nat.le_refl _)))).mono ?_
            rintro e W3 ⟨rfl, hb3⟩
            have hin : inName ((Utf8.decode s 0).1 : Int) = true := by unfold inName; rw [H1.out]; rfl
            rw [hin]
            clear hin
            have hB3 : Below w.heap.size w W3 := hB2.trans (hb3.mono hB2.size)
            have hit3 : W3.heap[w.heap.size]? = some (.stringIter s (0 + (Utf8.decode s 0).2)) := (hb3.block _ (Nat.lt_of_lt_of_le hlt0 hb2.size)).trans ((hb2.block _ hlt0).trans Hit1.out)
            go_wp2_with fail
            refine ⟨⟨_, 1, hwl, by omega, rfl, hit3, hB3, ?_, by omega⟩, ?_⟩
            · rw [← Hc.out, runes_step hlt, nameM_first H1.out]
            · rw [Hw.out]; unfold World.iterPos; rw [hit3]; simp only []; omega
          · have h1' : (kindI ((Utf8.decode s 0).1 : Int) == 1) = false := by simpa using h1
            have H1 := Lib.hid h1; clear h1
            go_wp2_with fail
            go_ret
            exact ⟨by rw [← Hc.out, runes_step hlt, nameM_head H1.out]; rfl, hB2⟩
        · have hp0 : ((p : Int) == 0) = false := by simp; omega
          go_wp2_with fail
          refine (inname_calls _ (by omega) (by omega) W1 hT1).mono ?_
          rintro e W3 ⟨rfl, hb3⟩
          have hB3 : Below w.heap.size w W3 := hb1.trans (hb3.mono hb1.size)
          cases hin : inName ((Utf8.decode s p).1 : Int) with
          | false =>
            have Hin := Lib.hid hin; clear hin
            go_wp2_with fail
            go_ret
            exact ⟨by rw [← Hc.out, runes_step hlt, nameM_bad Hin.out]; rfl, hB3⟩
          | true =>
            have Hin := Lib.hid hin; clear hin
            have hit3 : W3.heap[w.heap.size]? = some (.stringIter s (p + (Utf8.decode s p).2)) := (hb3.block _ hlt0).trans Hit1.out
            go_wp2_with fail
            refine ⟨⟨_, k + 1, hwl, by omega, by go_num, hit3, hB3, ?_, by omega⟩, ?_⟩
            · rw [← Hc.out, runes_step hlt, nameM_next hk1 Hin.out]
            · rw [Hw.out]; unfold World.iterPos; rw [hit3]; simp only []; omega
    · have hnx : ∀ ty, (Instr.next (.pointer (some ⟨w.heap.size, 0, none⟩)) true ty).run Tryd.prog wr = _ := fun ty => Lib.run_next_end_at wr w.heap.size s p ty hit hlt
      clear hit
      go_wp2_with fail
      all_goals go_ret
      all_goals refine ⟨?_, hb⟩
      all_goals rw [← Hc.out, runes_end hlt, nameM_nil]
      all_goals (show Ending.returned (Value.bool _) = Ending.returned (Value.bool _); congr 2; rw [Bool.eq_iff_iff]; simp; omega)
end Go.Proofs.YtbbembhfnapadaaDoor
