/- The walks of Span and of the statement RunesSpans. -/
import Derived.Test.YtkdpmbjcdbmffaaDoorRunD
import Derived.Test.YtkdpmbjcdbmffaaDoorPlF
import Derived.Test.YtkdpmbjcdbmffaaDoorShelf
import Derived.Deep.DeepCutAuto
namespace Go.Proofs.YtkdpmbjcdbmffaaDoor
open Go.RowKit Pl

abbrev UTabs (w : World) : Prop := Lib.Utf8Tabs 2 3 w
theorem utabs_below {w w' : World} (h : UTabs w) (hb : Below w.heap.size w w') : UTabs w' := by
  obtain ⟨h1, h2⟩ := h
  refine ⟨fun c hc => ?_, fun i hi => ?_⟩
  · exact (hb.cell (World.block_lt_of_cell? w _ (h1 c hc))).trans (h1 c hc)
  · exact ⟨(hb.cell (World.block_lt_of_cell? w _ (h2 i hi).1)).trans (h2 i hi).1, (hb.cell (World.block_lt_of_cell? w _ (h2 i hi).2)).trans (h2 i hi).2⟩

/-- does a letter begin at p? -/
def letAt (s : ByteArray) (p : Nat) : Bool := decide (p < s.size) && (kindI ((Utf8.decode s p).1 : Int) == 1)
theorem decodeGo_at (s : ByteArray) (p : Nat) (h : p < s.size) : Lib.decodeGo (s.extract p s.size) = Utf8.decode s p := by
  unfold Lib.decodeGo
  rw [if_neg (by rw [Lib.tail_size]; omega), Lib.tail_decode, Nat.add_zero]
theorem decodeGo_end (s : ByteArray) (p : Nat) (h : ¬ p < s.size) : Lib.decodeGo (s.extract p s.size) = (65533, 0) := by
  unfold Lib.decodeGo
  rw [if_pos (by rw [Lib.tail_size]; omega)]
theorem decodeGo_bd (s : ByteArray) (p : Nat) : (0 : Int) ≤ ((Lib.decodeGo (s.extract p s.size)).1 : Int) ∧ ((Lib.decodeGo (s.extract p s.size)).1 : Int) ≤ 1114111 := by
  by_cases h : p < s.size
  · rw [decodeGo_at s p h]; have := Lib.rune_le s p; omega
  · rw [decodeGo_end s p h]; omega
theorem decodeGo_let (s : ByteArray) (p : Nat) : (kindI ((Lib.decodeGo (s.extract p s.size)).1 : Int) == 1) = letAt s p := by
  unfold letAt
  by_cases h : p < s.size
  · rw [decodeGo_at s p h, decide_eq_true h, Bool.true_and]
  · rw [decodeGo_end s p h, decide_eq_false h, Bool.false_and]; decide

set_option maxHeartbeats 4000000 in
theorem span_no (s : ByteArray) (p : Nat) (hp : p ≤ s.size) (hl : letAt s p = false) (w : World) (hT : Tabs w) (hU : UTabs w) :
    Calls Tryd.prog 18 #[.string s, .int .i64 p] w fun e w' => e = .returned (.tuple #[.int .i64 0, .int .i64 11]) ∧ Below w.heap.size w w' := by
  have hbd := decodeGo_bd s p
  have hk := decodeGo_let s p
  rw [hl] at hk
  go_enter Tryd.func18, Tryd.ntmps18
  go_wp2_with fail
  refine (Go.Proofs.Tryd.utf8_DecodeRuneInString _ w hU).mono ?_
  rintro e w1 ⟨rfl, hb1⟩
  generalize (Lib.decodeGo (s.extract p s.size)).1 = r at *
  go_wp2_with fail
  refine (kind_calls r (by omega) (by omega) w1 (hT.below hb1)).mono ?_
  rintro e w2 ⟨rfl, hb2⟩
  go_wp2_with fail
  go_ret2
  exact ⟨rfl, hb1.trans (hb2.mono hb1.size)⟩

set_option maxHeartbeats 4000000 in
theorem span_yes (s : ByteArray) (p : Nat) (hs : s.size ≤ maxLen) (hp : p ≤ s.size) (hl : letAt s p = true) (w : World) (hT : Tabs w) (hU : UTabs w) :
    Calls Tryd.prog 18 #[.string s, .int .i64 p] w fun e w' => e = .returned (.tuple #[.int .i64 (endOf s p), .int .i64 0]) ∧ Below w.heap.size w w' := by
  unfold maxLen at hs
  have hbd := decodeGo_bd s p
  have hk := decodeGo_let s p
  rw [hl] at hk
  have hts : (s.extract p s.size).size = s.size - p := Lib.tail_size s p
  have hdt : ∀ q, Utf8.decode (s.extract p s.size) q = Utf8.decode s (p + q) := fun q => Lib.tail_decode s p q
  have Hdt := Lib.hid hdt; clear hdt
  have hp0 : decide ((p : Int) < 0) = false := by simp
  go_enter Tryd.func18, Tryd.ntmps18
  go_wp2_with fail
  refine (Go.Proofs.Tryd.utf8_DecodeRuneInString _ w hU).mono ?_
  rintro e w1 ⟨rfl, hb1⟩
  generalize (Lib.decodeGo (s.extract p s.size)).1 = r at *
  generalize (Lib.decodeGo (s.extract p s.size)).2 = r2 at *
  have hk2 : (kindI (r : Int) != 1) = false := by rw [bne, hk]; rfl
  go_wp2_with fail
  refine (kind_calls r (by omega) (by omega) w1 (hT.below hb1)).mono ?_
  rintro e w2 ⟨rfl, hb2⟩
  have hB2 : Below w.heap.size w w2 := hb1.trans (hb2.mono hb1.size)
  have Hts := Lib.hid hts; clear hts
  go_wp2_with fail
  generalize s.extract p s.size = t at *
  clear hk hk2 hbd
  go_loopw [8, 9] (fun _ _ w' => ∃ q : Nat, q ≤ t.size ∧ w'.heap[w2.heap.size]? = some (.stringIter t q) ∧ Below w2.heap.size w2 w' ∧ endOf s (p + q) = endOf s p) (fun _ _ w' => t.size - w'.iterPos w2.heap.size)
  case atStart => exact ⟨0, by omega, World.iter_heap _ _ _, (Below.refl _ _).alloc (Nat.le_refl _) _, rfl⟩
  case round =>
    obtain ⟨q, hq, hit, hb, hc⟩ := hrel
    have Hc := Lib.hid hc; clear hc
    have hBr : Below w.heap.size w wr := hB2.trans (hb.mono hB2.size)
    have hlt0 : w2.heap.size < wr.heap.size := (Array.getElem?_eq_some_iff.1 hit).1
    have hts := Hts.out
    by_cases hlt : q < t.size
    · have hnx : ∀ ty, (Instr.next (.pointer (some ⟨w2.heap.size, 0, none⟩)) true ty).run Tryd.prog wr = .ok (.tuple #[.bool true, .int .i64 q, .int .i32 (Utf8.decode s (p + q)).1]) (wr.iterAt w2.heap.size t (q + (Utf8.decode s (p + q)).2)) := fun ty => by
        have := Lib.run_next_any_at (P := Tryd.prog) wr w2.heap.size t q ty hit hlt
        rw [Hdt.out] at this
        exact this
      have hd := decode_int s (p + q)
      have hwp := wd_pos s (p + q)
      have hwl := wd_le s (p + q) (by omega)
      have hit1 := Lib.iterAt_heap wr w2.heap.size t q (q + (Utf8.decode s (p + q)).2) hit
      have hb1' := Lib.below_iterAt hb (Nat.le_refl _) t (q + (Utf8.decode s (p + q)).2)
      have hz1 := Lib.iterAt_size wr w2.heap.size t (q + (Utf8.decode s (p + q)).2)
      have Hw : Hid (wr.iterPos w2.heap.size = q) := Lib.hid (by unfold World.iterPos; rw [hit])
      have Hts2 := Lib.hid hts; clear hts
      clear hit
      go_wp2_with fail
      generalize wr.iterAt w2.heap.size t (q + (Utf8.decode s (p + q)).2) = W1 at *
      rw [← hz1] at hlt0
      have Hit1 := Lib.hid hit1; clear hit1
      clear hz1
      have hBW : Below w.heap.size w W1 := hB2.trans (hb1'.mono hB2.size)
      refine (inname_calls _ (by omega) (by omega) W1 (hT.below hBW)).mono ?_
      rintro e W2 ⟨rfl, hbW2⟩
      have hBW2 : Below w.heap.size w W2 := hBW.trans (hbW2.mono hBW.size)
      rcases Bool.eq_false_or_eq_true (inName ((Utf8.decode s (p + q)).1 : Int)) with hin | hin
      · rw [hin]
        have Hin := Lib.hid hin; clear hin
        have hit3 : W2.heap[w2.heap.size]? = some (.stringIter t (q + (Utf8.decode s (p + q)).2)) := (hbW2.block _ hlt0).trans Hit1.out
        go_wp2_with fail
        refine ⟨⟨q + (Utf8.decode s (p + q)).2, by rw [Hts.out]; omega, hit3, hb1'.trans (hbW2.mono hb1'.size), ?_⟩, ?_⟩
        · rw [← Hc.out, endOf_step (p := p + q) (by rw [Hts.out] at hlt; omega), if_pos Hin.out, Nat.add_assoc]
        · rw [Hw.out]; unfold World.iterPos; rw [hit3]; simp only []; omega
      · rw [hin]
        have Hin := Lib.hid hin; clear hin
        have hpq : (p : Int) + (q : Int) ≤ 9223372036854775807 := by rw [Hts.out] at hlt; omega
        go_wp2_with fail
        go_ret2
        exact ⟨by rw [← Hc.out, endOf_step (p := p + q) (by rw [Hts.out] at hlt; omega), Hin.out]; simp, hBW2⟩
    · have hnx : ∀ ty, (Instr.next (.pointer (some ⟨w2.heap.size, 0, none⟩)) true ty).run Tryd.prog wr = _ := fun ty => Lib.run_next_end_at wr w2.heap.size t q ty hit hlt
      have he : p + q = s.size := by omega
      have He := Lib.hid he; clear he
      have Hts2 := Lib.hid hts; clear hts
      clear hit
      go_wp2_with fail
      go_ret2
      exact ⟨by rw [← Hc.out, endOf_end (p := p + q) (by rw [He.out]; omega), He.out]; rfl, hBr⟩

/-- block k is an iterator over t that stands at i -/
def It (w : World) (k : Nat) (t : ByteArray) (i : Nat) : Prop := w.heap[k]? = some (.stringIter t i)
theorem It.below {w w' : World} {k : Nat} {t : ByteArray} {i B : Nat} (h : It w k t i) (hb : Below B w w') (hk : k < B) : It w' k t i := (hb.block k hk).trans h
theorem It.lt {w : World} {k : Nat} {t : ByteArray} {i : Nat} (h : It w k t i) : k < w.heap.size := (Array.getElem?_eq_some_iff.1 h).1
theorem It.pos {w : World} {k : Nat} {t : ByteArray} {i : Nat} (h : It w k t i) : w.iterPos k = i := by unfold World.iterPos; rw [show w.heap[k]? = _ from h]
theorem It.new (w : World) (t : ByteArray) : It (w.iter t 0) w.heap.size t 0 := World.iter_heap _ _ _
theorem It.other {w : World} {k j : Nat} {t u : ByteArray} {i m : Nat} (h : It w k t i) (hj : k ≠ j) : It (w.iterAt j u m) k t i := (Lib.iterAt_other w j k u m hj).trans h
theorem It.moved {w : World} {k : Nat} {t : ByteArray} {i : Nat} (h : It w k t i) (m : Nat) : It (w.iterAt k t m) k t m := Lib.iterAt_heap w k t i m h

end Go.Proofs.YtkdpmbjcdbmffaaDoor
