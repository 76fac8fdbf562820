/- The walk of Number. -/
import Derived.Test.YtkdpmbjcdbmffaaDoorRunG
import Derived.Test.YtkdpmbjcdbmffaaDoorPlG
namespace Go.Proofs.YtkdpmbjcdbmffaaDoor
open Go.RowKit Pl

/-- the digit 0 of the script of the digit that begins at p; 0: none does -/
def zeroAt (s : ByteArray) (p : Nat) : Int := if p < s.size then zeroI ((Utf8.decode s p).1 : Int) else 0
theorem decodeGo_zero (s : ByteArray) (p : Nat) : zeroI ((Lib.decodeGo (s.extract p s.size)).1 : Int) = zeroAt s p := by
  unfold zeroAt
  by_cases h : p < s.size
  · rw [decodeGo_at s p h, if_pos h]
  · rw [decodeGo_end s p h, if_neg h]; decide
theorem u64w (n : Int) : IntKind.u64.wrap n = w64 n := by
  unfold IntKind.wrap w64
  simp [IntKind.bits, IntKind.signed]
theorem u64w2 (m d : Int) : IntKind.u64.wrap (IntKind.u64.wrap (10 * m) + d) = w64 (10 * m + d) := by
  rw [u64w, u64w]; unfold w64; omega
theorem w64_id {n : Int} (h0 : 0 ≤ n) (h1 : n ≤ 18446744073709551615) : w64 n = n := by unfold w64; omega
theorem lgB_t {n d : Int} (h : (18446744073709551615 - d) / 10 < n) : lgB n d = true := decide_eq_true h
theorem lgB_f {n d : Int} (h : n ≤ (18446744073709551615 - d) / 10) : lgB n d = false := decide_eq_false (by omega)
/-- what Number answers -/
def numVal (r : Int × Nat × Bool) : Value := if r.2.2 = true then .tuple #[.int .u64 0, .int .i64 0, .int .i64 10] else .tuple #[.int .u64 r.1, .int .i64 r.2.1, .int .i64 0]

set_option maxRecDepth 100000 in
set_option maxHeartbeats 4000000 in
theorem number_no (s : ByteArray) (p : Nat) (hp : p ≤ s.size) (hz : zeroAt s p = 0) (w : World) (hT : Tabs w) (hU : UTabs w) :
    Calls Tryd.prog 19 #[.string s, .int .i64 p] w fun e w' => e = .returned (.tuple #[.int .u64 0, .int .i64 0, .int .i64 11]) ∧ Below w.heap.size w w' := by
  have hbd := decodeGo_bd s p
  have hk := decodeGo_zero s p
  rw [hz] at hk
  go_enter Tryd.func19, Tryd.ntmps19
  go_wp2_with fail
  refine (Go.Proofs.Tryd.utf8_DecodeRuneInString _ w hU).mono ?_
  rintro e w1 ⟨rfl, hb1⟩
  generalize (Lib.decodeGo (s.extract p s.size)).1 = r at *
  go_wp2_with fail
  refine (zero_calls r (by omega) (by omega) w1 (hT.below hb1)).mono ?_
  rintro e w2 ⟨rfl, rfl⟩
  have hdg : digB (r : Int) = false := by unfold digB; rw [hk]; rfl
  rw [hdg]
  clear hk
  go_wp2_with fail
  go_ret3
  exact ⟨rfl, hb1⟩

set_option maxRecDepth 100000 in
set_option maxHeartbeats 4000000 in
theorem number_yes (s : ByteArray) (p : Nat) (hs : s.size ≤ maxLen) (hp : p ≤ s.size) (hz : zeroAt s p ≠ 0) (w : World) (hT : Tabs w) (hU : UTabs w) :
    Calls Tryd.prog 19 #[.string s, .int .i64 p] w fun e w' => e = .returned (numVal (numV s (zeroAt s p) p 0 false)) ∧ Below w.heap.size w w' := by
  unfold maxLen at hs
  have hbd := decodeGo_bd s p
  have hk := decodeGo_zero s p
  have hts : (s.extract p s.size).size = s.size - p := Lib.tail_size s p
  have hdt : ∀ q, Utf8.decode (s.extract p s.size) q = Utf8.decode s (p + q) := fun q => Lib.tail_decode s p q
  have Hdt := Lib.hid hdt; clear hdt
  have hp0 : decide ((p : Int) < 0) = false := by simp
  go_enter Tryd.func19, Tryd.ntmps19
  go_wp2_with fail
  refine (Go.Proofs.Tryd.utf8_DecodeRuneInString _ w hU).mono ?_
  rintro e w1 ⟨rfl, hb1⟩
  generalize (Lib.decodeGo (s.extract p s.size)).1 = r at *
  generalize (Lib.decodeGo (s.extract p s.size)).2 = r2 at *
  go_wp2_with fail
  refine (zero_calls r (by omega) (by omega) w1 (hT.below hb1)).mono ?_
  rintro e w2 ⟨rfl, rfl⟩
  have hdg : digB (r : Int) = true := by unfold digB; rw [hk]; simpa using hz
  rw [hdg, hk]
  have hzc : 0 ≤ zeroAt s p ∧ zeroAt s p ≤ 65296 := by
    rcases zeroI_cases (r : Int) with h | h
    · omega
    · omega
  have Hts := Lib.hid hts; clear hts
  clear hk hdg
  generalize hzz : zeroAt s p = z at *
  have Hzz := Lib.hid hzz; clear hzz
  have Hz := Lib.hid hz; clear hz
  go_wp2_with fail
  generalize s.extract p s.size = t at *
  go_loopw [11, 12, 13, 14, 15, 16, 17, 18] (fun n e l _ _ _ _ _ w' => ∃ (q : Nat) (m : Int) (b : Bool), q ≤ t.size ∧ n = .int .u64 m ∧ 0 ≤ m ∧ m ≤ 18446744073709551615 ∧ e = .int .i64 s.size ∧ l = .bool b ∧ It w' w1.heap.size t q ∧ Below w1.heap.size w1 w' ∧ numV s z (p + q) m b = numV s z p 0 false) (fun _ _ _ _ _ _ _ _ w' => t.size - w'.iterPos w1.heap.size)
  case atStart => exact ⟨0, 0, false, by omega, rfl, by omega, by omega, rfl, rfl, It.new _ _, (Below.refl _ _).alloc (Nat.le_refl _) _, rfl⟩
  case round =>
    obtain ⟨q, m, b, hq, rfl, hm0, hm1, rfl, rfl, hit, hb, hc⟩ := hrel
    have Hc := Lib.hid hc; clear hc
    have hBr : Below w.heap.size w wr := hb1.trans (hb.mono hb1.size)
    have hlt0 := hit.lt
    have hts := Hts.out
    have hit' : wr.heap[w1.heap.size]? = some (.stringIter t q) := hit
    by_cases hlt : q < t.size
    · have hnx : ∀ ty, (Instr.next (.pointer (some ⟨w1.heap.size, 0, none⟩)) true ty).run Tryd.prog wr = .ok (.tuple #[.bool true, .int .i64 q, .int .i32 (Utf8.decode s (p + q)).1]) (wr.iterAt w1.heap.size t (q + (Utf8.decode s (p + q)).2)) := fun ty => by
        have := Lib.run_next_any_at (P := Tryd.prog) wr w1.heap.size t q ty hit' hlt
        rw [Hdt.out] at this
        exact this
      have hpq : p + q < s.size := by omega
      have hd := decode_int s (p + q)
      have hwp := wd_pos s (p + q)
      have hwl := wd_le s (p + q) hpq
      have hit1 := hit.moved (q + (Utf8.decode s (p + q)).2)
      have hb1' := Lib.below_iterAt hb (Nat.le_refl _) t (q + (Utf8.decode s (p + q)).2)
      have hz1 := Lib.iterAt_size wr w1.heap.size t (q + (Utf8.decode s (p + q)).2)
      have Hw := Lib.hid hit.pos
      have Hst : Hid (∀ (n : Int) (l : Bool), numV s z (p + q) n l = if zeroI ((Utf8.decode s (p + q)).1 : Int) = z then numV s z (p + q + (Utf8.decode s (p + q)).2) (w64 (10 * n + (((Utf8.decode s (p + q)).1 : Int) - z))) (l || lgB n (((Utf8.decode s (p + q)).1 : Int) - z)) else (n, p + q, l)) := Lib.hid (fun n l => numV_step hpq)
      have Hts2 := Lib.hid hts; clear hts
      clear hit hit'
      go_wp2_with fail
      generalize wr.iterAt w1.heap.size t (q + (Utf8.decode s (p + q)).2) = W1 at *
      rw [← hz1] at hlt0
      have Hit1 := Lib.hid hit1; clear hit1
      clear hz1
      have hBW : Below w.heap.size w W1 := hb1.trans (hb1'.mono hb1.size)
      refine (zero_calls _ (by omega) (by omega) W1 (hT.below hBW)).mono ?_
      rintro e W2 ⟨rfl, rfl⟩
      generalize hxx : ((Utf8.decode s (p + q)).1 : Int) = x at *
      have Hxx := Lib.hid hxx; clear hxx
      by_cases hzx : zeroI x = z
      · have hdx : digB x = true := by unfold digB; rw [hzx]; simpa using Hz.out
        have hxz : 0 ≤ x - z ∧ x - z ≤ 9 := by
          rcases zeroI_cases x with h | h
          · rw [hzx] at h; omega
          · exfalso; apply Hz.out; rw [← hzx]; exact h.2
        rw [hdx, hzx]
        have Hzx := Lib.hid hzx; clear hzx hdx
        go_wp2_with fail
        · have hl : (18446744073709551615 - (x - z)) / 10 < m := by assumption
          have hr : numV s z (p + (q + (Utf8.decode s (p + q)).2)) (w64 (10 * m + (x - z))) true = numV s z p 0 false := by
            rw [← Hc.out, Hst.out, if_pos Hzx.out, lgB_t hl, Bool.or_true, Nat.add_assoc]
          refine ⟨⟨q + (Utf8.decode s (p + q)).2, w64 (10 * m + (x - z)), true, by rw [Hts.out]; omega, by rw [u64w2], (w64_bd _).1, (w64_bd _).2, rfl, rfl, Hit1.out, hb1', hr⟩, ?_⟩
          rw [Hw.out, Hit1.out.pos]
          omega
        · have hl : m ≤ (18446744073709551615 - (x - z)) / 10 := by assumption
          have hid : w64 (10 * m + (x - z)) = 10 * m + (x - z) := w64_id (by omega) (by omega)
          have hr : numV s z (p + (q + (Utf8.decode s (p + q)).2)) (10 * m + (x - z)) b = numV s z p 0 false := by
            rw [← Hc.out, Hst.out, if_pos Hzx.out, lgB_f hl, Bool.or_false, Nat.add_assoc, hid]
          refine ⟨⟨q + (Utf8.decode s (p + q)).2, 10 * m + (x - z), b, by rw [Hts.out]; omega, rfl, by omega, by omega, rfl, rfl, Hit1.out, hb1', hr⟩, ?_⟩
          rw [Hw.out, Hit1.out.pos]
          omega
      · have hzx1 : (zeroI x == z) = false := by simpa using hzx
        have hzx2 : (zeroI x != z) = true := by simpa using hzx
        have hpq2 : (p : Int) + (q : Int) ≤ 9223372036854775807 := by omega
        have hr : numV s z p 0 false = (m, p + q, b) := by rw [← Hc.out, Hst.out, if_neg hzx]
        have Hr := Lib.hid hr; clear hr hzx
        cases hdx : digB x with
        | true =>
          have Hdx := Lib.hid hdx; clear hdx
          cases b with
          | true =>
            go_wp2_with fail
            go_ret3
            exact ⟨by rw [Hzz.out, Hr.out]; rfl, hBW⟩
          | false =>
            go_wp2_with fail
            go_ret3
            exact ⟨by rw [Hzz.out, Hr.out]; simp [numVal], hBW⟩
        | false =>
          have Hdx := Lib.hid hdx; clear hdx
          cases b with
          | true =>
            go_wp2_with fail
            go_ret3
            exact ⟨by rw [Hzz.out, Hr.out]; rfl, hBW⟩
          | false =>
            go_wp2_with fail
            go_ret3
            exact ⟨by rw [Hzz.out, Hr.out]; simp [numVal], hBW⟩
    · have hnx : ∀ ty, (Instr.next (.pointer (some ⟨w1.heap.size, 0, none⟩)) true ty).run Tryd.prog wr = _ := fun ty => Lib.run_next_end_at wr w1.heap.size t q ty hit' hlt
      have he : p + q = s.size := by omega
      have hr : numV s z p 0 false = (m, s.size, b) := by rw [← Hc.out, numV_end (by omega), he]
      have Hr := Lib.hid hr; clear hr he
      have Hts2 := Lib.hid hts; clear hts
      clear hit hit'
      cases b with
      | true =>
        go_wp2_with fail
        go_ret3
        exact ⟨by rw [Hzz.out, Hr.out]; rfl, hBr⟩
      | false =>
        go_wp2_with fail
        go_ret3
        exact ⟨by rw [Hzz.out, Hr.out]; rfl, hBr⟩
end Go.Proofs.YtkdpmbjcdbmffaaDoor
