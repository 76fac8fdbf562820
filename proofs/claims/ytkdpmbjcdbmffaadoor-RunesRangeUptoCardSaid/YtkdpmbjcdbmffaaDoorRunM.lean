/- The walk of runes.Column. -/
import Derived.Test.YtkdpmbjcdbmffaaDoorRunL
import Derived.Test.YtkdpmbjcdbmffaaDoorShelf
import Derived.Lib.LastIndexByte
import Derived.Lib.Bytealg
namespace Go.Proofs.YtkdpmbjcdbmffaaDoor
open Go.RowKit Pl

theorem byt_bang (h : ByteArray) (j : Nat) (hj : j < h.size) : (h.data[j]!).toNat = byt h j := by
  unfold byt
  have h1 : j < h.data.size := hj
  rw [getElem!_pos h.data j h1, List.getD_eq_getElem?_getD, List.getElem?_eq_getElem (by rw [Array.length_toList]; exact h1)]
  rfl
theorem byt_head (s : ByteArray) (p j : Nat) (hj : j < p) : byt (s.extract 0 p) j = byt s j := by
  unfold byt
  rw [piece_getD s 0 p j (by omega), Nat.zero_add]
theorem head_size (s : ByteArray) (p : Nat) (hp : p ≤ s.size) : (s.extract 0 p).size = p := by rw [piece_size s 0 p hp, Nat.sub_zero]
theorem last_from (s : ByteArray) (p : Nat) (hp : p ≤ s.size) : ∀ k, k ≤ p → Lib.lastIdx (s.extract 0 p) 10 k + 1 = fromN s k
  | 0, _ => rfl
  | k + 1, hk => by
    have ih := last_from s p hp k (by omega)
    unfold Lib.lastIdx fromN
    have hb : ((s.extract 0 p).data[k]!).toNat = byt s k := by rw [byt_bang _ _ (by rw [head_size s p hp]; omega), byt_head s p k (by omega)]
    rw [hb]
    by_cases h : byt s k = 10
    · rw [if_pos (by omega), if_pos h]; omega
    · rw [if_neg (by omega), if_neg h]; exact ih
theorem count_line (s : ByteArray) : ∀ k, k ≤ s.size → lineN s k = 1 + (s.data.toList.take k).count 10
  | 0, _ => by simp [lineN]
  | k + 1, hk => by
    have ih := count_line s k (by omega)
    have hl : k < s.data.toList.length := by rw [len_eq]; omega
    rw [List.take_succ_eq_append_getElem hl, List.count_append]
    have hb : byt s k = (s.data.toList[k]).toNat := by
      unfold byt
      rw [List.getD_eq_getElem?_getD, List.getElem?_eq_getElem hl]
      rfl
    generalize s.data.toList[k] = b at *
    by_cases h : byt s k = 10
    · rw [line_nl h, ih]
      have : b = 10 := by rw [hb] at h; exact UInt8.toNat_inj.1 h
      subst this
      simp
      omega
    · rw [line_no h, ih]
      have : b ≠ 10 := fun e => h (by rw [hb, e]; rfl)
      rw [List.count_singleton]
      have : (b == 10) = false := by simp [this]
      simp [this]
theorem head_list (s : ByteArray) (p : Nat) (hp : p ≤ s.size) : (s.extract 0 p).data.toList = s.data.toList.take p := by
  rw [ByteArray.data_extract, Array.toList_extract]
  simp
theorem head_tail (s : ByteArray) (f p : Nat) (hp : p ≤ s.size) (hf : f ≤ p) : (s.extract 0 p).extract f (s.extract 0 p).size = s.extract f p := by
  rw [head_size s p hp, ByteArray.extract_extract, Nat.zero_add, Nat.zero_add, Nat.min_self]

set_option maxHeartbeats 400000 in
theorem column_calls (s : ByteArray) (p : Nat) (hs : s.size ≤ 140737488351232) (hp : p ≤ s.size) (w : World) :
    Calls Tryd.prog 20 #[.string s, .int .i64 p] w fun e w' => e = .returned (.tuple #[.int .i64 (lineN s p), .int .i64 (((runes (s.extract (fromN s p) p) 0).length + 1 : Nat) : Int), .int .i64 0]) ∧ Below w.heap.size w w' := by
  have b0 : decide ((p : Int) < 0) = false := decide_eq_false (by omega)
  have b1 : decide ((s.size : Int) < (p : Int)) = false := decide_eq_false (by omega)
  have q0 : ((p : Int) ≤ (s.size : Int)) = True := eq_true (by omega)
  have hlf := last_from s p hp p (Nat.le_refl _)
  have hff := from_le s p
  have hhs := head_size s p hp
  have HT := Lib.hid (head_tail s (fromN s p) p hp hff)
  have HL := Lib.hid (head_list s p hp)
  have HC := Lib.hid (count_line s p hp)
  go_enter Tryd.func20, Tryd.ntmps20
  go_wp2_with fail
  have hli : Lib.lastIndexByte (s.extract 0 p) 10 = (fromN s p : Int) - 1 := by unfold Lib.lastIndexByte; rw [hhs]; omega
  have hlb : (s.extract 0 p).size < 4611686018427387904 := by omega
  generalize hH : s.extract 0 p = hd at *
  have HH := Lib.hid hH; clear hH
  have HF := Lib.hid hlf; clear hlf
  refine (Tryd.strings_LastIndexByte hd 10 hlb w).mono ?_
  rintro e w1 ⟨rfl, rfl⟩
  rw [hli]
  have HLI := Lib.hid hli; clear hli
  have r0 : (0 ≤ (fromN s p : Int)) = True := eq_true (by omega)
  have r1 : ((fromN s p : Int) ≤ (hd.size : Int)) = True := eq_true (by omega)
  go_wp2_with fail
  have HT2 := HT.out
  rw [hhs] at HT2
  rw [HT2]
  clear HT2
  have ht : Hid ((s.extract (fromN s p) p).size ≤ s.size) := Lib.hid (by rw [ByteArray.size_extract]; omega)
  generalize htt : s.extract (fromN s p) p = t at *
  have Htt := Lib.hid htt; clear htt
  obtain ⟨n, hn⟩ : ∃ n, n = Lib.countByte hd.data.toList 10 := ⟨_, rfl⟩
  have hln : Hid (lineN s p = 1 + n) := Lib.hid (by rw [HC.out, hn, ← HL.out]; rfl)
  have hnb : n ≤ s.size := by
    have h1 := hln.out
    have h2 := line_le s p
    omega
  have HN := Lib.hid hn; clear hn r0 r1 q0 b0 b1
  go_loopw [5] (fun v5 w' => ∃ q k : Nat, q ≤ t.size ∧ v5 = .int .i64 ((k + 1 : Nat) : Int) ∧ Hid (k + (runes t q).length = (runes t 0).length) ∧ w' = w1.iter t q) (fun _ w' => t.size - w'.iterPos w1.heap.size)
  case atStart => exact ⟨0, 0, by omega, rfl, Lib.hid (by omega), rfl⟩
  case round =>
    obtain ⟨q, k, hq, rfl, Hc, rfl⟩ := hrel
    have hkl : k ≤ s.size := by
      have h1 := Hc.out
      have h2 := runes_length t 0
      have h3 := ht.out
      omega
    by_cases hlt : q < t.size
    · have hnx : ∀ ty, (Instr.next (.pointer (some ⟨w1.heap.size, 0, none⟩)) true ty).run Tryd.prog (w1.iter t q) = _ := fun ty => run_next_any w1 t q ty hlt
      have hst := Lib.hid (runes_step hlt)
      have hwd := wd_pos t q
      have hwl := wd_le t q hlt
      go_wp2_with fail
      refine ⟨⟨q + (Utf8.decode t q).2, k + 1, by omega, by go_num, Lib.hid (by rw [← Hc.out, hst.out, List.length_cons]; omega), rfl⟩, ?_⟩
      simp
      omega
    · have hnx : ∀ ty, (Instr.next (.pointer (some ⟨w1.heap.size, 0, none⟩)) true ty).run Tryd.prog (w1.iter t q) = _ := fun ty => run_next_end w1 t q ty hlt
      have hk : (runes t 0).length = k := by rw [← Hc.out, runes_end hlt]; simp
      have Hk := Lib.hid hk; clear hk
      go_wp2_with fail
      refine (Tryd.strings_Count_one hd 10 _).mono ?_
      rintro e w2 ⟨rfl, rfl⟩
      rw [← HN.out]
      go_wp2_with fail
      go_ret3
      refine ⟨?_, (Below.refl _ _).alloc (Nat.le_refl _) _⟩
      rw [Htt.out, Hk.out, hln.out]
      first
        | rfl
        | trace_state
end Go.Proofs.YtkdpmbjcdbmffaaDoor
