/- The walk of the statement RunesDigits. -/
import Derived.Test.YtkdpmbjcdbmffaaDoorRunH
import Derived.Test.YtkdpmbjcdbmffaaDoorPlH
namespace Go.Proofs.YtkdpmbjcdbmffaaDoor
open Go.RowKit Pl

def litS : ByteArray := ⟨#[48, 217, 160, 239, 188, 144]⟩
theorem lit_step {p : Nat} (h : p = 0 ∨ p = 1 ∨ p = 3) : ∃ z : Int, Scr z ∧ ((Utf8.decode litS p).1 : Int) = z ∧ (p + (Utf8.decode litS p).2 = 1 ∨ p + (Utf8.decode litS p).2 = 3 ∨ p + (Utf8.decode litS p).2 = 6) ∧ p < litS.size := by
  rcases h with rfl | rfl | rfl
  · exact ⟨48, .inl rfl, by kernel_rfl, .inl (by kernel_rfl), by decide⟩
  · exact ⟨1632, .inr (.inl rfl), by kernel_rfl, .inr (.inl (by kernel_rfl)), by decide⟩
  · exact ⟨65296, .inr (.inr rfl), by kernel_rfl, .inr (.inr (by kernel_rfl)), by decide⟩

theorem len_bound {k len v nn : Nat} (hk : k ≠ 0) (h : k * 10 ^ len + v = nn) (hn : nn ≤ 18446744073709551615) : len + 1 ≤ 20 := by
  rcases Nat.lt_or_ge len 20 with h1 | h1
  · exact h1
  · exfalso
    have h2 : 10 ^ 20 ≤ 10 ^ len := Nat.pow_le_pow_right (by omega) h1
    have h3 : 1 * 10 ^ len ≤ k * 10 ^ len := Nat.mul_le_mul_right _ (by omega)
    have h4 : (10 : Nat) ^ 20 = 100000000000000000000 := by decide
    omega
theorem digs_rep {ds : List Nat} (h : digs ds) (k : Nat) : digs (List.replicate k 0 ++ ds) := by
  intro d hd
  rw [List.mem_append] at hd
  rcases hd with hd | hd
  · have := List.eq_of_mem_replicate hd; omega
  · exact h d hd
theorem zero_scr {z x : Int} (hz : Scr z) (h : zeroI x = z) : z ≤ x ∧ x ≤ z + 9 := by
  unfold zeroI at h
  rcases hz with rfl | rfl | rfl
  all_goals (split at h; omega; split at h; omega; split at h; omega; omega)
theorem zero_head {z : Int} (hz : Scr z) {ds : List Nat} (h : digs ds) (hne : 0 < ds.length) (b : ByteArray) : zeroAt (dtext z ds ++ b) 0 = z := by
  cases ds with
  | nil => simp at hne
  | cons d ds =>
    have hd := h d (by simp)
    have hdec := decode_digit hz hd ⟨#[]⟩ (dtext z ds ++ b)
    have e0 : (⟨#[]⟩ : ByteArray).size = 0 := rfl
    rw [nil_cat, e0] at hdec
    have he := enc_dec hz hd
    have e1 : dtext z (d :: ds) ++ b = Utf8.encode (z + d) ++ (dtext z ds ++ b) := by simp only [dtext, ByteArray.append_assoc]
    unfold zeroAt
    rw [e1, if_pos (by rw [cat_size]; omega), hdec.1]
    exact he.2.2.2.2
theorem scr_ne {z : Int} (hz : Scr z) : z ≠ 0 := by rcases hz with rfl | rfl | rfl <;> decide
theorem dtext_rep (z : Int) (k : Nat) (ds : List Nat) : Utf8.encode z ++ dtext z (List.replicate k 0 ++ ds) = dtext z (List.replicate (k + 1) 0 ++ ds) := by
  rw [List.replicate_succ, List.cons_append]
  simp only [dtext]
  rw [show z + ((0 : Nat) : Int) = z by omega]

set_option maxRecDepth 100000 in
set_option maxHeartbeats 4000000 in
theorem RunesDigits_walk (n m : Int) (s : ByteArray) (n0 : 0 ≤ n) (n1 : n ≤ 18446744073709551615) (m0 : 0 ≤ m) (m1 : m ≤ 255) (hs0 : s.size ≤ 140737488351232) (w : World) (hT : Tabs w) (hU : UTabs w) :
    Calls Tryd.prog 7 #[.int .u64 n, .int .u8 m, .string s] w fun e w' => e = .returned (.bool true) ∧ Below w.heap.size w w' := by
  go_enter Tryd.func7, Tryd.ntmps7
  go_wp2_with fail
  refine (awake_calls w hT).mono ?_
  rintro e w1 ⟨rfl, hb1⟩
  go_wp2_with fail
  rw [show (⟨#[48, 217, 160, 239, 188, 144]⟩ : ByteArray) = litS from rfl]
  go_loopw [8, 9, 10, 11, 12, 14, 15, 16, 17] (fun _ _ _ _ _ _ _ _ _ w' => ∃ p : Nat, (p = 0 ∨ p = 1 ∨ p = 3 ∨ p = 6) ∧ It w' w1.heap.size litS p ∧ Below w.heap.size w w') (fun _ _ _ _ _ _ _ _ _ w' => 6 - w'.iterPos w1.heap.size)
  case atStart => exact ⟨0, by omega, It.new _ _, hb1.alloc hb1.size _⟩
  case round =>
    obtain ⟨p, hp, hit, hB⟩ := hrel
    obtain ⟨wo, rfl⟩ : ∃ wo : World, wo = wr := ⟨_, rfl⟩
    have hit' : wo.heap[w1.heap.size]? = some (.stringIter litS p) := hit
    have hz1 := hb1.size
    by_cases h6 : p = 6
    · subst h6
      have hnx : ∀ ty, (Instr.next (.pointer (some ⟨w1.heap.size, 0, none⟩)) true ty).run Tryd.prog wo = _ := fun ty => Lib.run_next_end_at wo w1.heap.size litS 6 ty hit' (by decide)
      clear hit hit'
      go_wp2_with fail
      go_ret
      exact ⟨rfl, hB⟩
    · obtain ⟨z, hz, hdz, hpn, hpl⟩ := lit_step (p := p) (by omega)
      have hnx : ∀ ty, (Instr.next (.pointer (some ⟨w1.heap.size, 0, none⟩)) true ty).run Tryd.prog wo = .ok (.tuple #[.bool true, .int .i64 p, .int .i32 z]) (wo.iterAt w1.heap.size litS (p + (Utf8.decode litS p).2)) := fun ty => by
        have := Lib.run_next_any_at (P := Tryd.prog) wo w1.heap.size litS p ty hit' hpl
        rw [hdz] at this
        exact this
      have Hw := Lib.hid hit.pos
      have hitA := hit.moved (p + (Utf8.decode litS p).2)
      have hBA := Lib.below_iterAt hB hz1 litS (p + (Utf8.decode litS p).2)
      have hzb : 48 ≤ z ∧ z ≤ 65296 := by rcases hz with rfl | rfl | rfl <;> omega
      have Hz := Lib.hid hz; clear hz
      have hpp2 : p < p + (Utf8.decode litS p).2 := by have := wd_pos litS p; omega
      generalize hpp : p + (Utf8.decode litS p).2 = p2 at *
      have Hpn := Lib.hid hpn; clear hpn hpp
      clear hit hit' hB hdz
      obtain ⟨nn, rfl⟩ : ∃ nn : Nat, n = nn := ⟨n.toNat, by omega⟩
      obtain ⟨mm, rfl⟩ : ∃ mm : Nat, m = mm := ⟨m.toNat, by omega⟩
      go_wp2_with fail
      generalize wo.iterAt w1.heap.size litS p2 = W1 at *
      have HitA := Lib.hid hitA; clear hitA
      go_loop [9, 10] (fun t x => ∃ (ds : List Nat) (k : Nat), t = .string (dtext z ds) ∧ x = .int .u64 k ∧ (k : Int) ≤ 18446744073709551615 ∧ digs ds ∧ ds.length ≤ 20 ∧ k * 10 ^ ds.length + valD ds = nn) (fun t x => (intOf x).toNat + (match t with | .string b => if b.size = 0 then 1 else 0 | _ => 0))
      case atStart => exact ⟨[], nn, rfl, rfl, n1, (fun d hd => by cases hd), by simp, by simp [valD]⟩
      case round =>
        obtain ⟨ds, k, rfl, rfl, hk, hds, hdl, hval⟩ := hrel
        have hsz := dtext_size Hz.out hds
        have Hds := Lib.hid hds; clear hds
        have Hval := Lib.hid hval; clear hval
        by_cases hk0 : k = 0
        · subst hk0
          cases ds with
          | nil =>
            have hem : (dtext z []).toList.isEmpty = true := by rw [ByteArray.toList_eq]; rfl
            have he := enc_dec Hz.out (d := 0) (by omega)
            rw [show z + ((0 : Nat) : Int) = z by omega] at he
            have hsm : ¬ 9223372036854775807 < (Utf8.encode z).size + (dtext z []).size := by omega
            have He := Lib.hid he; clear he hsz
            go_wp2_with fail
            refine ⟨⟨[0], 0, ?_, rfl, by omega, (fun d hd => by simp at hd; omega), by simp, ?_⟩, ?_⟩
            · simp only [dtext]; rw [show z + ((0 : Nat) : Int) = z by omega]
            · have := Hval.out; simp [valD] at this ⊢; omega
            · have h1 : (Utf8.encode z ++ dtext z []).size ≠ 0 := by rw [cat_size]; have := He.out.2.2.1; omega
              have h2 : (dtext z []).size = 0 := rfl
              simp only [intOf]
              rw [if_neg h1, if_pos h2]
              omega
          | cons d0 ds0 =>
            have hem : (dtext z (d0 :: ds0)).toList.isEmpty = false := by
              rw [ByteArray.toList_eq]
              cases e : (dtext z (d0 :: ds0)).data.toList with
              | nil => exfalso; have := len_eq (dtext z (d0 :: ds0)); rw [e] at this; simp at this hsz; omega
              | cons _ _ => rfl
            have hvn : valD (d0 :: ds0) = nn := by have := Hval.out; simpa using this
            have hlen : 0 < (d0 :: ds0).length := by simp
            generalize d0 :: ds0 = ds at *
            have Hvn := Lib.hid hvn; clear hvn Hval
            have Hlen := Lib.hid hlen; clear hlen
            have hK : ((mm : Int) % 20) = ((mm % 20 : Nat) : Int) := by omega
            have HK := Lib.hid hK; clear hK hsz
            go_wp2_with fail
            clear hem
            go_loop [9, 11] (fun t x => ∃ i : Nat, i ≤ mm % 20 ∧ x = .int .i64 i ∧ t = .string (dtext z (List.replicate i 0 ++ ds))) (fun _ x => mm % 20 - (intOf x).toNat)
            case atStart => exact ⟨0, by omega, rfl, rfl⟩
            case round =>
              obtain ⟨i, hi, rfl, rfl⟩ := hrel
              have hds2 := digs_rep Hds.out i
              have hsz2 := dtext_size Hz.out hds2
              rw [List.length_append, List.length_replicate] at hsz2
              have Hds2 := Lib.hid hds2; clear hds2
              by_cases hi2 : i < mm % 20
              · have hil : (i : Int) < (mm : Int) % 20 := by omega
                have he := enc_dec Hz.out (d := 0) (by omega)
                rw [show z + ((0 : Nat) : Int) = z by omega] at he
                have hsm : ¬ 9223372036854775807 < (Utf8.encode z).size + (dtext z (List.replicate i 0 ++ ds)).size := by omega
                have He := Lib.hid he; clear he
                go_wp2_with fail
                exact ⟨⟨i + 1, by omega, by go_num, by rw [dtext_rep]⟩, by simp [intOf]; omega⟩
              · have hil : ¬ (i : Int) < (mm : Int) % 20 := by omega
                go_wp2_with fail
                have hvn2 : valD (List.replicate i 0 ++ ds) = nn := by rw [val_rep]; exact Hvn.out
                have hne2 : Hid (0 < (List.replicate i 0 ++ ds).length) := Lib.hid (by rw [List.length_append]; have := Hlen.out; omega)
                have hsz3 : (dtext z (List.replicate i 0 ++ ds)).size ≤ 120 := by omega
                have hity := HitA.out.below ((Below.refl _ W1).alloc (Nat.le_refl _) (.stringIter s 0)) HitA.out.lt
                have hity : It (W1.iter s 0) w1.heap.size litS p2 := hity
                have hBy : Below w.heap.size w (W1.iter s 0) := hBA.alloc hBA.size _
                have hy0 := It.new W1 s
                generalize List.replicate i 0 ++ ds = es at *
                have Hvn2 := Lib.hid hvn2; clear hvn2
                clear hsz2 hil hi2 hi
                have hy0' : (W1.iter s 0).heap[W1.heap.size]? = some (.stringIter s 0) := hy0
                refine wp_loop_once ?_
                by_cases hse : 0 < s.size
                · have hnx : ∀ ty, (Instr.next (.pointer (some ⟨W1.heap.size, 0, none⟩)) true ty).run Tryd.prog (W1.iter s 0) = _ := fun ty => Lib.run_next_any_at (W1.iter s 0) W1.heap.size s 0 ty hy0' hse
                  have hity2 := hity.other (j := W1.heap.size) (u := s) (m := 0 + (Utf8.decode s 0).2) (Nat.ne_of_lt HitA.out.lt)
                  have hBy2 := Lib.below_iterAt hBy hBA.size s (0 + (Utf8.decode s 0).2)
                  rw [Nat.zero_add] at hity2 hBy2
                  have hdx := decode_int s 0
                  clear hy0 hy0' hity hBy
                  by_cases hrg : z ≤ ((Utf8.decode s 0).1 : Int) ∧ ((Utf8.decode s 0).1 : Int) ≤ z + 9
                  · have hr1 := hrg.1
                    have hr2 := hrg.2
                    clear hrg
                    go_wp2_with fail
                    exact ⟨⟨p2, by have := Hpn.out; omega, hity2, hBy2⟩, by rw [Hw.out, hity2.pos]; have := Hpn.out; omega⟩
                  · have hbz : ∀ _ : 0 < s.size, zeroI ((Utf8.decode s 0).1 : Int) ≠ z := fun _ h => hrg (zero_scr Hz.out h)
                    have Hbz := Lib.hid hbz; clear hbz
                    have hrg2 : decide (((Utf8.decode s 0).1 : Int) ≤ z + 9) = false ∨ decide (z ≤ ((Utf8.decode s 0).1 : Int)) = false := by simp; omega
                    rcases hrg2 with hrg2 | hrg2
                    · have hr1 : ¬ ((Utf8.decode s 0).1 : Int) ≤ z + 9 := by simpa using hrg2
                      have hr2 : z ≤ ((Utf8.decode s 0).1 : Int) := by omega
                      clear hrg hrg2
                      go_wp2_with fail
                      have hz0 := zero_head Hz.out Hds2.out hne2.out s
                      have hbY := hBy2.size
                      refine (number_yes (dtext z es ++ s) 0 (by rw [cat_size]; unfold maxLen; omega) (by omega) (by rw [hz0]; exact scr_ne Hz.out) _ (hT.below hBy2) (utabs_below hU hBy2)).mono ?_
                      rintro e Y2 ⟨rfl, hb2⟩
                      have hB2 : Below w.heap.size w Y2 := hBy2.trans (hb2.mono hBy2.size)
                      have hit2 := hity2.below hb2 hity2.lt
                      rw [hz0, read_digits Hz.out Hds2.out s (by rw [Hvn2.out]; omega) Hbz.out, Hvn2.out]
                      clear hz0 hb2 hbY
                      simp only [numVal, Bool.false_eq_true, if_false]
                      have he9 := enc_dec Hz.out (d := 9) (by omega)
                      have he0 := enc_dec Hz.out (d := 0) (by omega)
                      rw [show z + ((0 : Nat) : Int) = z by omega] at he0
                      have q9 : (Utf8.encode (z + 9)).size ≤ 3 := he9.2.2.2.1
                      have q0 : (Utf8.encode z).size ≤ 3 := he0.2.2.2.1
                      have a1 : ¬ 9223372036854775807 < (dtext z es).size + (Utf8.encode (z + 9)).size := by omega
                      have a2 : ¬ 9223372036854775807 < (dtext z es ++ Utf8.encode (z + 9)).size + (Utf8.encode (z + 9)).size := by rw [cat_size]; omega
                      have a3 : ¬ 9223372036854775807 < (dtext z es ++ Utf8.encode (z + 9) ++ Utf8.encode (z + 9)).size + (Utf8.encode z).size := by rw [cat_size, cat_size]; omega
                      clear he9 he0
                      go_wp2_with fail
                      have hTs : (dtext z es ++ Utf8.encode (z + 9) ++ Utf8.encode (z + 9) ++ Utf8.encode z).size ≤ maxLen := by rw [cat_size, cat_size, cat_size]; unfold maxLen; omega
                      have hTz : zeroAt (dtext z es ++ Utf8.encode (z + 9) ++ Utf8.encode (z + 9) ++ Utf8.encode z) 0 = z := by
                        rw [ByteArray.append_assoc, ByteArray.append_assoc]
                        exact zero_head Hz.out Hds2.out hne2.out _
                      have hTl := read_990 Hz.out Hds2.out (by rw [Hvn2.out]; omega)
                      rw [Hvn2.out] at hTl
                      clear a1 a2 a3 q9 q0
                      generalize dtext z es ++ Utf8.encode (z + 9) ++ Utf8.encode (z + 9) ++ Utf8.encode z = T at *
                      refine (number_yes T 0 hTs (by omega) (by rw [hTz]; exact scr_ne Hz.out) _ (hT.below hB2) (utabs_below hU hB2)).mono ?_
                      rintro e Y3 ⟨rfl, hb3⟩
                      have hB3 : Below w.heap.size w Y3 := hB2.trans (hb3.mono hB2.size)
                      have hit3 := hit2.below hb3 hit2.lt
                      rw [hTz]
                      generalize numV T z 0 0 false = r at *
                      obtain ⟨r1, r2, r3⟩ := r
                      have hTl' : r3 = (decide (18446744073709551 < (nn : Int)) || decide (18446744073709550625 < w64 ((nn : Int) * 1000))) := hTl
                      clear hTl hTz hTs hb3
                      by_cases c1 : 18446744073709551 < (nn : Int)
                      · have hr : r3 = true := by rw [hTl', decide_eq_true c1]; rfl
                        subst hr
                        clear hTl'
                        simp only [numVal, if_true]
                        go_wp2_with fail
                        exact ⟨⟨p2, by have := Hpn.out; omega, hit3, hB3⟩, by rw [Hw.out, hit3.pos]; have := Hpn.out; omega⟩
                      · have hw : w64 ((nn : Int) * 1000) = (nn : Int) * 1000 := w64_id (by omega) (by omega)
                        rw [hw, decide_eq_false c1, Bool.false_or] at hTl'
                        clear hw
                        by_cases c2 : 18446744073709550625 < (nn : Int) * 1000
                        · have hr : r3 = true := by rw [hTl', decide_eq_true c2]
                          subst hr
                          clear hTl'
                          simp only [numVal, if_true]
                          go_wp2_with fail
                          exact ⟨⟨p2, by have := Hpn.out; omega, hit3, hB3⟩, by rw [Hw.out, hit3.pos]; have := Hpn.out; omega⟩
                        · have hr : r3 = false := by rw [hTl', decide_eq_false c2]
                          subst hr
                          clear hTl'
                          simp only [numVal, Bool.false_eq_true, if_false]
                          go_wp2_with fail
                          exact ⟨⟨p2, by have := Hpn.out; omega, hit3, hB3⟩, by rw [Hw.out, hit3.pos]; have := Hpn.out; omega⟩
                    · have hr1 : ¬ z ≤ ((Utf8.decode s 0).1 : Int) := by simpa using hrg2
                      clear hrg hrg2
                      go_wp2_with fail
                      have hz0 := zero_head Hz.out Hds2.out hne2.out s
                      have hbY := hBy2.size
                      refine (number_yes (dtext z es ++ s) 0 (by rw [cat_size]; unfold maxLen; omega) (by omega) (by rw [hz0]; exact scr_ne Hz.out) _ (hT.below hBy2) (utabs_below hU hBy2)).mono ?_
                      rintro e Y2 ⟨rfl, hb2⟩
                      have hB2 : Below w.heap.size w Y2 := hBy2.trans (hb2.mono hBy2.size)
                      have hit2 := hity2.below hb2 hity2.lt
                      rw [hz0, read_digits Hz.out Hds2.out s (by rw [Hvn2.out]; omega) Hbz.out, Hvn2.out]
                      clear hz0 hb2 hbY
                      simp only [numVal, Bool.false_eq_true, if_false]
                      have he9 := enc_dec Hz.out (d := 9) (by omega)
                      have he0 := enc_dec Hz.out (d := 0) (by omega)
                      rw [show z + ((0 : Nat) : Int) = z by omega] at he0
                      have q9 : (Utf8.encode (z + 9)).size ≤ 3 := he9.2.2.2.1
                      have q0 : (Utf8.encode z).size ≤ 3 := he0.2.2.2.1
                      have a1 : ¬ 9223372036854775807 < (dtext z es).size + (Utf8.encode (z + 9)).size := by omega
                      have a2 : ¬ 9223372036854775807 < (dtext z es ++ Utf8.encode (z + 9)).size + (Utf8.encode (z + 9)).size := by rw [cat_size]; omega
                      have a3 : ¬ 9223372036854775807 < (dtext z es ++ Utf8.encode (z + 9) ++ Utf8.encode (z + 9)).size + (Utf8.encode z).size := by rw [cat_size, cat_size]; omega
                      clear he9 he0
                      go_wp2_with fail
                      have hTs : (dtext z es ++ Utf8.encode (z + 9) ++ Utf8.encode (z + 9) ++ Utf8.encode z).size ≤ maxLen := by rw [cat_size, cat_size, cat_size]; unfold maxLen; omega
                      have hTz : zeroAt (dtext z es ++ Utf8.encode (z + 9) ++ Utf8.encode (z + 9) ++ Utf8.encode z) 0 = z := by
                        rw [ByteArray.append_assoc, ByteArray.append_assoc]
                        exact zero_head Hz.out Hds2.out hne2.out _
                      have hTl := read_990 Hz.out Hds2.out (by rw [Hvn2.out]; omega)
                      rw [Hvn2.out] at hTl
                      clear a1 a2 a3 q9 q0
                      generalize dtext z es ++ Utf8.encode (z + 9) ++ Utf8.encode (z + 9) ++ Utf8.encode z = T at *
                      refine (number_yes T 0 hTs (by omega) (by rw [hTz]; exact scr_ne Hz.out) _ (hT.below hB2) (utabs_below hU hB2)).mono ?_
                      rintro e Y3 ⟨rfl, hb3⟩
                      have hB3 : Below w.heap.size w Y3 := hB2.trans (hb3.mono hB2.size)
                      have hit3 := hit2.below hb3 hit2.lt
                      rw [hTz]
                      generalize numV T z 0 0 false = r at *
                      obtain ⟨r1, r2, r3⟩ := r
                      have hTl' : r3 = (decide (18446744073709551 < (nn : Int)) || decide (18446744073709550625 < w64 ((nn : Int) * 1000))) := hTl
                      clear hTl hTz hTs hb3
                      by_cases c1 : 18446744073709551 < (nn : Int)
                      · have hr : r3 = true := by rw [hTl', decide_eq_true c1]; rfl
                        subst hr
                        clear hTl'
                        simp only [numVal, if_true]
                        go_wp2_with fail
                        exact ⟨⟨p2, by have := Hpn.out; omega, hit3, hB3⟩, by rw [Hw.out, hit3.pos]; have := Hpn.out; omega⟩
                      · have hw : w64 ((nn : Int) * 1000) = (nn : Int) * 1000 := w64_id (by omega) (by omega)
                        rw [hw, decide_eq_false c1, Bool.false_or] at hTl'
                        clear hw
                        by_cases c2 : 18446744073709550625 < (nn : Int) * 1000
                        · have hr : r3 = true := by rw [hTl', decide_eq_true c2]
                          subst hr
                          clear hTl'
                          simp only [numVal, if_true]
                          go_wp2_with fail
                          exact ⟨⟨p2, by have := Hpn.out; omega, hit3, hB3⟩, by rw [Hw.out, hit3.pos]; have := Hpn.out; omega⟩
                        · have hr : r3 = false := by rw [hTl', decide_eq_false c2]
                          subst hr
                          clear hTl'
                          simp only [numVal, Bool.false_eq_true, if_false]
                          go_wp2_with fail
                          exact ⟨⟨p2, by have := Hpn.out; omega, hit3, hB3⟩, by rw [Hw.out, hit3.pos]; have := Hpn.out; omega⟩
                · have hnx : ∀ ty, (Instr.next (.pointer (some ⟨W1.heap.size, 0, none⟩)) true ty).run Tryd.prog (W1.iter s 0) = _ := fun ty => Lib.run_next_end_at (W1.iter s 0) W1.heap.size s 0 ty hy0' hse
                  have Hbz : Hid (∀ _ : 0 < s.size, zeroI ((Utf8.decode s 0).1 : Int) ≠ z) := Lib.hid (fun h => absurd h hse)
                  clear hy0 hy0'
                  have hity2 := hity
                  have hBy2 := hBy
                  go_wp2_with fail
                  have hz0 := zero_head Hz.out Hds2.out hne2.out s
                  have hbY := hBy2.size
                  refine (number_yes (dtext z es ++ s) 0 (by rw [cat_size]; unfold maxLen; omega) (by omega) (by rw [hz0]; exact scr_ne Hz.out) _ (hT.below hBy2) (utabs_below hU hBy2)).mono ?_
                  rintro e Y2 ⟨rfl, hb2⟩
                  have hB2 : Below w.heap.size w Y2 := hBy2.trans (hb2.mono hBy2.size)
                  have hit2 := hity2.below hb2 hity2.lt
                  rw [hz0, read_digits Hz.out Hds2.out s (by rw [Hvn2.out]; omega) Hbz.out, Hvn2.out]
                  clear hz0 hb2 hbY
                  simp only [numVal, Bool.false_eq_true, if_false]
                  have he9 := enc_dec Hz.out (d := 9) (by omega)
                  have he0 := enc_dec Hz.out (d := 0) (by omega)
                  rw [show z + ((0 : Nat) : Int) = z by omega] at he0
                  have q9 : (Utf8.encode (z + 9)).size ≤ 3 := he9.2.2.2.1
                  have q0 : (Utf8.encode z).size ≤ 3 := he0.2.2.2.1
                  have a1 : ¬ 9223372036854775807 < (dtext z es).size + (Utf8.encode (z + 9)).size := by omega
                  have a2 : ¬ 9223372036854775807 < (dtext z es ++ Utf8.encode (z + 9)).size + (Utf8.encode (z + 9)).size := by rw [cat_size]; omega
                  have a3 : ¬ 9223372036854775807 < (dtext z es ++ Utf8.encode (z + 9) ++ Utf8.encode (z + 9)).size + (Utf8.encode z).size := by rw [cat_size, cat_size]; omega
                  clear he9 he0
                  go_wp2_with fail
                  have hTs : (dtext z es ++ Utf8.encode (z + 9) ++ Utf8.encode (z + 9) ++ Utf8.encode z).size ≤ maxLen := by rw [cat_size, cat_size, cat_size]; unfold maxLen; omega
                  have hTz : zeroAt (dtext z es ++ Utf8.encode (z + 9) ++ Utf8.encode (z + 9) ++ Utf8.encode z) 0 = z := by
                    rw [ByteArray.append_assoc, ByteArray.append_assoc]
                    exact zero_head Hz.out Hds2.out hne2.out _
                  have hTl := read_990 Hz.out Hds2.out (by rw [Hvn2.out]; omega)
                  rw [Hvn2.out] at hTl
                  clear a1 a2 a3 q9 q0
                  generalize dtext z es ++ Utf8.encode (z + 9) ++ Utf8.encode (z + 9) ++ Utf8.encode z = T at *
                  refine (number_yes T 0 hTs (by omega) (by rw [hTz]; exact scr_ne Hz.out) _ (hT.below hB2) (utabs_below hU hB2)).mono ?_
                  rintro e Y3 ⟨rfl, hb3⟩
                  have hB3 : Below w.heap.size w Y3 := hB2.trans (hb3.mono hB2.size)
                  have hit3 := hit2.below hb3 hit2.lt
                  rw [hTz]
                  generalize numV T z 0 0 false = r at *
                  obtain ⟨r1, r2, r3⟩ := r
                  have hTl' : r3 = (decide (18446744073709551 < (nn : Int)) || decide (18446744073709550625 < w64 ((nn : Int) * 1000))) := hTl
                  clear hTl hTz hTs hb3
                  by_cases c1 : 18446744073709551 < (nn : Int)
                  · have hr : r3 = true := by rw [hTl', decide_eq_true c1]; rfl
                    subst hr
                    clear hTl'
                    simp only [numVal, if_true]
                    go_wp2_with fail
                    exact ⟨⟨p2, by have := Hpn.out; omega, hit3, hB3⟩, by rw [Hw.out, hit3.pos]; have := Hpn.out; omega⟩
                  · have hw : w64 ((nn : Int) * 1000) = (nn : Int) * 1000 := w64_id (by omega) (by omega)
                    rw [hw, decide_eq_false c1, Bool.false_or] at hTl'
                    clear hw
                    by_cases c2 : 18446744073709550625 < (nn : Int) * 1000
                    · have hr : r3 = true := by rw [hTl', decide_eq_true c2]
                      subst hr
                      clear hTl'
                      simp only [numVal, if_true]
                      go_wp2_with fail
                      exact ⟨⟨p2, by have := Hpn.out; omega, hit3, hB3⟩, by rw [Hw.out, hit3.pos]; have := Hpn.out; omega⟩
                    · have hr : r3 = false := by rw [hTl', decide_eq_false c2]
                      subst hr
                      clear hTl'
                      simp only [numVal, Bool.false_eq_true, if_false]
                      go_wp2_with fail
                      exact ⟨⟨p2, by have := Hpn.out; omega, hit3, hB3⟩, by rw [Hw.out, hit3.pos]; have := Hpn.out; omega⟩
        · have hem : ¬ ((k : Int) = 0) := by omega
          have he := enc_dec Hz.out (d := k % 10) (by omega)
          rw [show z + ((k % 10 : Nat) : Int) = z + (k : Int) % 10 by omega] at he
          have hsm : ¬ 9223372036854775807 < (Utf8.encode (z + (k : Int) % 10)).size + (dtext z ds).size := by omega
          have He := Lib.hid he; clear he
          go_wp2_with fail
          refine ⟨⟨(k % 10) :: ds, k / 10, ?_, ?_, by omega, ?_, ?_, ?_⟩, ?_⟩
          · simp only [dtext]; rw [show z + ((k % 10 : Nat) : Int) = z + (k : Int) % 10 by omega]
          · rfl
          · intro d hd
            rw [List.mem_cons] at hd
            rcases hd with rfl | hd
            · omega
            · exact Hds.out d hd
          · rw [List.length_cons]; exact len_bound hk0 Hval.out (by omega)
          · rw [val_step]; exact Hval.out
          · simp only [intOf]
            have h1 : (Utf8.encode (z + (k : Int) % 10) ++ dtext z ds).size ≠ 0 := by rw [cat_size]; have := He.out.2.2.1; omega
            rw [if_neg h1]
            omega
end Go.Proofs.YtkdpmbjcdbmffaaDoor
