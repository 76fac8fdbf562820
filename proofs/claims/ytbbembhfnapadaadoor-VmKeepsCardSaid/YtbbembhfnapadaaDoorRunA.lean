/- The walks of the functions of runes that tell kinds, and of their references. -/
import Derived.Test.YtbbembhfnapadaaDoorProg
import Derived.Test.YtbbembhfnapadaaDoorChecked
import Derived.Test.YtbbembhfnapadaaDoorPl
import Derived.WalkKit
import Derived.Lib.OthersKept
import Derived.Deep.LoopGhost
import Derived.Lib.Hide
namespace Go.Proofs.YtbbembhfnapadaaDoor
open Go.RowKit Pl

def lettersC : Array Value := #[.int .i32 97, .int .i32 122, .int .i32 65, .int .i32 90, .int .i32 95, .int .i32 95, .int .i32 192, .int .i32 214, .int .i32 216, .int .i32 246, .int .i32 248, .int .i32 591, .int .i32 880, .int .i32 893, .int .i32 895, .int .i32 902, .int .i32 904, .int .i32 1023, .int .i32 1024, .int .i32 1153, .int .i32 1162, .int .i32 1327, .int .i32 19968, .int .i32 40959, .int .i32 66560, .int .i32 66639]
def zerosC : Array Value := #[.int .i32 48, .int .i32 1632, .int .i32 65296]
structure Tabs (w : World) : Prop where
  letters : ∃ t fr, w.heap[1]? = some (.cells lettersC t fr)
  zeros : ∃ t fr, w.heap[4]? = some (.cells zerosC t fr)
theorem Tabs.below {w w' : World} (h : Tabs w) (hb : Below w.heap.size w w') : Tabs w' := by
  obtain ⟨⟨t, fr, h0⟩, ⟨t1, fr1, h1⟩⟩ := h
  have l0 : 1 < w.heap.size := (Array.getElem?_eq_some_iff.1 h0).1
  have l1 : 4 < w.heap.size := (Array.getElem?_eq_some_iff.1 h1).1
  exact ⟨⟨t, fr, (hb.block _ l0).trans h0⟩, ⟨t1, fr1, (hb.block _ l1).trans h1⟩⟩

set_option maxRecDepth 100000 in
set_option maxHeartbeats 1000000 in
theorem zero_calls (r : Int) (h0 : -2147483648 ≤ r) (h1 : r ≤ 2147483647) (w : World) (hT : Tabs w) :
    Calls Tryd.prog 141 #[.int .i32 r] w fun e w' => e = .returned (.tuple #[.int .i32 (zeroI r), .bool (digB r)]) ∧ w = w' := by
  obtain ⟨_, ⟨t, fr, hz⟩⟩ := hT
  have i0 : ∀ w, (Instr.index 225 (.agg zerosC) (.int .i64 0)).run Tryd.prog w = .ok (.int .i32 48) w := fun _ => by kernel_rfl
  have i1 : ∀ w, (Instr.index 225 (.agg zerosC) (.int .i64 1)).run Tryd.prog w = .ok (.int .i32 1632) w := fun _ => by kernel_rfl
  have i2 : ∀ w, (Instr.index 225 (.agg zerosC) (.int .i64 2)).run Tryd.prog w = .ok (.int .i32 65296) w := fun _ => by kernel_rfl
  go_enter Tryd.func141, Tryd.ntmps141
  go_wp2_with (refine wpList_load_row rfl _ _ rfl 4 rfl t zerosC fr _ hz (by first | rfl | kernel_rfl) rfl (by kernel_rfl) ?_)
  go_loop [5, 7] (fun _ i => ∃ k : Nat, k ≤ 3 ∧ i = .int .i64 k ∧ (1 ≤ k → ¬ (48 ≤ r ∧ r ≤ 57)) ∧ (2 ≤ k → ¬ (1632 ≤ r ∧ r ≤ 1641)) ∧ (3 ≤ k → ¬ (65296 ≤ r ∧ r ≤ 65305))) (fun _ i => 3 - (intOf i).toNat)
  case atStart => exact ⟨0, by omega, rfl, by omega, by omega, by omega⟩
  case round =>
    obtain ⟨k, hk, rfl, c1, c2, c3⟩ := hrel
    have hc : k = 0 ∨ k = 1 ∨ k = 2 ∨ k = 3 := by omega
    rcases hc with rfl | rfl | rfl | rfl
    all_goals go_wp2
    all_goals first
      | (go_ret2; unfold digB; rw [zero_1 ‹_› ‹_›]; exact ⟨rfl, rfl⟩)
      | (go_ret2; unfold digB; rw [zero_2 ‹_› ‹_›]; exact ⟨rfl, rfl⟩)
      | (go_ret2; unfold digB; rw [zero_3 ‹_› ‹_›]; exact ⟨rfl, rfl⟩)
      | (go_ret2; unfold digB; rw [zero_0 (c1 (by omega)) (c2 (by omega)) (c3 (by omega))]; exact ⟨rfl, rfl⟩)
      | exact ⟨⟨1, by omega, rfl, by omega, by omega, by omega⟩, by simp [intOf]⟩
      | exact ⟨⟨2, by omega, rfl, by omega, by omega, by omega⟩, by simp [intOf]⟩
      | exact ⟨⟨3, by omega, rfl, by omega, by omega, by omega⟩, by simp [intOf]⟩
      | (go_round; case rel => first | exact ⟨1, by omega, rfl, by omega, by omega, by omega⟩ | exact ⟨2, by omega, rfl, by omega, by omega, by omega⟩ | exact ⟨3, by omega, rfl, by omega, by omega, by omega⟩
         case measure => simp [intOf])

set_option maxHeartbeats 1000000 in
theorem has_calls (s : ByteArray) (r : Int) (w : World) :
    Calls Tryd.prog 143 #[.string s, .int .i32 r] w fun e w' => e = .returned (.bool (hasB (runes s 0) r)) ∧ Below w.heap.size w w' := by
  go_enter Tryd.func143, Tryd.ntmps143
  go_wp2
  go_loopw [6] (fun _ w' => ∃ p : Nat, w' = w.iter s p ∧ hasB (runes s p) r = hasB (runes s 0) r) (fun _ w' => s.size - w'.iterPos w.heap.size)
  case atStart => exact ⟨0, rfl, rfl⟩
  case round =>
    obtain ⟨p, rfl, hc⟩ := hrel
    have Hc := Lib.hid hc; clear hc
    by_cases hp : p < s.size
    · have hnx : ∀ ty, (Instr.next (.pointer (some ⟨w.heap.size, 0, none⟩)) true ty).run Tryd.prog (w.iter s p) = _ := fun ty => run_next_any w s p ty hp
      go_wp2
      · go_ret
        have ht : (((Utf8.decode s p).1 : Int) == r) = true := by assumption
        have ht' : ((Utf8.decode s p).1 : Int) = r := by simpa using ht
        refine ⟨?_, (Below.refl _ _).alloc (Nat.le_refl _) _⟩
        rw [← Hc.out, runes_step hp]
        simp [hasB, ht']
      · have ht : (((Utf8.decode s p).1 : Int) == r) = false := by assumption
        have ht' : ¬ ((Utf8.decode s p).1 : Int) = r := by simpa using ht
        have hwd := wd_pos s p
        refine ⟨⟨_, rfl, ?_⟩, by simp; omega⟩
        rw [← Hc.out, runes_step hp]
        unfold hasB
        rw [List.contains_cons]
        simp [Ne.symm ht']
    · have hnx : ∀ ty, (Instr.next (.pointer (some ⟨w.heap.size, 0, none⟩)) true ty).run Tryd.prog (w.iter s p) = _ := fun ty => run_next_end w s p ty hp
      go_wp2
      go_ret
      exact ⟨by rw [← Hc.out, runes_end hp]; rfl, (Below.refl _ _).alloc (Nat.le_refl _) _⟩

theorem valid_calls (r : Int) (w : World) :
    Calls Tryd.prog 142 #[.int .i32 r] w fun e w' => e = .returned (.bool (validRune r)) ∧ w = w' := by
  go_enter Tryd.func142, Tryd.ntmps142
  go_wp2
  all_goals go_ret
  all_goals refine ⟨?_, rfl⟩
  all_goals (unfold validRune; simp only [Ending.returned.injEq]; simp; omega)

theorem letters_at (k : Nat) (hk : k < 13) (w : World) : (Instr.index 210 (.agg lettersC) (.int .i64 k)).run Tryd.prog w = .ok (.agg #[.int .i32 (lo k), .int .i32 (hi k)]) w := by
  rcases (show k = 0 ∨ k = 1 ∨ k = 2 ∨ k = 3 ∨ k = 4 ∨ k = 5 ∨ k = 6 ∨ k = 7 ∨ k = 8 ∨ k = 9 ∨ k = 10 ∨ k = 11 ∨ k = 12 by omega) with rfl | rfl | rfl | rfl | rfl | rfl | rfl | rfl | rfl | rfl | rfl | rfl | rfl
  all_goals kernel_rfl

set_option maxRecDepth 100000 in
set_option maxHeartbeats 2000000 in
theorem kind_calls (r : Int) (h0 : -2147483648 ≤ r) (h1 : r ≤ 2147483647) (w : World) (hT : Tabs w) :
    Calls Tryd.prog 125 #[.int .i32 r] w fun e w' => e = .returned (.int .i64 (kindI r)) ∧ Below w.heap.size w w' := by
  obtain ⟨t, fr, hz⟩ := hT.letters
  go_enter Tryd.func125, Tryd.ntmps125
  go_wp2_with (refine wpList_load_row rfl _ _ rfl 1 rfl t lettersC fr _ hz (by first | rfl | kernel_rfl) rfl (by kernel_rfl) ?_)
  go_loopw [4, 8] (fun _ i w' => ∃ k : Nat, k ≤ 13 ∧ i = .int .i64 k ∧ (∀ j, j < k → ¬ (lo j ≤ r ∧ r ≤ hi j)) ∧ Below w.heap.size w w') (fun _ i _ => 13 - (intOf i).toNat)
  case atStart => exact ⟨0, by omega, rfl, by omega, Below.refl _ _⟩
  case round =>
    obtain ⟨k, hk, rfl, hn, hb⟩ := hrel
    have Hn := Lib.hid hn; clear hn
    have hT' := hT.below hb
    have hbd := lohi_bd k
    by_cases hlt : k < 13
    · have hix := letters_at k hlt
      go_wp2
      · go_ret
        exact ⟨by rw [kind_1 (let_at hlt ‹_› ‹_›)]; rfl, hb.alloc hb.size _⟩
      all_goals
        refine ⟨⟨k + 1, by omega, by go_num, ?_, hb.alloc hb.size _⟩, by simp [intOf]; omega⟩
        intro j hj
        by_cases hjk : j = k
        · subst hjk; omega
        · exact Hn.out j (by omega)
    · obtain rfl : k = 13 := by omega
      have hl := let_none Hn.out
      have Hl := Lib.hid hl; clear hl hbd
      go_wp2_with fail
      refine (zero_calls r h0 h1 wr hT').mono ?_
      rintro e w' ⟨rfl, rfl⟩
      by_cases hd : digB r = true
      · go_wp2
        go_ret
        exact ⟨by rw [kind_2 Hl.out hd]; rfl, hb⟩
      · have hd : digB r = false := by simpa using hd
        go_wp2_with fail
        refine (valid_calls r wr).mono ?_
        rintro e w' ⟨rfl, rfl⟩
        by_cases hv : validRune r = true
        · by_cases hr : (r == 65533) = true
          · go_wp2_with fail
            go_ret
            exact ⟨by rw [kind_0 Hl.out hd (.inr (by simpa using hr))]; rfl, hb⟩
          · have hr : (r == 65533) = false := by simpa using hr
            have Hr : Hid (r ≠ 65533) := Lib.hid (by simpa using hr)
            go_wp2_with fail
            refine (has_calls _ r wr).mono ?_
            rintro e w1 ⟨rfl, hb1⟩
            rw [blanks_are]
            by_cases hbl : hasB blankL r = true
            · go_wp2_with fail
              go_ret
              exact ⟨by rw [kind_3 Hl.out hd hv Hr.out hbl]; rfl, hb.trans (hb1.mono hb.size)⟩
            · have hbl : hasB blankL r = false := by simpa using hbl
              go_wp2_with fail
              refine (has_calls _ r w1).mono ?_
              rintro e w2 ⟨rfl, hb2⟩
              rw [signs_are]
              have hB : Below w.heap.size w w2 := hb.trans ((hb1.mono hb.size).trans (hb2.mono (Nat.le_trans hb.size hb1.size)))
              by_cases hs : hasB signL r = true
              · go_wp2_with fail
                go_ret
                exact ⟨by rw [kind_4 Hl.out hd hv Hr.out hbl hs]; rfl, hB⟩
              · have hs : hasB signL r = false := by simpa using hs
                go_wp2_with fail
                all_goals go_ret
                all_goals refine ⟨?_, hB⟩
                all_goals rw [kind_5 Hl.out hd hv Hr.out hbl hs]
                all_goals first | (rw [if_pos (by omega)]; rfl) | (rw [if_neg (by omega)]; rfl)
        · have hv : validRune r = false := by simpa using hv
          go_wp2_with fail
          go_ret
          exact ⟨by rw [kind_0 Hl.out hd (.inl hv)]; rfl, hb⟩

/-! ### the reference -/
theorem within_calls (r a b : Int) (w : World) :
    Calls Tryd.prog 123 #[.int .i32 r, .int .i32 a, .int .i32 b] w fun e w' => e = .returned (.bool (decide (a ≤ r) && decide (r ≤ b))) ∧ w = w' := by
  by_cases h : a ≤ r
  · have hd : decide (a ≤ r) = true := by simpa using h
    go_enter Tryd.func123, Tryd.ntmps123
    go_wp2
    all_goals go_ret
    all_goals exact ⟨by simp [h], rfl⟩
  · have hd : decide (a ≤ r) = false := by simpa using h
    go_enter Tryd.func123, Tryd.ntmps123
    go_wp2
    all_goals go_ret
    all_goals exact ⟨by simp, rfl⟩

set_option maxHeartbeats 2000000 in
theorem refletter_calls (r : Int) (w : World) :
    Calls Tryd.prog 122 #[.int .i32 r] w fun e w' => e = .returned (.bool (letB r)) ∧ w = w' := by
  go_enter Tryd.func122, Tryd.ntmps122
  go_wp2
  all_goals go_ret
  all_goals refine ⟨?_, rfl⟩
  all_goals first
    | (have e : letB r = true := letB_t (by unfold letP; omega); rw [e]; rfl)
    | (have e : letB r = false := letB_f (by unfold letP; omega); rw [e]; rfl)
    | (show Ending.returned (Value.bool _) = Ending.returned (Value.bool _); congr 2; rw [Bool.eq_iff_iff, letB_iff]; unfold letP; simp_all; omega)
    | (show Ending.returned (Value.bool _) = Ending.returned (Value.bool _); congr 2; rw [Bool.eq_iff_iff, letB_iff]; unfold letP; simp_all; done)
    | (have e : r = 894 := by assumption
       subst e
       have e : letB 894 = false := by decide
       rw [e]; rfl)

set_option maxHeartbeats 2000000 in
theorem refdigit_calls (r : Int) (h0 : -2147483648 ≤ r) (h1 : r ≤ 2147483647) (w : World) :
    Calls Tryd.prog 121 #[.int .i32 r] w fun e w' => e = .returned (.tuple #[.int .i64 (dval r), .int .i32 (zeroI r)]) ∧ w = w' := by
  go_enter Tryd.func121, Tryd.ntmps121
  go_wp2
  all_goals go_ret2
  all_goals refine ⟨?_, rfl⟩
  all_goals unfold dval digB
  all_goals first
    | (rw [zero_1 ‹_› ‹_›]; rfl)
    | (rw [zero_2 ‹_› ‹_›]; rfl)
    | (rw [zero_3 ‹_› ‹_›]; rfl)
    | (rw [zero_0 (by omega) (by omega) (by omega)]; rfl)

set_option maxHeartbeats 4000000 in
theorem refkind_calls (r : Int) (h0 : -2147483648 ≤ r) (h1 : r ≤ 2147483647) (w : World) :
    Calls Tryd.prog 90 #[.int .i32 r] w fun e w' => e = .returned (.int .i64 (kindI r)) ∧ Below w.heap.size w w' := by
  go_enter Tryd.func90, Tryd.ntmps90
  go_wp2_with fail
  refine (refdigit_calls r h0 h1 w).mono ?_
  rintro e w' ⟨rfl, rfl⟩
  go_wp2_with fail
  refine (refletter_calls r w).mono ?_
  rintro e w' ⟨rfl, rfl⟩
  by_cases hl : letB r = true
  · go_wp2_with fail
    go_ret
    exact ⟨by rw [kind_1 hl]; rfl, Below.refl _ _⟩
  · have hl : letB r = false := by simpa using hl
    rcases zeroI_cases r with ⟨hd, hz0, hz1, hz2, hz3⟩ | ⟨hd, hz0⟩
    · have hdv : dval r = r - zeroI r := if_pos hd
      rw [hdv]
      have Hdv := Lib.hid hdv; clear hdv
      have Hd := Lib.hid hd; clear hd
      go_wp2_with fail
      go_ret
      exact ⟨by rw [kind_2 hl Hd.out]; rfl, Below.refl _ _⟩
    · have hdv : dval r = -1 := by unfold dval; rw [hd]; rfl
      rw [hdv, hz0]
      have Hl := Lib.hid hl
      have Hd := Lib.hid hd; clear hd hdv hz0
      by_cases hb : r = 32 ∨ r = 9 ∨ r = 10 ∨ r = 13 ∨ r = 160 ∨ r = 12288
      · rcases hb with rfl | rfl | rfl | rfl | rfl | rfl
        all_goals go_wp2_with fail
        all_goals go_ret
        all_goals exact ⟨by rw [blank_kind (by decide)]; rfl, Below.refl _ _⟩
      · have b1 : (r == 32) = false := by simp; omega
        have b2 : (r == 9) = false := by simp; omega
        have b3 : (r == 10) = false := by simp; omega
        have b4 : (r == 13) = false := by simp; omega
        have b5 : (r == 160) = false := by simp; omega
        have b6 : (r == 12288) = false := by simp; omega
        have Hb := Lib.hid hb; clear hb
        go_wp2_with fail
        refine (within_calls r _ _ w).mono ?_
        rintro e w' ⟨rfl, rfl⟩
        by_cases hi : 8320 ≤ r ∧ r ≤ 8329
        · have e1 : (decide (8320 ≤ r) && decide (r ≤ 8329)) = true := by simp; exact hi
          rw [e1]
          go_wp2_with fail
          go_ret
          exact ⟨by rw [index_kind hi.1 hi.2]; rfl, Below.refl _ _⟩
        · have e1 : (decide (8320 ≤ r) && decide (r ≤ 8329)) = false := by simp; omega
          rw [e1]
          have Hi := Lib.hid hi; clear hi
          go_wp2_with fail
          obtain ⟨S, hS⟩ : ∃ S : ByteArray, S = ⟨#[40, 41, 43, 45, 42, 47, 37, 38, 124, 94, 126, 60, 62, 61, 63, 58, 59, 44, 64, 194, 172, 194, 183, 195, 151, 195, 183, 226, 136, 146, 226, 136, 167, 226, 136, 168, 226, 137, 161, 226, 137, 170, 226, 137, 171, 226, 138, 149]⟩ := ⟨_, rfl⟩
          rw [← hS]
          have Hs : Hid (runes S 0 = signL) := Lib.hid (by rw [hS]; exact signs_are)
          clear hS
          go_loopw [7] (fun _ w' => ∃ p : Nat, w' = w.iter S p ∧ hasB (runes S p) r = hasB signL r) (fun _ w' => S.size - w'.iterPos w.heap.size)
          case atStart => exact ⟨0, rfl, by rw [Hs.out]⟩
          case round =>
            obtain ⟨p, rfl, hc⟩ := hrel
            have Hc := Lib.hid hc; clear hc
            by_cases hp : p < S.size
            · have hnx : ∀ ty, (Instr.next (.pointer (some ⟨w.heap.size, 0, none⟩)) true ty).run Tryd.prog (w.iter S p) = _ := fun ty => run_next_any w S p ty hp
              go_wp2
              · go_ret
                have ht : (((Utf8.decode S p).1 : Int) == r) = true := by assumption
                have ht' : ((Utf8.decode S p).1 : Int) = r := by simpa using ht
                refine ⟨?_, (Below.refl _ _).alloc (Nat.le_refl _) _⟩
                rw [sign_kind (r := r) (by rw [← Hc.out, runes_step hp]; simp [hasB, ht'])]
                rfl
              · have ht : (((Utf8.decode S p).1 : Int) == r) = false := by assumption
                have ht' : ¬ ((Utf8.decode S p).1 : Int) = r := by simpa using ht
                have hwd := wd_pos S p
                refine ⟨⟨_, rfl, ?_⟩, by simp; omega⟩
                rw [← Hc.out, runes_step hp]
                unfold hasB
                rw [List.contains_cons]
                simp [Ne.symm ht']
            · have hnx : ∀ ty, (Instr.next (.pointer (some ⟨w.heap.size, 0, none⟩)) true ty).run Tryd.prog (w.iter S p) = _ := fun ty => run_next_end w S p ty hp
              go_wp2
              go_ret
              have hs : hasB signL r = false := by rw [← Hc.out, runes_end hp]; rfl
              exact ⟨by rw [none_kind Hl.out Hd.out Hb.out hs Hi.out]; rfl, (Below.refl _ _).alloc (Nat.le_refl _) _⟩

end Go.Proofs.YtbbembhfnapadaaDoor
