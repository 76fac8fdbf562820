-- PRINTED BY print.sh 35421559b90ae4d0a3588c463048766b98c2df88dd9212a6774a882060cdf62d: not written by this session
import Derived.Test.YtbbembhfnapadaaDoorPVmPlaysx0
import Derived.Test.YtbbembhfnapadaaDoorPVmPlaysx1
namespace Go.Proofs.YtbbembhfnapadaaDoor.PVmPlays
open Go.RowKit Go.Proofs.YtbbembhfnapadaaDoorW.PrintWords Go.Proofs.YtbbembhfnapadaaDoorW.PrintLast Go.Proofs.YtbbembhfnapadaaDoorW.PrintMore
attribute [local go_sem] max2_int min2_int max_two min_two max_three min_three max_four min_four   -- for this text's walks alone
set_option linter.unusedVariables false
set_option linter.unusedSimpArgs false

/-! ### arith_two: function 113 -/
def arith_two.f (a0 : Int) (a1 : Int) (a2 : Int) : Option (Int) := if a0 = 5 then (some (wrap64 (a1 + a2))) else (if a0 = 6 then (some (wrap64 (a1 - a2))) else (if a0 = 7 then (some (wrap64 (a1 * a2))) else (if a0 = 8 then (if a2 = 0 then (none) else (some (wrap64 (Int.tdiv a1 a2)))) else (if a0 = 9 then (if a2 = 0 then (none) else (some (Int.tmod a1 a2))) else (if a0 = 10 then (some (Go.bits .and .i64 a1 a2)) else (if a0 = 11 then (some (Go.bits .or .i64 a1 a2)) else (if a0 = 12 then (some (Go.bits .xor .i64 a1 a2)) else (if a0 = 13 then (if 0 ≤ (Go.bits .and .u64 (IntKind.u64.wrap (a2)) 63) then (some (shl .i64 a1 (Go.bits .and .u64 (IntKind.u64.wrap (a2)) 63))) else (none)) else (if a0 = 14 then (if 0 ≤ (Go.bits .and .u64 (IntKind.u64.wrap (a2)) 63) then (some (shr .i64 a1 (Go.bits .and .u64 (IntKind.u64.wrap (a2)) 63))) else (none)) else (if a0 = 15 then ((arith_bit.f (a1 == a2)).bind fun t106 => (some t106)) else ((arith_bit.f (decide (a1 < a2))).bind fun t107 => (some t107))))))))))))
set_option maxHeartbeats 8000000 in
set_option maxRecDepth 100000 in
theorem arith_two.calls (a0 : Int) (a1 : Int) (a2 : Int) (r : Int) (w : World) (h : arith_two.f a0 a1 a2 = some r) :
    Calls Tryd.prog 113 #[.int .i64 a0, .int .i64 a1, .int .i64 a2] w fun e w' => e = .returned (.int .i64 r) ∧ Drawn0 w w' := by
  have H : (if a0 = 5 then (some (wrap64 (a1 + a2))) else (if a0 = 6 then (some (wrap64 (a1 - a2))) else (if a0 = 7 then (some (wrap64 (a1 * a2))) else (if a0 = 8 then (if a2 = 0 then (none) else (some (wrap64 (Int.tdiv a1 a2)))) else (if a0 = 9 then (if a2 = 0 then (none) else (some (Int.tmod a1 a2))) else (if a0 = 10 then (some (Go.bits .and .i64 a1 a2)) else (if a0 = 11 then (some (Go.bits .or .i64 a1 a2)) else (if a0 = 12 then (some (Go.bits .xor .i64 a1 a2)) else (if a0 = 13 then (if 0 ≤ (Go.bits .and .u64 (IntKind.u64.wrap (a2)) 63) then (some (shl .i64 a1 (Go.bits .and .u64 (IntKind.u64.wrap (a2)) 63))) else (none)) else (if a0 = 14 then (if 0 ≤ (Go.bits .and .u64 (IntKind.u64.wrap (a2)) 63) then (some (shr .i64 a1 (Go.bits .and .u64 (IntKind.u64.wrap (a2)) 63))) else (none)) else (if a0 = 15 then ((arith_bit.f (a1 == a2)).bind fun t106 => (some t106)) else ((arith_bit.f (decide (a1 < a2))).bind fun t107 => (some t107))))))))))))) = some r := h
  clear h
  by_cases c4 : a0 = 5
  · rw [if_pos c4] at H
    have c4b0 : (a0 == 5) = true := beq_iff_eq.mpr c4
    have c4b1 : (a0 != 5) = false := bne_eq_false_iff_eq.mpr c4
    clear c4
    obtain rfl := Option.some.inj H
    go_enter Tryd.func113, Tryd.ntmps113
    go_wp2
    go_ret
    exact ⟨by first | rfl | (simp; done) | (simp [*]; done), by repeat (first | exact Drawn0.refl _ | apply Drawn0.step)⟩
  · rw [if_neg c4] at H
    have c4b0 : (a0 == 5) = false := beq_eq_false_iff_ne.mpr c4
    have c4b1 : (a0 != 5) = true := bne_iff_ne.mpr c4
    by_cases c5 : a0 = 6
    · rw [if_pos c5] at H
      have c5b0 : (a0 == 6) = true := beq_iff_eq.mpr c5
      have c5b1 : (a0 != 6) = false := bne_eq_false_iff_eq.mpr c5
      clear c5
      obtain rfl := Option.some.inj H
      go_enter Tryd.func113, Tryd.ntmps113
      go_wp2
      go_ret
      exact ⟨by first | rfl | (simp; done) | (simp [*]; done), by repeat (first | exact Drawn0.refl _ | apply Drawn0.step)⟩
    · rw [if_neg c5] at H
      have c5b0 : (a0 == 6) = false := beq_eq_false_iff_ne.mpr c5
      have c5b1 : (a0 != 6) = true := bne_iff_ne.mpr c5
      by_cases c6 : a0 = 7
      · rw [if_pos c6] at H
        have c6b0 : (a0 == 7) = true := beq_iff_eq.mpr c6
        have c6b1 : (a0 != 7) = false := bne_eq_false_iff_eq.mpr c6
        clear c6
        obtain rfl := Option.some.inj H
        go_enter Tryd.func113, Tryd.ntmps113
        go_wp2
        go_ret
        exact ⟨by first | rfl | (simp; done) | (simp [*]; done), by repeat (first | exact Drawn0.refl _ | apply Drawn0.step)⟩
      · rw [if_neg c6] at H
        have c6b0 : (a0 == 7) = false := beq_eq_false_iff_ne.mpr c6
        have c6b1 : (a0 != 7) = true := bne_iff_ne.mpr c6
        by_cases c7 : a0 = 8
        · rw [if_pos c7] at H
          have c7b0 : (a0 == 8) = true := beq_iff_eq.mpr c7
          have c7b1 : (a0 != 8) = false := bne_eq_false_iff_eq.mpr c7
          clear c7
          by_cases c8 : a2 = 0
          · rw [if_pos c8] at H
            exact absurd H (by simp)
          · rw [if_neg c8] at H
            have c8b0 : (a2 == 0) = false := beq_eq_false_iff_ne.mpr c8
            have c8b1 : (a2 != 0) = true := bne_iff_ne.mpr c8
            obtain rfl := Option.some.inj H
            go_enter Tryd.func113, Tryd.ntmps113
            go_wp2
            go_ret
            exact ⟨by first | rfl | (simp; done) | (simp [*]; done), by repeat (first | exact Drawn0.refl _ | apply Drawn0.step)⟩
        · rw [if_neg c7] at H
          have c7b0 : (a0 == 8) = false := beq_eq_false_iff_ne.mpr c7
          have c7b1 : (a0 != 8) = true := bne_iff_ne.mpr c7
          by_cases c9 : a0 = 9
          · rw [if_pos c9] at H
            have c9b0 : (a0 == 9) = true := beq_iff_eq.mpr c9
            have c9b1 : (a0 != 9) = false := bne_eq_false_iff_eq.mpr c9
            clear c9
            by_cases c10 : a2 = 0
            · rw [if_pos c10] at H
              exact absurd H (by simp)
            · rw [if_neg c10] at H
              have c10b0 : (a2 == 0) = false := beq_eq_false_iff_ne.mpr c10
              have c10b1 : (a2 != 0) = true := bne_iff_ne.mpr c10
              obtain rfl := Option.some.inj H
              go_enter Tryd.func113, Tryd.ntmps113
              go_wp2
              go_ret
              exact ⟨by first | rfl | (simp; done) | (simp [*]; done), by repeat (first | exact Drawn0.refl _ | apply Drawn0.step)⟩
          · rw [if_neg c9] at H
            have c9b0 : (a0 == 9) = false := beq_eq_false_iff_ne.mpr c9
            have c9b1 : (a0 != 9) = true := bne_iff_ne.mpr c9
            by_cases c11 : a0 = 10
            · rw [if_pos c11] at H
              have c11b0 : (a0 == 10) = true := beq_iff_eq.mpr c11
              have c11b1 : (a0 != 10) = false := bne_eq_false_iff_eq.mpr c11
              clear c11
              obtain rfl := Option.some.inj H
              go_enter Tryd.func113, Tryd.ntmps113
              go_wp2
              go_ret
              exact ⟨by first | rfl | (simp; done) | (simp [*]; done), by repeat (first | exact Drawn0.refl _ | apply Drawn0.step)⟩
            · rw [if_neg c11] at H
              have c11b0 : (a0 == 10) = false := beq_eq_false_iff_ne.mpr c11
              have c11b1 : (a0 != 10) = true := bne_iff_ne.mpr c11
              by_cases c12 : a0 = 11
              · rw [if_pos c12] at H
                have c12b0 : (a0 == 11) = true := beq_iff_eq.mpr c12
                have c12b1 : (a0 != 11) = false := bne_eq_false_iff_eq.mpr c12
                clear c12
                obtain rfl := Option.some.inj H
                go_enter Tryd.func113, Tryd.ntmps113
                go_wp2
                go_ret
                exact ⟨by first | rfl | (simp; done) | (simp [*]; done), by repeat (first | exact Drawn0.refl _ | apply Drawn0.step)⟩
              · rw [if_neg c12] at H
                have c12b0 : (a0 == 11) = false := beq_eq_false_iff_ne.mpr c12
                have c12b1 : (a0 != 11) = true := bne_iff_ne.mpr c12
                by_cases c13 : a0 = 12
                · rw [if_pos c13] at H
                  have c13b0 : (a0 == 12) = true := beq_iff_eq.mpr c13
                  have c13b1 : (a0 != 12) = false := bne_eq_false_iff_eq.mpr c13
                  clear c13
                  obtain rfl := Option.some.inj H
                  go_enter Tryd.func113, Tryd.ntmps113
                  go_wp2
                  go_ret
                  exact ⟨by first | rfl | (simp; done) | (simp [*]; done), by repeat (first | exact Drawn0.refl _ | apply Drawn0.step)⟩
                · rw [if_neg c13] at H
                  have c13b0 : (a0 == 12) = false := beq_eq_false_iff_ne.mpr c13
                  have c13b1 : (a0 != 12) = true := bne_iff_ne.mpr c13
                  by_cases c14 : a0 = 13
                  · rw [if_pos c14] at H
                    have c14b0 : (a0 == 13) = true := beq_iff_eq.mpr c14
                    have c14b1 : (a0 != 13) = false := bne_eq_false_iff_eq.mpr c14
                    clear c14
                    obtain ⟨ji15, hji15⟩ : ∃ j_ : Int, (Go.bits .and .u64 (IntKind.u64.wrap (a2)) 63) = j_ := ⟨_, rfl⟩
                    replace H : (if 0 ≤ (ji15) then (some (shl .i64 a1 (ji15))) else (none)) = some r := by first | (rw [hji15] at H; exact H) | (simp only [hji15] at H ⊢; exact H)
                    by_cases c16 : 0 ≤ (ji15)
                    · rw [if_pos c16] at H
                      have c16b0 := eq_true c16
                      have c16b1 : decide (0 ≤ (ji15)) = true := decide_eq_true c16
                      clear c16
                      obtain ⟨ji17, hji17⟩ : ∃ j_ : Int, (shl .i64 a1 (ji15)) = j_ := ⟨_, rfl⟩
                      replace H : (some ji17) = some r := by first | (rw [hji17] at H; exact H) | (simp only [hji17] at H ⊢; exact H)
                      have hji17_ : (IntKind.i64.wrap (a1 * 2 ^ min (ji15).toNat 64)) = ji17 := hji17
                      have hji17z : (ji15) ≤ 64 → (IntKind.i64.wrap (a1 * 2 ^ (ji15).toNat)) = ji17 := shl_small hji17
                      have hji17y : (wrap64 (a1 * 2 ^ min (ji15).toNat 64)) = ji17 := (i64_w _).symm.trans hji17_
                      have hji17x : (ji15) ≤ 64 → (wrap64 (a1 * 2 ^ (ji15).toNat)) = ji17 := fun h_ => (i64_w _).symm.trans (hji17z h_)
                      obtain rfl := Option.some.inj H
                      go_enter Tryd.func113, Tryd.ntmps113
                      go_wp2
                      go_ret
                      exact ⟨by first | rfl | (simp; done) | (simp only [← hji15, ← hji17] <;> (first | rfl | simp)) | (simp [*]; done), by repeat (first | exact Drawn0.refl _ | apply Drawn0.step)⟩
                    · rw [if_neg c16] at H
                      exact absurd H (by simp)
                  · rw [if_neg c14] at H
                    have c14b0 : (a0 == 13) = false := beq_eq_false_iff_ne.mpr c14
                    have c14b1 : (a0 != 13) = true := bne_iff_ne.mpr c14
                    by_cases c18 : a0 = 14
                    · rw [if_pos c18] at H
                      have c18b0 : (a0 == 14) = true := beq_iff_eq.mpr c18
                      have c18b1 : (a0 != 14) = false := bne_eq_false_iff_eq.mpr c18
                      clear c18
                      obtain ⟨ji19, hji19⟩ : ∃ j_ : Int, (Go.bits .and .u64 (IntKind.u64.wrap (a2)) 63) = j_ := ⟨_, rfl⟩
                      replace H : (if 0 ≤ (ji19) then (some (shr .i64 a1 (ji19))) else (none)) = some r := by first | (rw [hji19] at H; exact H) | (simp only [hji19] at H ⊢; exact H)
                      by_cases c20 : 0 ≤ (ji19)
                      · rw [if_pos c20] at H
                        have c20b0 := eq_true c20
                        have c20b1 : decide (0 ≤ (ji19)) = true := decide_eq_true c20
                        clear c20
                        obtain ⟨ji21, hji21⟩ : ∃ j_ : Int, (shr .i64 a1 (ji19)) = j_ := ⟨_, rfl⟩
                        replace H : (some ji21) = some r := by first | (rw [hji21] at H; exact H) | (simp only [hji21] at H ⊢; exact H)
                        have hji21_ : (a1 / 2 ^ min (ji19).toNat 64) = ji21 := hji21
                        have hji21z : (ji19) ≤ 64 → (a1 / 2 ^ (ji19).toNat) = ji21 := shr_small hji21
                        obtain rfl := Option.some.inj H
                        go_enter Tryd.func113, Tryd.ntmps113
                        go_wp2
                        go_ret
                        exact ⟨by first | rfl | (simp; done) | (simp only [← hji19, ← hji21] <;> (first | rfl | simp)) | (simp [*]; done), by repeat (first | exact Drawn0.refl _ | apply Drawn0.step)⟩
                      · rw [if_neg c20] at H
                        exact absurd H (by simp)
                    · rw [if_neg c18] at H
                      have c18b0 : (a0 == 14) = false := beq_eq_false_iff_ne.mpr c18
                      have c18b1 : (a0 != 14) = true := bne_iff_ne.mpr c18
                      by_cases c22 : a0 = 15
                      · rw [if_pos c22] at H
                        have c22b0 : (a0 == 15) = true := beq_iff_eq.mpr c22
                        have c22b1 : (a0 != 15) = false := bne_eq_false_iff_eq.mpr c22
                        clear c22
                        replace H := Option.bind_eq_some_iff.mp H
                        obtain ⟨t106, A230, H⟩ := H
                        replace H : (some t106) = some r := H
                        have A23 := Aside0.mk A230
                        clear A230
                        obtain rfl := Option.some.inj H
                        go_enter Tryd.func113, Tryd.ntmps113
                        go_wp2_with (first | ((with_reducible refine gate_callee (f := 135) rfl ?_); refine goesL_ (some 67) rfl rfl Tryd.func135 (by kernel_rfl) rfl #[.bool (a1 == a2)] rfl (by (try simp only [List.map_toArray, List.map_cons, List.map_nil]); first | done | rfl | (simp only [List.length_drop, List.length_take]; rfl)) ?_; (with_reducible refine (arith_bit.calls (a1 == a2) t106 _ A23.out).mono ?_); rintro e w' ⟨rfl, ⟨nd, rfl⟩⟩; refine ⟨_, rfl, ?_⟩))
                        go_ret
                        exact ⟨by first | rfl | (simp; done) | (simp [*]; done), by repeat (first | exact Drawn0.refl _ | apply Drawn0.step)⟩
                      · rw [if_neg c22] at H
                        have c22b0 : (a0 == 15) = false := beq_eq_false_iff_ne.mpr c22
                        have c22b1 : (a0 != 15) = true := bne_iff_ne.mpr c22
                        replace H := Option.bind_eq_some_iff.mp H
                        obtain ⟨t107, A240, H⟩ := H
                        replace H : (some t107) = some r := H
                        have A24 := Aside0.mk A240
                        clear A240
                        obtain rfl := Option.some.inj H
                        go_enter Tryd.func113, Tryd.ntmps113
                        go_wp2_with (first | ((with_reducible refine gate_callee (f := 135) rfl ?_); refine goesL_ (some 71) rfl rfl Tryd.func135 (by kernel_rfl) rfl #[.bool (decide (a1 < a2))] rfl (by (try simp only [List.map_toArray, List.map_cons, List.map_nil]); first | done | rfl | (simp only [List.length_drop, List.length_take]; rfl)) ?_; (with_reducible refine (arith_bit.calls (decide (a1 < a2)) t107 _ A24.out).mono ?_); rintro e w' ⟨rfl, ⟨nd, rfl⟩⟩; refine ⟨_, rfl, ?_⟩))
                        go_ret
                        exact ⟨by first | rfl | (simp; done) | (simp [*]; done), by repeat (first | exact Drawn0.refl _ | apply Drawn0.step)⟩

/-! ### arith_Apply: function 81 -/
mutual
def arith_Apply.j0 : Nat → Int → List Int → Bool → Option (Int × Int)
  | 0, _, _, _ => none
  | k + 1, x0, x1, x24 => if x24 = true then (some (0, 2)) else (if x0 = 3 then (if 0 < (x1.length : Int) then (some (wrap64 (-(rd x1 0)), 0)) else (none)) else (if x0 = 4 then (if 0 < (x1.length : Int) then (some (Go.bits .xor .i64 (-1) (rd x1 0), 0)) else (none)) else (if x0 = 17 then (if 0 < (x1.length : Int) then (arith_Apply.j1 k x0 x1 ((rd x1 0) != 0)) else (none)) else (arith_Apply.j1 k x0 x1 false))))
def arith_Apply.j1 : Nat → Int → List Int → Bool → Option (Int × Int)
  | 0, _, _, _ => none
  | k + 1, x0, x1, x39 => if x39 = true then (if 1 < (x1.length : Int) then (some (rd x1 1, 0)) else (none)) else (if x0 = 17 then (if 2 < (x1.length : Int) then (some (rd x1 2, 0)) else (none)) else ((arith_group.f k x0).bind fun t115 => (if t115 = 1 then (if 1 < (x1.length : Int) then (if (rd x1 1) = 0 then (some (0, 12)) else (if 0 < (x1.length : Int) then ((arith_two.f x0 (rd x1 0) (rd x1 1)).bind fun t119 => (some (t119, 0))) else (none))) else (none)) else (if 0 < (x1.length : Int) then (if 1 < (x1.length : Int) then ((arith_two.f x0 (rd x1 0) (rd x1 1)).bind fun t122 => (some (t122, 0))) else (none)) else (none)))))
end
def arith_Apply.f (k : Nat) (a0 : Int) (l1 : List Int) : Option (Int × Int) := (expr_Arity.f k a0).bind fun bt108 => (if bt108.2 = 0 then (if bt108.1 = 0 then (arith_Apply.j0 k a0 l1 true) else (arith_Apply.j0 k a0 l1 (bt108.1 != (l1.length : Int)))) else (arith_Apply.j0 k a0 l1 true))
theorem arith_Apply.mono_l : ∀ k, (∀ y0 y1 y2, LeO (arith_Apply.j0 k y0 y1 y2) (arith_Apply.j0 (k + 1) y0 y1 y2)) ∧ (∀ y0 y1 y2, LeO (arith_Apply.j1 k y0 y1 y2) (arith_Apply.j1 (k + 1) y0 y1 y2))
  | 0 => ⟨fun _ _ _ r h => by simp [arith_Apply.j0] at h, fun _ _ _ r h => by simp [arith_Apply.j1] at h⟩
  | k + 1 => by
    obtain ⟨ih0, ih1⟩ := arith_Apply.mono_l k
    refine ⟨?_, ?_⟩
    · intro y0 y1 y2
      unfold arith_Apply.j0
      repeat' first
      | (with_reducible exact ih0 _ _ _)
      | (with_reducible exact ih1 _ _ _)
      | (with_reducible exact arith_group.mono _ _)
      | (with_reducible exact expr_Arity.mono _ _)
      | (with_reducible exact LeO.refl _)
      | (with_reducible exact LeO.none _)
      | (with_reducible refine LeO.ite ?_ ?_)
      | (with_reducible refine LeO.bind ?_ (fun _ => ?_))
      | exact ih0 _ _ _
      | exact ih1 _ _ _
      | exact arith_group.mono _ _
      | exact expr_Arity.mono _ _
      | exact LeO.none _
      | refine LeO.ite ?_ ?_
      | refine LeO.bind ?_ (fun _ => ?_)
    · intro y0 y1 y2
      unfold arith_Apply.j1
      repeat' first
      | (with_reducible exact ih0 _ _ _)
      | (with_reducible exact ih1 _ _ _)
      | (with_reducible exact arith_group.mono _ _)
      | (with_reducible exact expr_Arity.mono _ _)
      | (with_reducible exact LeO.refl _)
      | (with_reducible exact LeO.none _)
      | (with_reducible refine LeO.ite ?_ ?_)
      | (with_reducible refine LeO.bind ?_ (fun _ => ?_))
      | exact ih0 _ _ _
      | exact ih1 _ _ _
      | exact arith_group.mono _ _
      | exact expr_Arity.mono _ _
      | exact LeO.none _
      | refine LeO.ite ?_ ?_
      | refine LeO.bind ?_ (fun _ => ?_)
theorem arith_Apply.mono : ∀ a0 a1 k, LeO (arith_Apply.f k a0 a1) (arith_Apply.f (k + 1) a0 a1) := by
  intro a0 a1 k
  obtain ⟨ih0, ih1⟩ := arith_Apply.mono_l k
  unfold arith_Apply.f
  repeat' first
      | (with_reducible exact ih0 _ _ _)
      | (with_reducible exact ih1 _ _ _)
      | (with_reducible exact arith_group.mono _ _)
      | (with_reducible exact expr_Arity.mono _ _)
      | (with_reducible exact LeO.refl _)
      | (with_reducible exact LeO.none _)
      | (with_reducible refine LeO.ite ?_ ?_)
      | (with_reducible refine LeO.bind ?_ (fun _ => ?_))
      | exact ih0 _ _ _
      | exact ih1 _ _ _
      | exact arith_group.mono _ _
      | exact expr_Arity.mono _ _
      | exact LeO.none _
      | refine LeO.ite ?_ ?_
      | refine LeO.bind ?_ (fun _ => ?_)
set_option maxHeartbeats 8000000 in
set_option maxRecDepth 100000 in
theorem arith_Apply.calls (k : Nat) (a0 : Int) (A1 : Option Addr) (c1 : Nat) (l1 : List Int) (r1 : Int) (r2 : Int) (w : World) (hr1 : Kd.C (Kd.int .i64) w A1 l1.length l1) (hc1 : l1.length ≤ c1) (h : arith_Apply.f k a0 l1 = some (r1, r2)) :
    Calls Tryd.prog 81 #[.int .i64 a0, .slice A1 l1.length c1] w fun e w' => e = .returned (.tuple #[.int .i64 r1, .int .i64 r2]) ∧ Drawn0 w w' := by
  have HR1 := Aside0.mk hr1
  have HC1 := Aside0.mk hc1
  clear hr1 hc1
  have H : ((expr_Arity.f k a0).bind fun bt108 => (if bt108.2 = 0 then (if bt108.1 = 0 then (arith_Apply.j0 k a0 l1 true) else (arith_Apply.j0 k a0 l1 (bt108.1 != (l1.length : Int)))) else (arith_Apply.j0 k a0 l1 true))) = some (r1, r2) := h
  clear h
  replace H := Option.bind_eq_some_iff.mp H
  obtain ⟨⟨t108, t109⟩, A30, H⟩ := H
  replace H : (if t109 = 0 then (if t108 = 0 then (arith_Apply.j0 k a0 l1 true) else (arith_Apply.j0 k a0 l1 (t108 != (l1.length : Int)))) else (arith_Apply.j0 k a0 l1 true)) = some (r1, r2) := H
  have A3 := Aside0.mk A30
  clear A30
  have HC4 := Aside0.mk H
  clear H
  go_enter Tryd.func81, Tryd.ntmps81
  go_upto_region 2 with (first | (go_at_call 94; (with_reducible refine (expr_Arity.calls k a0 t108 t109 _ A3.out).mono ?_); rintro e w' ⟨rfl, ⟨nd, rfl⟩⟩; (try first | exact ⟨rfl, _, World.drewN_drewN _ _ _⟩ | exact ⟨rfl, _, Eq.trans (World.drewN_drewN _ _ _) (congrArg (World.drewN _) (Nat.add_assoc _ _ _))⟩)))
  repeat (go_quiet (first | (go_at_call 94; (with_reducible refine (expr_Arity.calls k a0 t108 t109 _ A3.out).mono ?_); rintro e w' ⟨rfl, ⟨nd, rfl⟩⟩; (try first | exact ⟨rfl, _, World.drewN_drewN _ _ _⟩ | exact ⟨rfl, _, Eq.trans (World.drewN_drewN _ _ _) (congrArg (World.drewN _) (Nat.add_assoc _ _ _))⟩))); go_upto_region 2 with (first | (go_at_call 94; (with_reducible refine (expr_Arity.calls k a0 t108 t109 _ A3.out).mono ?_); rintro e w' ⟨rfl, ⟨nd, rfl⟩⟩; (try first | exact ⟨rfl, _, World.drewN_drewN _ _ _⟩ | exact ⟨rfl, _, Eq.trans (World.drewN_drewN _ _ _) (congrArg (World.drewN _) (Nat.add_assoc _ _ _))⟩))))
  (try simp only [Act.put, List.setIfInBounds_toArray, List.set_cons_zero, List.set_cons_succ])
  go_cut [24] (fun v24 wc => ∃ (kq : Nat) (x24_3 : Bool), v24 = .bool x24_3 ∧ Aside0 (arith_Apply.j0 kq a0 l1 x24_3 = some (r1, r2)) ∧ Aside0 (kq ≤ k) ∧ Drawn0 w wc)
  case first =>
    have H := HC4.out
    clear HC4
    by_cases c5 : t109 = 0
    · rw [if_pos c5] at H
      have c5b0 : (t109 == 0) = true := beq_iff_eq.mpr c5
      have c5b1 : (t109 != 0) = false := bne_eq_false_iff_eq.mpr c5
      clear c5
      (first | rw [c5b0] | (simp only [i64_w, i32_w]; rw [c5b0]) | skip)
      by_cases c6 : t108 = 0
      · rw [if_pos c6] at H
        have c6b0 : (t108 == 0) = true := beq_iff_eq.mpr c6
        have c6b1 : (t108 != 0) = false := bne_eq_false_iff_eq.mpr c6
        clear c6
        have H' := Aside0.mk H
        clear H
        go_wp2
        repeat (go_quiet (fail); try go_wp2)
        go_meet
        case rel => exact ⟨_, (true), (by first | rfl | (simp; done) | (simp [*]; done)), H', ⟨by first | omega | exact Nat.le_refl _⟩, by repeat (first | exact Drawn0.refl _ | apply Drawn0.step)⟩
      · rw [if_neg c6] at H
        have c6b0 : (t108 == 0) = false := beq_eq_false_iff_ne.mpr c6
        have c6b1 : (t108 != 0) = true := bne_iff_ne.mpr c6
        have H' := Aside0.mk H
        clear H
        go_wp2
        repeat (go_quiet (fail); try go_wp2)
        go_meet
        case rel => exact ⟨_, ((t108 != (l1.length : Int))), (by first | rfl | (simp; done) | (simp [*]; done)), H', ⟨by first | omega | exact Nat.le_refl _⟩, by repeat (first | exact Drawn0.refl _ | apply Drawn0.step)⟩
    · rw [if_neg c5] at H
      have c5b0 : (t109 == 0) = false := beq_eq_false_iff_ne.mpr c5
      have c5b1 : (t109 != 0) = true := bne_iff_ne.mpr c5
      (first | rw [c5b0] | (simp only [i64_w, i32_w]; rw [c5b0]) | skip)
      have H' := Aside0.mk H
      clear H
      go_wp2
      repeat (go_quiet (fail); try go_wp2)
      go_meet
      case rel => exact ⟨_, (true), (by first | rfl | (simp; done) | (simp [*]; done)), H', ⟨by first | omega | exact Nat.le_refl _⟩, by repeat (first | exact Drawn0.refl _ | apply Drawn0.step)⟩
  case rest =>
    clear HC4
    try clear c1
    try clear p2
    try clear c5
    try clear c5b0
    try clear c5b1
    try clear c6
    try clear c6b0
    try clear c6b1
    obtain ⟨kq, x24_3, rfl, HA, HJ3, ⟨mc3, rfl⟩⟩ := hcut
    cases kq with
    | zero => exact absurd HA.out (by simp [arith_Apply.j0])
    | succ kj3 =>
      have H := HA.out
      clear HA
      simp only [arith_Apply.j0] at H
      by_cases c7 : x24_3 = true
      · subst c7
        have H1 : (some (0, 2)) = some (r1, r2) := by rw [if_pos rfl] at H; exact H
        clear H
        have H := H1
        clear H1
        simp only [Option.some.injEq, Prod.mk.injEq] at H
        obtain ⟨rfl, rfl⟩ := H
        go_wp2
        repeat (go_quiet (fail); try go_wp2)
        go_ret2
        exact ⟨by first | rfl | (simp; done) | (simp [*]; done), by repeat (first | exact Drawn0.refl _ | apply Drawn0.step)⟩
      · replace c7 := Bool.eq_false_iff.mpr c7
        subst c7
        have H1 : (if a0 = 3 then (if 0 < (l1.length : Int) then (some (wrap64 (-(rd l1 0)), 0)) else (none)) else (if a0 = 4 then (if 0 < (l1.length : Int) then (some (Go.bits .xor .i64 (-1) (rd l1 0), 0)) else (none)) else (if a0 = 17 then (if 0 < (l1.length : Int) then (arith_Apply.j1 kj3 a0 l1 ((rd l1 0) != 0)) else (none)) else (arith_Apply.j1 kj3 a0 l1 false)))) = some (r1, r2) := by rw [if_neg (show ¬ (false = true) by decide)] at H; exact H
        clear H
        have H := H1
        clear H1
        by_cases c8 : a0 = 3
        · rw [if_pos c8] at H
          have c8b0 : (a0 == 3) = true := beq_iff_eq.mpr c8
          have c8b1 : (a0 != 3) = false := bne_eq_false_iff_eq.mpr c8
          clear c8
          by_cases c9 : 0 < (l1.length : Int)
          · rw [if_pos c9] at H
            have c9b0 : decide (0 < (l1.length : Int)) = true := decide_eq_true c9
            have c9b1 : decide (0 < l1.length) = true := decide_eq_true (by omega)
            clear c9
            simp only [Option.some.injEq, Prod.mk.injEq] at H
            obtain ⟨rfl, rfl⟩ := H
            have p110 : 0 ≤ (0 : Int) := (by omega)
            have q110 : 0 < (l1.length : Int) := of_decide_eq_true (by first | (with_reducible assumption) | assumption)
            obtain ⟨ad110, e110, hx110_0⟩ := Kd.at_int HR1.out 0 p110 q110
            cases e110
            have qi110 : (0 < l1.length) = True := eq_true (by omega)
            (try rw [show ((0 : Int)).toNat = 0 from rfl] at hx110_0)
            (try rw [Addr.add_zero'] at hx110_0)
            replace p110 := eq_true p110
            replace q110 := eq_true q110
            go_wp2
            repeat (go_quiet (fail); try go_wp2)
            go_ret2
            exact ⟨by first | rfl | (simp; done) | (simp [*]; done), by repeat (first | exact Drawn0.refl _ | apply Drawn0.step)⟩
          · rw [if_neg c9] at H
            exact absurd H (by simp)
        · rw [if_neg c8] at H
          have c8b0 : (a0 == 3) = false := beq_eq_false_iff_ne.mpr c8
          have c8b1 : (a0 != 3) = true := bne_iff_ne.mpr c8
          by_cases c10 : a0 = 4
          · rw [if_pos c10] at H
            have c10b0 : (a0 == 4) = true := beq_iff_eq.mpr c10
            have c10b1 : (a0 != 4) = false := bne_eq_false_iff_eq.mpr c10
            clear c10
            by_cases c11 : 0 < (l1.length : Int)
            · rw [if_pos c11] at H
              have c11b0 : decide (0 < (l1.length : Int)) = true := decide_eq_true c11
              have c11b1 : decide (0 < l1.length) = true := decide_eq_true (by omega)
              clear c11
              simp only [Option.some.injEq, Prod.mk.injEq] at H
              obtain ⟨rfl, rfl⟩ := H
              have p111 : 0 ≤ (0 : Int) := (by omega)
              have q111 : 0 < (l1.length : Int) := of_decide_eq_true (by first | (with_reducible assumption) | assumption)
              obtain ⟨ad111, e111, hx111_0⟩ := Kd.at_int HR1.out 0 p111 q111
              cases e111
              have qi111 : (0 < l1.length) = True := eq_true (by omega)
              (try rw [show ((0 : Int)).toNat = 0 from rfl] at hx111_0)
              (try rw [Addr.add_zero'] at hx111_0)
              replace p111 := eq_true p111
              replace q111 := eq_true q111
              go_wp2
              repeat (go_quiet (fail); try go_wp2)
              go_ret2
              exact ⟨by first | rfl | (simp; done) | (simp [*]; done), by repeat (first | exact Drawn0.refl _ | apply Drawn0.step)⟩
            · rw [if_neg c11] at H
              exact absurd H (by simp)
          · rw [if_neg c10] at H
            have c10b0 : (a0 == 4) = false := beq_eq_false_iff_ne.mpr c10
            have c10b1 : (a0 != 4) = true := bne_iff_ne.mpr c10
            have HC12 := Aside0.mk H
            clear H
            go_upto_region 8 with (fail)
            repeat (go_quiet (fail); go_upto_region 8 with (fail))
            go_cut [39] (fun v39 wc => ∃ (kq : Nat) (x39_11 : Bool), v39 = .bool x39_11 ∧ Aside0 (arith_Apply.j1 kq a0 l1 x39_11 = some (r1, r2)) ∧ Aside0 (kq ≤ kj3) ∧ Drawn0 w wc)
            case first =>
              have H := HC12.out
              clear HC12
              by_cases c13 : a0 = 17
              · rw [if_pos c13] at H
                have c13b0 : (a0 == 17) = true := beq_iff_eq.mpr c13
                have c13b1 : (a0 != 17) = false := bne_eq_false_iff_eq.mpr c13
                clear c13
                (first | rw [c13b0] | (simp only [i64_w, i32_w]; rw [c13b0]) | skip)
                by_cases c14 : 0 < (l1.length : Int)
                · rw [if_pos c14] at H
                  have c14b0 : decide (0 < (l1.length : Int)) = true := decide_eq_true c14
                  have c14b1 : decide (0 < l1.length) = true := decide_eq_true (by omega)
                  clear c14
                  have H' := Aside0.mk H
                  clear H
                  have p112 : 0 ≤ (0 : Int) := (by omega)
                  have q112 : 0 < (l1.length : Int) := of_decide_eq_true (by first | (with_reducible assumption) | assumption)
                  obtain ⟨ad112, e112, hx112_0⟩ := Kd.at_int HR1.out 0 p112 q112
                  cases e112
                  have qi112 : (0 < l1.length) = True := eq_true (by omega)
                  (try rw [show ((0 : Int)).toNat = 0 from rfl] at hx112_0)
                  (try rw [Addr.add_zero'] at hx112_0)
                  replace p112 := eq_true p112
                  replace q112 := eq_true q112
                  go_wp2
                  repeat (go_quiet (fail); try go_wp2)
                  go_meet
                  case rel => exact ⟨_, (((rd l1 0) != 0)), (by first | rfl | (simp; done) | (simp [*]; done)), H', ⟨by have := HJ3.out; first | omega | exact Nat.le_refl _⟩, by repeat (first | exact Drawn0.refl _ | apply Drawn0.step)⟩
                · rw [if_neg c14] at H
                  exact absurd H (by simp)
              · rw [if_neg c13] at H
                have c13b0 : (a0 == 17) = false := beq_eq_false_iff_ne.mpr c13
                have c13b1 : (a0 != 17) = true := bne_iff_ne.mpr c13
                (first | rw [c13b0] | (simp only [i64_w, i32_w]; rw [c13b0]) | skip)
                have H' := Aside0.mk H
                clear H
                go_wp2
                repeat (go_quiet (fail); try go_wp2)
                go_meet
                case rel => exact ⟨_, (false), (by first | rfl | (simp; done) | (simp [*]; done)), H', ⟨by have := HJ3.out; first | omega | exact Nat.le_refl _⟩, by repeat (first | exact Drawn0.refl _ | apply Drawn0.step)⟩
            case rest =>
              clear HC12
              try clear c1
              try clear p1
              try clear q1
              try clear hx1
              try clear qi1
              try clear p2
              try clear c3
              try clear c5
              try clear c5b0
              try clear c5b1
              try clear c6
              try clear c6b0
              try clear c6b1
              try clear p6
              try clear c7
              try clear c8
              try clear c8b0
              try clear c8b1
              try clear c9
              try clear c9b0
              try clear c9b1
              try clear c10
              try clear c10b0
              try clear c10b1
              try clear c11
              try clear c11b0
              try clear c11b1
              try clear p11
              try clear q11
              try clear hx11
              try clear qi11
              try clear c13
              try clear c13b0
              try clear c13b1
              try clear c14
              try clear c14b0
              try clear c14b1
              try clear hx110_0
              try clear hx111_0
              try clear hx112_0
              try clear p110
              try clear p111
              try clear p112
              try clear p2
              try clear q110
              try clear q111
              try clear q112
              obtain ⟨kq, x39_11, rfl, HA, HJ11, ⟨mc11, rfl⟩⟩ := hcut
              cases kq with
              | zero => exact absurd HA.out (by simp [arith_Apply.j1])
              | succ kj11 =>
                have H := HA.out
                clear HA
                simp only [arith_Apply.j1] at H
                by_cases c15 : x39_11 = true
                · subst c15
                  have H1 : (if 1 < (l1.length : Int) then (some (rd l1 1, 0)) else (none)) = some (r1, r2) := by rw [if_pos rfl] at H; exact H
                  clear H
                  have H := H1
                  clear H1
                  by_cases c16 : 1 < (l1.length : Int)
                  · rw [if_pos c16] at H
                    have c16b0 : decide (1 < (l1.length : Int)) = true := decide_eq_true c16
                    have c16b1 : decide (1 < l1.length) = true := decide_eq_true (by omega)
                    clear c16
                    simp only [Option.some.injEq, Prod.mk.injEq] at H
                    obtain ⟨rfl, rfl⟩ := H
                    have p113 : 0 ≤ (1 : Int) := (by omega)
                    have q113 : 1 < (l1.length : Int) := of_decide_eq_true (by first | (with_reducible assumption) | assumption)
                    obtain ⟨ad113, e113, hx113_0⟩ := Kd.at_int HR1.out 1 p113 q113
                    cases e113
                    (try simp only [show (1 : Int).toNat = 1 from rfl, Nat.reduceMul, Nat.reduceEqDiff, Go.Addr.add, ↓reduceIte] at hx113_0)
                    have qi113 : (1 < l1.length) = True := eq_true (by omega)
                    (try rw [show ((1 : Int)).toNat = 1 from rfl] at hx113_0)
                    replace p113 := eq_true p113
                    replace q113 := eq_true q113
                    go_wp2
                    repeat (go_quiet (fail); try go_wp2)
                    go_ret2
                    exact ⟨by first | rfl | (simp; done) | (simp [*]; done), by repeat (first | exact Drawn0.refl _ | apply Drawn0.step)⟩
                  · rw [if_neg c16] at H
                    exact absurd H (by simp)
                · replace c15 := Bool.eq_false_iff.mpr c15
                  subst c15
                  have H1 : (if a0 = 17 then (if 2 < (l1.length : Int) then (some (rd l1 2, 0)) else (none)) else ((arith_group.f kj11 a0).bind fun t115 => (if t115 = 1 then (if 1 < (l1.length : Int) then (if (rd l1 1) = 0 then (some (0, 12)) else (if 0 < (l1.length : Int) then ((arith_two.f a0 (rd l1 0) (rd l1 1)).bind fun t119 => (some (t119, 0))) else (none))) else (none)) else (if 0 < (l1.length : Int) then (if 1 < (l1.length : Int) then ((arith_two.f a0 (rd l1 0) (rd l1 1)).bind fun t122 => (some (t122, 0))) else (none)) else (none))))) = some (r1, r2) := by rw [if_neg (show ¬ (false = true) by decide)] at H; exact H
                  clear H
                  have H := H1
                  clear H1
                  by_cases c17 : a0 = 17
                  · rw [if_pos c17] at H
                    have c17b0 : (a0 == 17) = true := beq_iff_eq.mpr c17
                    have c17b1 : (a0 != 17) = false := bne_eq_false_iff_eq.mpr c17
                    clear c17
                    by_cases c18 : 2 < (l1.length : Int)
                    · rw [if_pos c18] at H
                      have c18b0 : decide (2 < (l1.length : Int)) = true := decide_eq_true c18
                      have c18b1 : decide (2 < l1.length) = true := decide_eq_true (by omega)
                      clear c18
                      simp only [Option.some.injEq, Prod.mk.injEq] at H
                      obtain ⟨rfl, rfl⟩ := H
                      have p114 : 0 ≤ (2 : Int) := (by omega)
                      have q114 : 2 < (l1.length : Int) := of_decide_eq_true (by first | (with_reducible assumption) | assumption)
                      obtain ⟨ad114, e114, hx114_0⟩ := Kd.at_int HR1.out 2 p114 q114
                      cases e114
                      (try simp only [show (2 : Int).toNat = 2 from rfl, Nat.reduceMul, Nat.reduceEqDiff, Go.Addr.add, ↓reduceIte] at hx114_0)
                      have qi114 : (2 < l1.length) = True := eq_true (by omega)
                      (try rw [show ((2 : Int)).toNat = 2 from rfl] at hx114_0)
                      replace p114 := eq_true p114
                      replace q114 := eq_true q114
                      go_wp2
                      repeat (go_quiet (fail); try go_wp2)
                      go_ret2
                      exact ⟨by first | rfl | (simp; done) | (simp [*]; done), by repeat (first | exact Drawn0.refl _ | apply Drawn0.step)⟩
                    · rw [if_neg c18] at H
                      exact absurd H (by simp)
                  · rw [if_neg c17] at H
                    have c17b0 : (a0 == 17) = false := beq_eq_false_iff_ne.mpr c17
                    have c17b1 : (a0 != 17) = true := bne_iff_ne.mpr c17
                    replace H := Option.bind_eq_some_iff.mp H
                    obtain ⟨t115, A190, H⟩ := H
                    replace H : (if t115 = 1 then (if 1 < (l1.length : Int) then (if (rd l1 1) = 0 then (some (0, 12)) else (if 0 < (l1.length : Int) then ((arith_two.f a0 (rd l1 0) (rd l1 1)).bind fun t119 => (some (t119, 0))) else (none))) else (none)) else (if 0 < (l1.length : Int) then (if 1 < (l1.length : Int) then ((arith_two.f a0 (rd l1 0) (rd l1 1)).bind fun t122 => (some (t122, 0))) else (none)) else (none))) = some (r1, r2) := H
                    have A19 := Aside0.mk A190
                    clear A190
                    by_cases c20 : t115 = 1
                    · rw [if_pos c20] at H
                      have c20b0 : (t115 == 1) = true := beq_iff_eq.mpr c20
                      have c20b1 : (t115 != 1) = false := bne_eq_false_iff_eq.mpr c20
                      clear c20
                      by_cases c21 : 1 < (l1.length : Int)
                      · rw [if_pos c21] at H
                        have c21b0 : decide (1 < (l1.length : Int)) = true := decide_eq_true c21
                        have c21b1 : decide (1 < l1.length) = true := decide_eq_true (by omega)
                        clear c21
                        by_cases c22 : (rd l1 1) = 0
                        · rw [if_pos c22] at H
                          have c22b0 : ((rd l1 1) == 0) = true := beq_iff_eq.mpr c22
                          have c22b1 : ((rd l1 1) != 0) = false := bne_eq_false_iff_eq.mpr c22
                          clear c22
                          simp only [Option.some.injEq, Prod.mk.injEq] at H
                          obtain ⟨rfl, rfl⟩ := H
                          go_wp2_with (first | (go_at_call 112; (with_reducible refine (arith_group.calls kj11 a0 t115 _ A19.out).mono ?_); rintro e w' ⟨rfl, ⟨nd, rfl⟩⟩; (try first | exact ⟨rfl, _, World.drewN_drewN _ _ _⟩ | exact ⟨rfl, _, Eq.trans (World.drewN_drewN _ _ _) (congrArg (World.drewN _) (Nat.add_assoc _ _ _))⟩); have p116 : 0 ≤ (1 : Int) := (by omega); have q116 : 1 < (l1.length : Int) := of_decide_eq_true (by first | (with_reducible assumption) | assumption); obtain ⟨ad116, e116, hx116_0⟩ := Kd.at_int HR1.out 1 p116 q116; cases e116; (try simp only [show (1 : Int).toNat = 1 from rfl, Nat.reduceMul, Nat.reduceEqDiff, Go.Addr.add, ↓reduceIte] at hx116_0); have qi116 : (1 < l1.length) = True := eq_true (by omega); (try rw [show ((1 : Int)).toNat = 1 from rfl] at hx116_0); replace p116 := eq_true p116; replace q116 := eq_true q116))
                          repeat (go_quiet (first | (go_at_call 112; (with_reducible refine (arith_group.calls kj11 a0 t115 _ A19.out).mono ?_); rintro e w' ⟨rfl, ⟨nd, rfl⟩⟩; (try first | exact ⟨rfl, _, World.drewN_drewN _ _ _⟩ | exact ⟨rfl, _, Eq.trans (World.drewN_drewN _ _ _) (congrArg (World.drewN _) (Nat.add_assoc _ _ _))⟩); have p116 : 0 ≤ (1 : Int) := (by omega); have q116 : 1 < (l1.length : Int) := of_decide_eq_true (by first | (with_reducible assumption) | assumption); obtain ⟨ad116, e116, hx116_0⟩ := Kd.at_int HR1.out 1 p116 q116; cases e116; (try simp only [show (1 : Int).toNat = 1 from rfl, Nat.reduceMul, Nat.reduceEqDiff, Go.Addr.add, ↓reduceIte] at hx116_0); have qi116 : (1 < l1.length) = True := eq_true (by omega); (try rw [show ((1 : Int)).toNat = 1 from rfl] at hx116_0); replace p116 := eq_true p116; replace q116 := eq_true q116)); try go_wp2_with (first | (go_at_call 112; (with_reducible refine (arith_group.calls kj11 a0 t115 _ A19.out).mono ?_); rintro e w' ⟨rfl, ⟨nd, rfl⟩⟩; (try first | exact ⟨rfl, _, World.drewN_drewN _ _ _⟩ | exact ⟨rfl, _, Eq.trans (World.drewN_drewN _ _ _) (congrArg (World.drewN _) (Nat.add_assoc _ _ _))⟩); have p116 : 0 ≤ (1 : Int) := (by omega); have q116 : 1 < (l1.length : Int) := of_decide_eq_true (by first | (with_reducible assumption) | assumption); obtain ⟨ad116, e116, hx116_0⟩ := Kd.at_int HR1.out 1 p116 q116; cases e116; (try simp only [show (1 : Int).toNat = 1 from rfl, Nat.reduceMul, Nat.reduceEqDiff, Go.Addr.add, ↓reduceIte] at hx116_0); have qi116 : (1 < l1.length) = True := eq_true (by omega); (try rw [show ((1 : Int)).toNat = 1 from rfl] at hx116_0); replace p116 := eq_true p116; replace q116 := eq_true q116)))
                          go_ret2
                          exact ⟨by first | rfl | (simp; done) | (simp [*]; done), by repeat (first | exact Drawn0.refl _ | apply Drawn0.step)⟩
                        · rw [if_neg c22] at H
                          have c22b0 : ((rd l1 1) == 0) = false := beq_eq_false_iff_ne.mpr c22
                          have c22b1 : ((rd l1 1) != 0) = true := bne_iff_ne.mpr c22
                          by_cases c23 : 0 < (l1.length : Int)
                          · rw [if_pos c23] at H
                            have c23b0 : decide (0 < (l1.length : Int)) = true := decide_eq_true c23
                            have c23b1 : decide (0 < l1.length) = true := decide_eq_true (by omega)
                            clear c23
                            replace H := Option.bind_eq_some_iff.mp H
                            obtain ⟨t119, A240, H⟩ := H
                            replace H : (some (t119, 0)) = some (r1, r2) := H
                            have A24 := Aside0.mk A240
                            clear A240
                            simp only [Option.some.injEq, Prod.mk.injEq] at H
                            obtain ⟨rfl, rfl⟩ := H
                            go_wp2_with (first | (go_at_call 112; (with_reducible refine (arith_group.calls kj11 a0 t115 _ A19.out).mono ?_); rintro e w' ⟨rfl, ⟨nd, rfl⟩⟩; (try first | exact ⟨rfl, _, World.drewN_drewN _ _ _⟩ | exact ⟨rfl, _, Eq.trans (World.drewN_drewN _ _ _) (congrArg (World.drewN _) (Nat.add_assoc _ _ _))⟩); have p116 : 0 ≤ (1 : Int) := (by omega); have q116 : 1 < (l1.length : Int) := of_decide_eq_true (by first | (with_reducible assumption) | assumption); obtain ⟨ad116, e116, hx116_0⟩ := Kd.at_int HR1.out 1 p116 q116; cases e116; (try simp only [show (1 : Int).toNat = 1 from rfl, Nat.reduceMul, Nat.reduceEqDiff, Go.Addr.add, ↓reduceIte] at hx116_0); have qi116 : (1 < l1.length) = True := eq_true (by omega); (try rw [show ((1 : Int)).toNat = 1 from rfl] at hx116_0); replace p116 := eq_true p116; replace q116 := eq_true q116; have p117 : 0 ≤ (0 : Int) := (by omega); have q117 : 0 < (l1.length : Int) := of_decide_eq_true (by first | (with_reducible assumption) | assumption); obtain ⟨ad117, e117, hx117_0⟩ := Kd.at_int HR1.out 0 p117 q117; obtain rfl : ad116 = ad117 := (by injection e117); have qi117 : (0 < l1.length) = True := eq_true (by omega); (try rw [show ((0 : Int)).toNat = 0 from rfl] at hx117_0); (try rw [Addr.add_zero'] at hx117_0); replace p117 := eq_true p117; replace q117 := eq_true q117; have p118 : 0 ≤ (1 : Int) := (by omega); have q118 : 1 < (l1.length : Int) := of_decide_eq_true (by first | (with_reducible assumption) | assumption); obtain ⟨ad118, e118, hx118_0⟩ := Kd.at_int HR1.out 1 p118 q118; obtain rfl : ad116 = ad118 := (by injection e118); (try simp only [show (1 : Int).toNat = 1 from rfl, Nat.reduceMul, Nat.reduceEqDiff, Go.Addr.add, ↓reduceIte] at hx118_0); have qi118 : (1 < l1.length) = True := eq_true (by omega); (try rw [show ((1 : Int)).toNat = 1 from rfl] at hx118_0); replace p118 := eq_true p118; replace q118 := eq_true q118) | (go_at_call 113; (with_reducible refine (arith_two.calls a0 (rd l1 0) (rd l1 1) t119 _ A24.out).mono ?_); rintro e w' ⟨rfl, ⟨nd, rfl⟩⟩; (try first | exact ⟨rfl, _, World.drewN_drewN _ _ _⟩ | exact ⟨rfl, _, Eq.trans (World.drewN_drewN _ _ _) (congrArg (World.drewN _) (Nat.add_assoc _ _ _))⟩)))
                            repeat (go_quiet (first | (go_at_call 112; (with_reducible refine (arith_group.calls kj11 a0 t115 _ A19.out).mono ?_); rintro e w' ⟨rfl, ⟨nd, rfl⟩⟩; (try first | exact ⟨rfl, _, World.drewN_drewN _ _ _⟩ | exact ⟨rfl, _, Eq.trans (World.drewN_drewN _ _ _) (congrArg (World.drewN _) (Nat.add_assoc _ _ _))⟩); have p116 : 0 ≤ (1 : Int) := (by omega); have q116 : 1 < (l1.length : Int) := of_decide_eq_true (by first | (with_reducible assumption) | assumption); obtain ⟨ad116, e116, hx116_0⟩ := Kd.at_int HR1.out 1 p116 q116; cases e116; (try simp only [show (1 : Int).toNat = 1 from rfl, Nat.reduceMul, Nat.reduceEqDiff, Go.Addr.add, ↓reduceIte] at hx116_0); have qi116 : (1 < l1.length) = True := eq_true (by omega); (try rw [show ((1 : Int)).toNat = 1 from rfl] at hx116_0); replace p116 := eq_true p116; replace q116 := eq_true q116; have p117 : 0 ≤ (0 : Int) := (by omega); have q117 : 0 < (l1.length : Int) := of_decide_eq_true (by first | (with_reducible assumption) | assumption); obtain ⟨ad117, e117, hx117_0⟩ := Kd.at_int HR1.out 0 p117 q117; obtain rfl : ad116 = ad117 := (by injection e117); have qi117 : (0 < l1.length) = True := eq_true (by omega); (try rw [show ((0 : Int)).toNat = 0 from rfl] at hx117_0); (try rw [Addr.add_zero'] at hx117_0); replace p117 := eq_true p117; replace q117 := eq_true q117; have p118 : 0 ≤ (1 : Int) := (by omega); have q118 : 1 < (l1.length : Int) := of_decide_eq_true (by first | (with_reducible assumption) | assumption); obtain ⟨ad118, e118, hx118_0⟩ := Kd.at_int HR1.out 1 p118 q118; obtain rfl : ad116 = ad118 := (by injection e118); (try simp only [show (1 : Int).toNat = 1 from rfl, Nat.reduceMul, Nat.reduceEqDiff, Go.Addr.add, ↓reduceIte] at hx118_0); have qi118 : (1 < l1.length) = True := eq_true (by omega); (try rw [show ((1 : Int)).toNat = 1 from rfl] at hx118_0); replace p118 := eq_true p118; replace q118 := eq_true q118) | (go_at_call 113; (with_reducible refine (arith_two.calls a0 (rd l1 0) (rd l1 1) t119 _ A24.out).mono ?_); rintro e w' ⟨rfl, ⟨nd, rfl⟩⟩; (try first | exact ⟨rfl, _, World.drewN_drewN _ _ _⟩ | exact ⟨rfl, _, Eq.trans (World.drewN_drewN _ _ _) (congrArg (World.drewN _) (Nat.add_assoc _ _ _))⟩))); try go_wp2_with (first | (go_at_call 112; (with_reducible refine (arith_group.calls kj11 a0 t115 _ A19.out).mono ?_); rintro e w' ⟨rfl, ⟨nd, rfl⟩⟩; (try first | exact ⟨rfl, _, World.drewN_drewN _ _ _⟩ | exact ⟨rfl, _, Eq.trans (World.drewN_drewN _ _ _) (congrArg (World.drewN _) (Nat.add_assoc _ _ _))⟩); have p116 : 0 ≤ (1 : Int) := (by omega); have q116 : 1 < (l1.length : Int) := of_decide_eq_true (by first | (with_reducible assumption) | assumption); obtain ⟨ad116, e116, hx116_0⟩ := Kd.at_int HR1.out 1 p116 q116; cases e116; (try simp only [show (1 : Int).toNat = 1 from rfl, Nat.reduceMul, Nat.reduceEqDiff, Go.Addr.add, ↓reduceIte] at hx116_0); have qi116 : (1 < l1.length) = True := eq_true (by omega); (try rw [show ((1 : Int)).toNat = 1 from rfl] at hx116_0); replace p116 := eq_true p116; replace q116 := eq_true q116; have p117 : 0 ≤ (0 : Int) := (by omega); have q117 : 0 < (l1.length : Int) := of_decide_eq_true (by first | (with_reducible assumption) | assumption); obtain ⟨ad117, e117, hx117_0⟩ := Kd.at_int HR1.out 0 p117 q117; obtain rfl : ad116 = ad117 := (by injection e117); have qi117 : (0 < l1.length) = True := eq_true (by omega); (try rw [show ((0 : Int)).toNat = 0 from rfl] at hx117_0); (try rw [Addr.add_zero'] at hx117_0); replace p117 := eq_true p117; replace q117 := eq_true q117; have p118 : 0 ≤ (1 : Int) := (by omega); have q118 : 1 < (l1.length : Int) := of_decide_eq_true (by first | (with_reducible assumption) | assumption); obtain ⟨ad118, e118, hx118_0⟩ := Kd.at_int HR1.out 1 p118 q118; obtain rfl : ad116 = ad118 := (by injection e118); (try simp only [show (1 : Int).toNat = 1 from rfl, Nat.reduceMul, Nat.reduceEqDiff, Go.Addr.add, ↓reduceIte] at hx118_0); have qi118 : (1 < l1.length) = True := eq_true (by omega); (try rw [show ((1 : Int)).toNat = 1 from rfl] at hx118_0); replace p118 := eq_true p118; replace q118 := eq_true q118) | (go_at_call 113; (with_reducible refine (arith_two.calls a0 (rd l1 0) (rd l1 1) t119 _ A24.out).mono ?_); rintro e w' ⟨rfl, ⟨nd, rfl⟩⟩; (try first | exact ⟨rfl, _, World.drewN_drewN _ _ _⟩ | exact ⟨rfl, _, Eq.trans (World.drewN_drewN _ _ _) (congrArg (World.drewN _) (Nat.add_assoc _ _ _))⟩))))
                            go_ret2
                            exact ⟨by first | rfl | (simp; done) | (simp [*]; done), by repeat (first | exact Drawn0.refl _ | apply Drawn0.step)⟩
                          · rw [if_neg c23] at H
                            exact absurd H (by simp)
                      · rw [if_neg c21] at H
                        exact absurd H (by simp)
                    · rw [if_neg c20] at H
                      have c20b0 : (t115 == 1) = false := beq_eq_false_iff_ne.mpr c20
                      have c20b1 : (t115 != 1) = true := bne_iff_ne.mpr c20
                      by_cases c25 : 0 < (l1.length : Int)
                      · rw [if_pos c25] at H
                        have c25b0 : decide (0 < (l1.length : Int)) = true := decide_eq_true c25
                        have c25b1 : decide (0 < l1.length) = true := decide_eq_true (by omega)
                        clear c25
                        by_cases c26 : 1 < (l1.length : Int)
                        · rw [if_pos c26] at H
                          have c26b0 : decide (1 < (l1.length : Int)) = true := decide_eq_true c26
                          have c26b1 : decide (1 < l1.length) = true := decide_eq_true (by omega)
                          clear c26
                          replace H := Option.bind_eq_some_iff.mp H
                          obtain ⟨t122, A270, H⟩ := H
                          replace H : (some (t122, 0)) = some (r1, r2) := H
                          have A27 := Aside0.mk A270
                          clear A270
                          simp only [Option.some.injEq, Prod.mk.injEq] at H
                          obtain ⟨rfl, rfl⟩ := H
                          go_wp2_with (first | (go_at_call 112; (with_reducible refine (arith_group.calls kj11 a0 t115 _ A19.out).mono ?_); rintro e w' ⟨rfl, ⟨nd, rfl⟩⟩; (try first | exact ⟨rfl, _, World.drewN_drewN _ _ _⟩ | exact ⟨rfl, _, Eq.trans (World.drewN_drewN _ _ _) (congrArg (World.drewN _) (Nat.add_assoc _ _ _))⟩); have p120 : 0 ≤ (0 : Int) := (by omega); have q120 : 0 < (l1.length : Int) := of_decide_eq_true (by first | (with_reducible assumption) | assumption); obtain ⟨ad120, e120, hx120_0⟩ := Kd.at_int HR1.out 0 p120 q120; cases e120; have qi120 : (0 < l1.length) = True := eq_true (by omega); (try rw [show ((0 : Int)).toNat = 0 from rfl] at hx120_0); (try rw [Addr.add_zero'] at hx120_0); replace p120 := eq_true p120; replace q120 := eq_true q120; have p121 : 0 ≤ (1 : Int) := (by omega); have q121 : 1 < (l1.length : Int) := of_decide_eq_true (by first | (with_reducible assumption) | assumption); obtain ⟨ad121, e121, hx121_0⟩ := Kd.at_int HR1.out 1 p121 q121; obtain rfl : ad120 = ad121 := (by injection e121); (try simp only [show (1 : Int).toNat = 1 from rfl, Nat.reduceMul, Nat.reduceEqDiff, Go.Addr.add, ↓reduceIte] at hx121_0); have qi121 : (1 < l1.length) = True := eq_true (by omega); (try rw [show ((1 : Int)).toNat = 1 from rfl] at hx121_0); replace p121 := eq_true p121; replace q121 := eq_true q121) | (go_at_call 113; (with_reducible refine (arith_two.calls a0 (rd l1 0) (rd l1 1) t122 _ A27.out).mono ?_); rintro e w' ⟨rfl, ⟨nd, rfl⟩⟩; (try first | exact ⟨rfl, _, World.drewN_drewN _ _ _⟩ | exact ⟨rfl, _, Eq.trans (World.drewN_drewN _ _ _) (congrArg (World.drewN _) (Nat.add_assoc _ _ _))⟩)))
                          repeat (go_quiet (first | (go_at_call 112; (with_reducible refine (arith_group.calls kj11 a0 t115 _ A19.out).mono ?_); rintro e w' ⟨rfl, ⟨nd, rfl⟩⟩; (try first | exact ⟨rfl, _, World.drewN_drewN _ _ _⟩ | exact ⟨rfl, _, Eq.trans (World.drewN_drewN _ _ _) (congrArg (World.drewN _) (Nat.add_assoc _ _ _))⟩); have p120 : 0 ≤ (0 : Int) := (by omega); have q120 : 0 < (l1.length : Int) := of_decide_eq_true (by first | (with_reducible assumption) | assumption); obtain ⟨ad120, e120, hx120_0⟩ := Kd.at_int HR1.out 0 p120 q120; cases e120; have qi120 : (0 < l1.length) = True := eq_true (by omega); (try rw [show ((0 : Int)).toNat = 0 from rfl] at hx120_0); (try rw [Addr.add_zero'] at hx120_0); replace p120 := eq_true p120; replace q120 := eq_true q120; have p121 : 0 ≤ (1 : Int) := (by omega); have q121 : 1 < (l1.length : Int) := of_decide_eq_true (by first | (with_reducible assumption) | assumption); obtain ⟨ad121, e121, hx121_0⟩ := Kd.at_int HR1.out 1 p121 q121; obtain rfl : ad120 = ad121 := (by injection e121); (try simp only [show (1 : Int).toNat = 1 from rfl, Nat.reduceMul, Nat.reduceEqDiff, Go.Addr.add, ↓reduceIte] at hx121_0); have qi121 : (1 < l1.length) = True := eq_true (by omega); (try rw [show ((1 : Int)).toNat = 1 from rfl] at hx121_0); replace p121 := eq_true p121; replace q121 := eq_true q121) | (go_at_call 113; (with_reducible refine (arith_two.calls a0 (rd l1 0) (rd l1 1) t122 _ A27.out).mono ?_); rintro e w' ⟨rfl, ⟨nd, rfl⟩⟩; (try first | exact ⟨rfl, _, World.drewN_drewN _ _ _⟩ | exact ⟨rfl, _, Eq.trans (World.drewN_drewN _ _ _) (congrArg (World.drewN _) (Nat.add_assoc _ _ _))⟩))); try go_wp2_with (first | (go_at_call 112; (with_reducible refine (arith_group.calls kj11 a0 t115 _ A19.out).mono ?_); rintro e w' ⟨rfl, ⟨nd, rfl⟩⟩; (try first | exact ⟨rfl, _, World.drewN_drewN _ _ _⟩ | exact ⟨rfl, _, Eq.trans (World.drewN_drewN _ _ _) (congrArg (World.drewN _) (Nat.add_assoc _ _ _))⟩); have p120 : 0 ≤ (0 : Int) := (by omega); have q120 : 0 < (l1.length : Int) := of_decide_eq_true (by first | (with_reducible assumption) | assumption); obtain ⟨ad120, e120, hx120_0⟩ := Kd.at_int HR1.out 0 p120 q120; cases e120; have qi120 : (0 < l1.length) = True := eq_true (by omega); (try rw [show ((0 : Int)).toNat = 0 from rfl] at hx120_0); (try rw [Addr.add_zero'] at hx120_0); replace p120 := eq_true p120; replace q120 := eq_true q120; have p121 : 0 ≤ (1 : Int) := (by omega); have q121 : 1 < (l1.length : Int) := of_decide_eq_true (by first | (with_reducible assumption) | assumption); obtain ⟨ad121, e121, hx121_0⟩ := Kd.at_int HR1.out 1 p121 q121; obtain rfl : ad120 = ad121 := (by injection e121); (try simp only [show (1 : Int).toNat = 1 from rfl, Nat.reduceMul, Nat.reduceEqDiff, Go.Addr.add, ↓reduceIte] at hx121_0); have qi121 : (1 < l1.length) = True := eq_true (by omega); (try rw [show ((1 : Int)).toNat = 1 from rfl] at hx121_0); replace p121 := eq_true p121; replace q121 := eq_true q121) | (go_at_call 113; (with_reducible refine (arith_two.calls a0 (rd l1 0) (rd l1 1) t122 _ A27.out).mono ?_); rintro e w' ⟨rfl, ⟨nd, rfl⟩⟩; (try first | exact ⟨rfl, _, World.drewN_drewN _ _ _⟩ | exact ⟨rfl, _, Eq.trans (World.drewN_drewN _ _ _) (congrArg (World.drewN _) (Nat.add_assoc _ _ _))⟩))))
                          go_ret2
                          exact ⟨by first | rfl | (simp; done) | (simp [*]; done), by repeat (first | exact Drawn0.refl _ | apply Drawn0.step)⟩
                        · rw [if_neg c26] at H
                          exact absurd H (by simp)
                      · rw [if_neg c25] at H
                        exact absurd H (by simp)

-- NOT PRINTED: function 43 (vm_run)

-- NOT PRINTED: function 15 (vm_Run)

-- NOT PRINTED: function 14 (sorrellaw24_awake)

-- NOT PRINTED: function 44 (sorrellaw23_Value)

-- NOT PRINTED: function 16 (sorrellaw23_Values)

/-! ### sorrellaw24_copied: function 17 -/
def sorrellaw24_copied.f (l0 : List (S39)) : Option ((List (S39))) := (some (([] : List (S39)) : List (S39))).bind fun y123 => (if y123.length + l0.length < 5864062014805 then (some (y123 ++ l0)) else (none))
set_option maxHeartbeats 8000000 in
set_option maxRecDepth 100000 in
theorem sorrellaw24_copied.calls (A0 : Option Addr) (c0 : Nat) (l0 : List (S39)) (r : List (S39)) (w : World) (hr0 : Kd.C k39 w A0 l0.length l0) (hc0 : l0.length ≤ c0) (h : sorrellaw24_copied.f l0 = some r) :
    Calls Tryd.prog 17 #[.slice A0 l0.length c0] w fun e w' => ∃ v0_ : Value, e = .returned (v0_) ∧ Kd.R k39 39 w' w.heap.size (fun _ => True) v0_ r ∧ Below w.heap.size w w' := by
  have HR0 := Aside0.mk hr0
  have HC0 := Aside0.mk hc0
  clear hr0 hc0
  have HB := Aside0.mk (Below.refl w.heap.size w)
  have H : ((some (([] : List (S39)) : List (S39))).bind fun y123 => (if y123.length + l0.length < 5864062014805 then (some (y123 ++ l0)) else (none))) = some r := h
  clear h
  obtain ⟨y123, hy123⟩ : ∃ y_ : List (S39), y_ = (([] : List (S39))) := ⟨_, rfl⟩
  replace H : (if y123.length + l0.length < 5864062014805 then (some (y123 ++ l0)) else (none)) = some r := by first | (rw [hy123]; with_reducible exact H) | (have H2_ := (Option.bind_some _ _).symm.trans H; rw [hy123]; with_reducible exact H2_) | (have H2_ := (Option.bind_some _ _).symm.trans H; with_reducible exact H2_) | with_reducible exact H | (rw [hy123]; exact H) | exact H
  have Ny123 := Aside0.mk hy123
  clear hy123
  by_cases c2 : y123.length + l0.length < 5864062014805
  · rw [if_pos c2] at H
    have LMc2 := Aside0.mk c2
    clear c2
    obtain ⟨y126, hy126⟩ : ∃ y_ : List (S39), y_ = (y123 ++ l0) := ⟨_, rfl⟩
    replace H : (some y126) = some r := by first | (rw [hy126]; with_reducible exact H) | (have H2_ := (Option.bind_some _ _).symm.trans H; rw [hy126]; with_reducible exact H2_) | (have H2_ := (Option.bind_some _ _).symm.trans H; with_reducible exact H2_) | with_reducible exact H | (rw [hy126]; exact H) | exact H
    have Ny126 := Aside0.mk hy126
    clear hy126
    obtain rfl := Option.some.inj H
    go_enter Tryd.func17, Tryd.ntmps17
    go_wp2_with (first | ((with_reducible refine gate_dst (N := 3) rfl ?_); refine Kd.R_lit k39 _ 39 ?hg (N := 3) ?hd (xs := ([] : List (S39))) (inner := []) (ok := fun _ => True) (okp := fun _ => True) ?hr ?hp (fun _ hk => hk) trivial (Below.refl _ _) (Nat.le_refl _) (by simp) ?_; (case hd => rfl); (case hg => rfl); (case hr => first | (go_simp; done) | (go_simp; rfl)); (case hp => exact (Reps.none _ _)); intro v124 w3 ho4 hb hg_ hnew_; clear hg_ hnew_; (first | rw [← Ny123.out] at ho4 | (simp only [Int.reduceToNat] at ho4; rw [← Ny123.out] at ho4)); have n0_ := Aside0.mk (Kd.R_lower ho4 (below_size (by repeat (first | (with_reducible first | exact HB.out | apply below_alloc | apply pw_below_drewN | apply below_drew1) | exact HB.out)))); have n1_ := Aside0.mk (below_step (by repeat (first | (with_reducible first | exact HB.out | apply below_alloc | apply pw_below_drewN | apply below_drew1) | exact HB.out)) hb); clear HB; have HO125 := n0_; have HB := n1_; clear n0_ n1_; clear hb ho4) | ((with_reducible refine gate_builtin (b := .append) (xs := #[.tmp 3, .tmp 4]) rfl ?_); at_builtin; refine Kd.R_append_rows k39 (w0 := w) w.heap.size rfl (.tmp 3) (.tmp 4) 25 39 (.agg #[(.string ⟨#[]⟩), (.int .i64 0)]) 24 rfl Tryd.underlying25 info39 rfl (by decide) (by omega) v124 y123 l0 _ _ _ (fun _ => True) (fun _ => False) rfl rfl ?aO ?aR (fun _ _ h => h) (fun _ h => h.elim) ?aF ?aB ?aS ?aL ?_; (case aR => repeat (first | exact (Kd.C_below HR0.out HB.out) | (with_reducible refine Kd.C_alloc ?_ _) | (with_reducible refine Kd.C_drewN ?_ _) | (with_reducible refine Kd.C_drew ?_))); (case aB => exact (by repeat (first | (with_reducible first | exact HB.out | apply below_alloc | apply pw_below_drewN | apply below_drew1) | exact HB.out))); (case aF => exact (fun _ _ => trivial)); (case aO => exact (by (with_reducible repeat (first | apply Kd.R_alloc | apply Kd.R_drewN | apply Kd.R_drew)); exact HO125.out)); (case aS => exact (below_size (by repeat (first | (with_reducible first | exact HB.out | apply below_alloc | apply pw_below_drewN | apply below_drew1) | exact HB.out)))); (case aL => have := LMc2.out; omega); intro v127 w5 ho hb hg hat; rw [← Ny126.out] at ho; have n0_ := Aside0.mk (hb); have n1_ := Aside0.mk (ho); clear HB; clear HO125; have HB := n0_; have HO128 := n1_; clear n0_ n1_; clear ho hb hg hat))
    go_ret
    exact ⟨_, by first | rfl | (simp [errW_none, errW_some] <;> rfl) | (simp [*, errW_none, errW_some] <;> rfl), by (with_reducible repeat (first | apply Kd.R_alloc | apply Kd.R_drewN | apply Kd.R_drew)); exact HO128.out, by repeat (first | (with_reducible first | exact HB.out | apply below_alloc | apply pw_below_drewN | apply below_drew1) | exact HB.out)⟩
  · rw [if_neg c2] at H
    exact absurd H (by simp)

-- NOT PRINTED: function 18 (sorrellaw23_Numbers)

-- NOT PRINTED: function 92 (sorrelref01_Width)

-- NOT PRINTED: function 89 (sorrelref01_Rune)

/-! ### sorrelref01_within: function 123 -/
def sorrelref01_within.f (a0 : Int) (a1 : Int) (a2 : Int) : Option (Bool) := if a0 ≥ a1 then (some (decide (a0 ≤ a2))) else (some false)
set_option maxHeartbeats 8000000 in
set_option maxRecDepth 100000 in
theorem sorrelref01_within.calls (a0 : Int) (a1 : Int) (a2 : Int) (r : Bool) (w : World) (h : sorrelref01_within.f a0 a1 a2 = some r) :
    Calls Tryd.prog 123 #[.int .i32 a0, .int .i32 a1, .int .i32 a2] w fun e w' => e = .returned (.bool r) ∧ Drawn0 w w' := by
  have H : (if a0 ≥ a1 then (some (decide (a0 ≤ a2))) else (some false)) = some r := h
  clear h
  by_cases c4 : a0 ≥ a1
  · rw [if_pos c4] at H
    have c4b0 : decide (a1 ≤ a0) = true := decide_eq_true c4
    clear c4
    obtain rfl := Option.some.inj H
    go_enter Tryd.func123, Tryd.ntmps123
    go_wp2
    go_ret
    exact ⟨by first | rfl | (simp; done) | (simp [*]; done), by repeat (first | exact Drawn0.refl _ | apply Drawn0.step)⟩
  · rw [if_neg c4] at H
    have c4b0 : decide (a1 ≤ a0) = false := decide_eq_false c4
    clear c4
    obtain rfl := Option.some.inj H
    go_enter Tryd.func123, Tryd.ntmps123
    go_wp2
    go_ret
    exact ⟨by first | rfl | (simp; done) | (simp [*]; done), by repeat (first | exact Drawn0.refl _ | apply Drawn0.step)⟩

/-! ### sorrelref01_Digit: function 121 -/
def sorrelref01_Digit.f (a0 : Int) : Option (Int × Int) := (sorrelref01_within.f a0 48 57).bind fun t129 => (if t129 = true then (some (wrap64 (wrap32 (a0 - 48)), 48)) else ((sorrelref01_within.f a0 1632 1641).bind fun t130 => (if t130 = true then (some (wrap64 (wrap32 (a0 - 1632)), 1632)) else ((sorrelref01_within.f a0 65296 65305).bind fun t131 => (if t131 = true then (some (wrap64 (wrap32 (a0 - 65296)), 65296)) else (some ((-1), 0)))))))
set_option maxHeartbeats 8000000 in
set_option maxRecDepth 100000 in
theorem sorrelref01_Digit.calls (a0 : Int) (r1 : Int) (r2 : Int) (w : World) (h : sorrelref01_Digit.f a0 = some (r1, r2)) :
    Calls Tryd.prog 121 #[.int .i32 a0] w fun e w' => e = .returned (.tuple #[.int .i64 r1, .int .i32 r2]) ∧ Drawn0 w w' := by
  have H : ((sorrelref01_within.f a0 48 57).bind fun t129 => (if t129 = true then (some (wrap64 (wrap32 (a0 - 48)), 48)) else ((sorrelref01_within.f a0 1632 1641).bind fun t130 => (if t130 = true then (some (wrap64 (wrap32 (a0 - 1632)), 1632)) else ((sorrelref01_within.f a0 65296 65305).bind fun t131 => (if t131 = true then (some (wrap64 (wrap32 (a0 - 65296)), 65296)) else (some ((-1), 0)))))))) = some (r1, r2) := h
  clear h
  replace H := Option.bind_eq_some_iff.mp H
  obtain ⟨t129, A20, H⟩ := H
  replace H : (if t129 = true then (some (wrap64 (wrap32 (a0 - 48)), 48)) else ((sorrelref01_within.f a0 1632 1641).bind fun t130 => (if t130 = true then (some (wrap64 (wrap32 (a0 - 1632)), 1632)) else ((sorrelref01_within.f a0 65296 65305).bind fun t131 => (if t131 = true then (some (wrap64 (wrap32 (a0 - 65296)), 65296)) else (some ((-1), 0))))))) = some (r1, r2) := H
  have A2 := Aside0.mk A20
  clear A20
  by_cases c3 : t129 = true
  · subst c3
    have H1 : (some (wrap64 (wrap32 (a0 - 48)), 48)) = some (r1, r2) := by rw [if_pos rfl] at H; exact H
    clear H
    have H := H1
    clear H1
    simp only [Option.some.injEq, Prod.mk.injEq] at H
    obtain ⟨rfl, rfl⟩ := H
    go_enter Tryd.func121, Tryd.ntmps121
    go_wp2_with (first | ((with_reducible refine gate_callee (f := 123) rfl ?_); refine goesL_ (some 6) rfl rfl Tryd.func123 (by kernel_rfl) rfl #[.int .i32 a0, .int .i32 48, .int .i32 57] rfl (by (try simp only [List.map_toArray, List.map_cons, List.map_nil]); first | done | rfl | (simp only [List.length_drop, List.length_take]; rfl)) ?_; (with_reducible refine (sorrelref01_within.calls a0 48 57 true _ A2.out).mono ?_); rintro e w' ⟨rfl, ⟨nd, rfl⟩⟩; refine ⟨_, rfl, ?_⟩))
    go_ret2
    exact ⟨by first | rfl | (simp; done) | (simp [*]; done), by repeat (first | exact Drawn0.refl _ | apply Drawn0.step)⟩
  · replace c3 := Bool.eq_false_iff.mpr c3
    subst c3
    have H1 : ((sorrelref01_within.f a0 1632 1641).bind fun t130 => (if t130 = true then (some (wrap64 (wrap32 (a0 - 1632)), 1632)) else ((sorrelref01_within.f a0 65296 65305).bind fun t131 => (if t131 = true then (some (wrap64 (wrap32 (a0 - 65296)), 65296)) else (some ((-1), 0)))))) = some (r1, r2) := by rw [if_neg (show ¬ (false = true) by decide)] at H; exact H
    clear H
    have H := H1
    clear H1
    replace H := Option.bind_eq_some_iff.mp H
    obtain ⟨t130, A40, H⟩ := H
    replace H : (if t130 = true then (some (wrap64 (wrap32 (a0 - 1632)), 1632)) else ((sorrelref01_within.f a0 65296 65305).bind fun t131 => (if t131 = true then (some (wrap64 (wrap32 (a0 - 65296)), 65296)) else (some ((-1), 0))))) = some (r1, r2) := H
    have A4 := Aside0.mk A40
    clear A40
    by_cases c5 : t130 = true
    · subst c5
      have H1 : (some (wrap64 (wrap32 (a0 - 1632)), 1632)) = some (r1, r2) := by rw [if_pos rfl] at H; exact H
      clear H
      have H := H1
      clear H1
      simp only [Option.some.injEq, Prod.mk.injEq] at H
      obtain ⟨rfl, rfl⟩ := H
      go_enter Tryd.func121, Tryd.ntmps121
      go_wp2_with (first | ((with_reducible refine gate_callee (f := 123) rfl ?_); refine goesL_ (some 6) rfl rfl Tryd.func123 (by kernel_rfl) rfl #[.int .i32 a0, .int .i32 48, .int .i32 57] rfl (by (try simp only [List.map_toArray, List.map_cons, List.map_nil]); first | done | rfl | (simp only [List.length_drop, List.length_take]; rfl)) ?_; (with_reducible refine (sorrelref01_within.calls a0 48 57 false _ A2.out).mono ?_); rintro e w' ⟨rfl, ⟨nd, rfl⟩⟩; refine ⟨_, rfl, ?_⟩) | ((with_reducible refine gate_callee (f := 123) rfl ?_); refine goesL_ (some 12) rfl rfl Tryd.func123 (by kernel_rfl) rfl #[.int .i32 a0, .int .i32 1632, .int .i32 1641] rfl (by (try simp only [List.map_toArray, List.map_cons, List.map_nil]); first | done | rfl | (simp only [List.length_drop, List.length_take]; rfl)) ?_; (with_reducible refine (sorrelref01_within.calls a0 1632 1641 true _ A4.out).mono ?_); rintro e w' ⟨rfl, ⟨nd, rfl⟩⟩; refine ⟨_, rfl, ?_⟩))
      go_ret2
      exact ⟨by first | rfl | (simp; done) | (simp [*]; done), by repeat (first | exact Drawn0.refl _ | apply Drawn0.step)⟩
    · replace c5 := Bool.eq_false_iff.mpr c5
      subst c5
      have H1 : ((sorrelref01_within.f a0 65296 65305).bind fun t131 => (if t131 = true then (some (wrap64 (wrap32 (a0 - 65296)), 65296)) else (some ((-1), 0)))) = some (r1, r2) := by rw [if_neg (show ¬ (false = true) by decide)] at H; exact H
      clear H
      have H := H1
      clear H1
      replace H := Option.bind_eq_some_iff.mp H
      obtain ⟨t131, A60, H⟩ := H
      replace H : (if t131 = true then (some (wrap64 (wrap32 (a0 - 65296)), 65296)) else (some ((-1), 0))) = some (r1, r2) := H
      have A6 := Aside0.mk A60
      clear A60
      by_cases c7 : t131 = true
      · subst c7
        have H1 : (some (wrap64 (wrap32 (a0 - 65296)), 65296)) = some (r1, r2) := by rw [if_pos rfl] at H; exact H
        clear H
        have H := H1
        clear H1
        simp only [Option.some.injEq, Prod.mk.injEq] at H
        obtain ⟨rfl, rfl⟩ := H
        go_enter Tryd.func121, Tryd.ntmps121
        go_wp2_with (first | ((with_reducible refine gate_callee (f := 123) rfl ?_); refine goesL_ (some 6) rfl rfl Tryd.func123 (by kernel_rfl) rfl #[.int .i32 a0, .int .i32 48, .int .i32 57] rfl (by (try simp only [List.map_toArray, List.map_cons, List.map_nil]); first | done | rfl | (simp only [List.length_drop, List.length_take]; rfl)) ?_; (with_reducible refine (sorrelref01_within.calls a0 48 57 false _ A2.out).mono ?_); rintro e w' ⟨rfl, ⟨nd, rfl⟩⟩; refine ⟨_, rfl, ?_⟩) | ((with_reducible refine gate_callee (f := 123) rfl ?_); refine goesL_ (some 12) rfl rfl Tryd.func123 (by kernel_rfl) rfl #[.int .i32 a0, .int .i32 1632, .int .i32 1641] rfl (by (try simp only [List.map_toArray, List.map_cons, List.map_nil]); first | done | rfl | (simp only [List.length_drop, List.length_take]; rfl)) ?_; (with_reducible refine (sorrelref01_within.calls a0 1632 1641 false _ A4.out).mono ?_); rintro e w' ⟨rfl, ⟨nd, rfl⟩⟩; refine ⟨_, rfl, ?_⟩) | ((with_reducible refine gate_callee (f := 123) rfl ?_); refine goesL_ (some 18) rfl rfl Tryd.func123 (by kernel_rfl) rfl #[.int .i32 a0, .int .i32 65296, .int .i32 65305] rfl (by (try simp only [List.map_toArray, List.map_cons, List.map_nil]); first | done | rfl | (simp only [List.length_drop, List.length_take]; rfl)) ?_; (with_reducible refine (sorrelref01_within.calls a0 65296 65305 true _ A6.out).mono ?_); rintro e w' ⟨rfl, ⟨nd, rfl⟩⟩; refine ⟨_, rfl, ?_⟩))
        go_ret2
        exact ⟨by first | rfl | (simp; done) | (simp [*]; done), by repeat (first | exact Drawn0.refl _ | apply Drawn0.step)⟩
      · replace c7 := Bool.eq_false_iff.mpr c7
        subst c7
        have H1 : (some ((-1), 0)) = some (r1, r2) := by rw [if_neg (show ¬ (false = true) by decide)] at H; exact H
        clear H
        have H := H1
        clear H1
        simp only [Option.some.injEq, Prod.mk.injEq] at H
        obtain ⟨rfl, rfl⟩ := H
        go_enter Tryd.func121, Tryd.ntmps121
        go_wp2_with (first | ((with_reducible refine gate_callee (f := 123) rfl ?_); refine goesL_ (some 6) rfl rfl Tryd.func123 (by kernel_rfl) rfl #[.int .i32 a0, .int .i32 48, .int .i32 57] rfl (by (try simp only [List.map_toArray, List.map_cons, List.map_nil]); first | done | rfl | (simp only [List.length_drop, List.length_take]; rfl)) ?_; (with_reducible refine (sorrelref01_within.calls a0 48 57 false _ A2.out).mono ?_); rintro e w' ⟨rfl, ⟨nd, rfl⟩⟩; refine ⟨_, rfl, ?_⟩) | ((with_reducible refine gate_callee (f := 123) rfl ?_); refine goesL_ (some 12) rfl rfl Tryd.func123 (by kernel_rfl) rfl #[.int .i32 a0, .int .i32 1632, .int .i32 1641] rfl (by (try simp only [List.map_toArray, List.map_cons, List.map_nil]); first | done | rfl | (simp only [List.length_drop, List.length_take]; rfl)) ?_; (with_reducible refine (sorrelref01_within.calls a0 1632 1641 false _ A4.out).mono ?_); rintro e w' ⟨rfl, ⟨nd, rfl⟩⟩; refine ⟨_, rfl, ?_⟩) | ((with_reducible refine gate_callee (f := 123) rfl ?_); refine goesL_ (some 18) rfl rfl Tryd.func123 (by kernel_rfl) rfl #[.int .i32 a0, .int .i32 65296, .int .i32 65305] rfl (by (try simp only [List.map_toArray, List.map_cons, List.map_nil]); first | done | rfl | (simp only [List.length_drop, List.length_take]; rfl)) ?_; (with_reducible refine (sorrelref01_within.calls a0 65296 65305 false _ A6.out).mono ?_); rintro e w' ⟨rfl, ⟨nd, rfl⟩⟩; refine ⟨_, rfl, ?_⟩))
        go_ret2
        exact ⟨by first | rfl | (simp; done) | (simp [*]; done), by repeat (first | exact Drawn0.refl _ | apply Drawn0.step)⟩

end Go.Proofs.YtbbembhfnapadaaDoor.PVmPlays
