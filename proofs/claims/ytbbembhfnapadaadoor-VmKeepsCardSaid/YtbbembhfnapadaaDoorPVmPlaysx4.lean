-- PRINTED BY print.sh 35421559b90ae4d0a3588c463048766b98c2df88dd9212a6774a882060cdf62d: not written by this session
import Derived.Test.YtbbembhfnapadaaDoorPVmPlaysx0
import Derived.Test.YtbbembhfnapadaaDoorPVmPlaysx3
namespace Go.Proofs.YtbbembhfnapadaaDoor.PVmPlays
open Go.RowKit Go.Proofs.YtbbembhfnapadaaDoorW.PrintWords Go.Proofs.YtbbembhfnapadaaDoorW.PrintLast Go.Proofs.YtbbembhfnapadaaDoorW.PrintMore
attribute [local go_sem] max2_int min2_int max_two min_two max_three min_three max_four min_four   -- for this text's walks alone
set_option linter.unusedVariables false
set_option linter.unusedSimpArgs false

/-! ### sorrelref06_lowered: function 117 -/
def sorrelref06_lowered.l0 : Nat → Int → Int → Int → Option (Int)
  | 0, _, _, _ => none
  | k + 1, x0, x1, x5 => if x5 < x1 then (if (Int.tmod x0 2) = (-1) then (sorrelref06_lowered.l0 k (wrap64 (Int.tdiv (wrap64 (x0 - 1)) 2)) x1 (wrap64 (x5 + 1))) else (sorrelref06_lowered.l0 k (wrap64 (Int.tdiv x0 2)) x1 (wrap64 (x5 + 1)))) else (some x0)
def sorrelref06_lowered.f (k : Nat) (a0 : Int) (a1 : Int) : Option (Int) := sorrelref06_lowered.l0 k a0 a1 0
theorem sorrelref06_lowered.mono_l : ∀ k, (∀ y0 y1 y2, LeO (sorrelref06_lowered.l0 k y0 y1 y2) (sorrelref06_lowered.l0 (k + 1) y0 y1 y2))
  | 0 => fun _ _ _ r h => by simp [sorrelref06_lowered.l0] at h
  | k + 1 => by
    have ih0 := sorrelref06_lowered.mono_l k
    · intro y0 y1 y2
      unfold sorrelref06_lowered.l0
      repeat' first
      | (with_reducible exact ih0 _ _ _)
      | (with_reducible exact LeO.refl _)
      | (with_reducible exact LeO.none _)
      | (with_reducible refine LeO.ite ?_ ?_)
      | (with_reducible refine LeO.bind ?_ (fun _ => ?_))
      | exact ih0 _ _ _
      | exact LeO.none _
      | refine LeO.ite ?_ ?_
      | refine LeO.bind ?_ (fun _ => ?_)
theorem sorrelref06_lowered.mono : ∀ a0 a1 k, LeO (sorrelref06_lowered.f k a0 a1) (sorrelref06_lowered.f (k + 1) a0 a1) := by
  intro a0 a1 k
  have ih0 := sorrelref06_lowered.mono_l k
  unfold sorrelref06_lowered.f
  repeat' first
      | (with_reducible exact ih0 _ _ _)
      | (with_reducible exact LeO.refl _)
      | (with_reducible exact LeO.none _)
      | (with_reducible refine LeO.ite ?_ ?_)
      | (with_reducible refine LeO.bind ?_ (fun _ => ?_))
      | exact ih0 _ _ _
      | exact LeO.none _
      | refine LeO.ite ?_ ?_
      | refine LeO.bind ?_ (fun _ => ?_)
set_option maxHeartbeats 8000000 in
set_option maxRecDepth 100000 in
theorem sorrelref06_lowered.calls (k : Nat) (a0 : Int) (a1 : Int) (r : Int) (w : World) (h : sorrelref06_lowered.f k a0 a1 = some r) :
    Calls Tryd.prog 117 #[.int .i64 a0, .int .i64 a1] w fun e w' => e = .returned (.int .i64 r) ∧ Drawn0 w w' := by
  have H : (sorrelref06_lowered.l0 k a0 a1 0) = some r := h
  clear h
  have H' := Aside0.mk H
  clear H
  go_enter Tryd.func117, Tryd.ntmps117
  go_wp2
  go_loopg [0, 5] k (fun kq v0 v5 w' => ∃ (x0_1 : Int) (x5_1 : Int), v0 = .int .i64 x0_1 ∧ v5 = .int .i64 x5_1 ∧ Aside0 (sorrelref06_lowered.l0 kq x0_1 a1 x5_1 = some r) ∧ Aside0 (kq ≤ k) ∧ Drawn0 w w')
  case atStart => exact ⟨(a0), (0), (by first | rfl | (simp; done) | (simp [*]; done)), (by first | rfl | (simp; done) | (simp [*]; done)), H', ⟨Nat.le_refl _⟩, by repeat (first | exact Drawn0.refl _ | apply Drawn0.step)⟩
  case round =>
    clear H'
    try clear c1
    try clear p2
    obtain ⟨x0_1, x5_1, rfl, rfl, HA, HK1, ⟨m1, rfl⟩⟩ := hrel
    cases gk with
    | zero => exact absurd HA.out (by simp [sorrelref06_lowered.l0])
    | succ k1 =>
      have H := HA.out
      clear HA
      simp only [sorrelref06_lowered.l0] at H
      by_cases c3 : x5_1 < a1
      · rw [if_pos c3] at H
        have c3b0 : decide (x5_1 < a1) = true := decide_eq_true c3
        clear c3
        by_cases c4 : (Int.tmod x0_1 2) = (-1)
        · rw [if_pos c4] at H
          have c4b0 : ((Int.tmod x0_1 2) == (-1)) = true := beq_iff_eq.mpr c4
          have c4b1 : ((Int.tmod x0_1 2) != (-1)) = false := bne_eq_false_iff_eq.mpr c4
          clear c4
          have H' := Aside0.mk H
          clear H
          go_wp2
          go_roundg k1
          case measure => have := HK1.out; omega
          case rel => exact ⟨(wrap64 (Int.tdiv (wrap64 (x0_1 - 1)) 2)), (wrap64 (x5_1 + 1)), (by first | rfl | (simp; done) | (simp [*]; done)), (by first | rfl | (simp; done) | (simp [*]; done)), H', ⟨by have := HK1.out; omega⟩, by repeat (first | exact Drawn0.refl _ | apply Drawn0.step)⟩
        · rw [if_neg c4] at H
          have c4b0 : ((Int.tmod x0_1 2) == (-1)) = false := beq_eq_false_iff_ne.mpr c4
          have c4b1 : ((Int.tmod x0_1 2) != (-1)) = true := bne_iff_ne.mpr c4
          have H' := Aside0.mk H
          clear H
          go_wp2
          go_roundg k1
          case measure => have := HK1.out; omega
          case rel => exact ⟨(wrap64 (Int.tdiv x0_1 2)), (wrap64 (x5_1 + 1)), (by first | rfl | (simp; done) | (simp [*]; done)), (by first | rfl | (simp; done) | (simp [*]; done)), H', ⟨by have := HK1.out; omega⟩, by repeat (first | exact Drawn0.refl _ | apply Drawn0.step)⟩
      · rw [if_neg c3] at H
        have c3b0 : decide (x5_1 < a1) = false := decide_eq_false c3
        clear c3
        obtain rfl := Option.some.inj H
        go_wp2
        go_ret
        exact ⟨by first | rfl | (simp; done) | (simp [*]; done), by repeat (first | exact Drawn0.refl _ | apply Drawn0.step)⟩

/-! ### sorrelref06_yes: function 118 -/
def sorrelref06_yes.f (a0 : Bool) : Option (Int) := if a0 = true then (some 1) else (some 0)
set_option maxHeartbeats 8000000 in
set_option maxRecDepth 100000 in
theorem sorrelref06_yes.calls (a0 : Bool) (r : Int) (w : World) (h : sorrelref06_yes.f a0 = some r) :
    Calls Tryd.prog 118 #[.bool a0] w fun e w' => e = .returned (.int .i64 r) ∧ Drawn0 w w' := by
  have H : (if a0 = true then (some 1) else (some 0)) = some r := h
  clear h
  by_cases c2 : a0 = true
  · subst c2
    have H1 : (some 1) = some r := by rw [if_pos rfl] at H; exact H
    clear H
    have H := H1
    clear H1
    obtain rfl := Option.some.inj H
    go_enter Tryd.func118, Tryd.ntmps118
    go_wp2
    go_ret
    exact ⟨by first | rfl | (simp; done) | (simp [*]; done), by repeat (first | exact Drawn0.refl _ | apply Drawn0.step)⟩
  · replace c2 := Bool.eq_false_iff.mpr c2
    subst c2
    have H1 : (some 0) = some r := by rw [if_neg (show ¬ (false = true) by decide)] at H; exact H
    clear H
    have H := H1
    clear H1
    obtain rfl := Option.some.inj H
    go_enter Tryd.func118, Tryd.ntmps118
    go_wp2
    go_ret
    exact ⟨by first | rfl | (simp; done) | (simp [*]; done), by repeat (first | exact Drawn0.refl _ | apply Drawn0.step)⟩

/-! ### sorrelref06_two: function 82 -/
def sorrelref06_two.f (k : Nat) (a0 : Int) (a1 : Int) (a2 : Int) : Option (Int) := if a0 = 5 then (some (wrap64 (a1 + a2))) else (if a0 = 6 then (some (wrap64 (a1 - a2))) else (if a0 = 7 then (some (wrap64 (a1 * a2))) else (if a0 = 8 then ((sorrelref06_size.f a1).bind fun t154 => ((sorrelref06_size.f a2).bind fun t155 => ((sorrelref06_divide.f k t154 t155).bind fun bt156 => ((sorrelref06_signed.f bt156.1 ((decide (a1 < 0)) != (decide (a2 < 0)))).bind fun t158 => (some t158))))) else (if a0 = 9 then ((sorrelref06_size.f a1).bind fun t159 => ((sorrelref06_size.f a2).bind fun t160 => ((sorrelref06_divide.f k t159 t160).bind fun bt161 => ((sorrelref06_signed.f bt161.2 (decide (a1 < 0))).bind fun t163 => (some t163))))) else (if a0 = 10 then (some (Go.bits .and .i64 a1 a2)) else (if a0 = 11 then (some (Go.bits .or .i64 a1 a2)) else (if a0 = 12 then (some (Go.bits .xor .i64 a1 a2)) else (if a0 = 13 then ((sorrelref06_shifted.f k a1 (Go.bits .and .i64 a2 63)).bind fun t164 => (some t164)) else (if a0 = 14 then ((sorrelref06_lowered.f k a1 (Go.bits .and .i64 a2 63)).bind fun t165 => (some t165)) else (if a0 = 15 then ((sorrelref06_yes.f (a1 == a2)).bind fun t166 => (some t166)) else ((sorrelref06_yes.f (decide (a1 < a2))).bind fun t167 => (some t167))))))))))))
theorem sorrelref06_two.mono : ∀ a0 a1 a2 k, LeO (sorrelref06_two.f k a0 a1 a2) (sorrelref06_two.f (k + 1) a0 a1 a2) := by
  intro a0 a1 a2 k
  unfold sorrelref06_two.f
  repeat' first
      | (with_reducible exact sorrelref06_divide.mono _ _ _)
      | (with_reducible exact sorrelref06_lowered.mono _ _ _)
      | (with_reducible exact sorrelref06_shifted.mono _ _ _)
      | (with_reducible exact LeO.refl _)
      | (with_reducible exact LeO.none _)
      | (with_reducible refine LeO.ite ?_ ?_)
      | (with_reducible refine LeO.bind ?_ (fun _ => ?_))
      | exact sorrelref06_divide.mono _ _ _
      | exact sorrelref06_lowered.mono _ _ _
      | exact sorrelref06_shifted.mono _ _ _
      | exact LeO.none _
      | refine LeO.ite ?_ ?_
      | refine LeO.bind ?_ (fun _ => ?_)
set_option maxHeartbeats 8000000 in
set_option maxRecDepth 100000 in
theorem sorrelref06_two.calls (k : Nat) (a0 : Int) (a1 : Int) (a2 : Int) (r : Int) (w : World) (h : sorrelref06_two.f k a0 a1 a2 = some r) :
    Calls Tryd.prog 82 #[.int .i64 a0, .int .i64 a1, .int .i64 a2] w fun e w' => e = .returned (.int .i64 r) ∧ Drawn0 w w' := by
  have H : (if a0 = 5 then (some (wrap64 (a1 + a2))) else (if a0 = 6 then (some (wrap64 (a1 - a2))) else (if a0 = 7 then (some (wrap64 (a1 * a2))) else (if a0 = 8 then ((sorrelref06_size.f a1).bind fun t154 => ((sorrelref06_size.f a2).bind fun t155 => ((sorrelref06_divide.f k t154 t155).bind fun bt156 => ((sorrelref06_signed.f bt156.1 ((decide (a1 < 0)) != (decide (a2 < 0)))).bind fun t158 => (some t158))))) else (if a0 = 9 then ((sorrelref06_size.f a1).bind fun t159 => ((sorrelref06_size.f a2).bind fun t160 => ((sorrelref06_divide.f k t159 t160).bind fun bt161 => ((sorrelref06_signed.f bt161.2 (decide (a1 < 0))).bind fun t163 => (some t163))))) else (if a0 = 10 then (some (Go.bits .and .i64 a1 a2)) else (if a0 = 11 then (some (Go.bits .or .i64 a1 a2)) else (if a0 = 12 then (some (Go.bits .xor .i64 a1 a2)) else (if a0 = 13 then ((sorrelref06_shifted.f k a1 (Go.bits .and .i64 a2 63)).bind fun t164 => (some t164)) else (if a0 = 14 then ((sorrelref06_lowered.f k a1 (Go.bits .and .i64 a2 63)).bind fun t165 => (some t165)) else (if a0 = 15 then ((sorrelref06_yes.f (a1 == a2)).bind fun t166 => (some t166)) else ((sorrelref06_yes.f (decide (a1 < a2))).bind fun t167 => (some t167))))))))))))) = some r := h
  clear h
  by_cases c4 : a0 = 5
  · rw [if_pos c4] at H
    have c4b0 : (a0 == 5) = true := beq_iff_eq.mpr c4
    have c4b1 : (a0 != 5) = false := bne_eq_false_iff_eq.mpr c4
    clear c4
    obtain rfl := Option.some.inj H
    go_enter Tryd.func82, Tryd.ntmps82
    go_wp2
    go_ret
    exact ⟨by first | rfl | (simp; done) | (simp [*]; done), by repeat (first | exact Drawn0.refl _ | apply Drawn0.step)⟩
  · rw [if_neg c4] at H
    have c4b0 : (a0 == 5) = false := beq_eq_false_iff_ne.mpr c4
    have c4b1 : (a0 != 5) = true := bne_iff_ne.mpr c4
    by_cases c5 : a0 = 6
    · rw [if_pos c5] at H
      have c5b0 : (a0 == 6) = true := beq_iff_eq.mpr c5
      have c5b1 : (a0 != 6) = false := bne_eq_false_iff_eq.mpr c5
      clear c5
      obtain rfl := Option.some.inj H
      go_enter Tryd.func82, Tryd.ntmps82
      go_wp2
      go_ret
      exact ⟨by first | rfl | (simp; done) | (simp [*]; done), by repeat (first | exact Drawn0.refl _ | apply Drawn0.step)⟩
    · rw [if_neg c5] at H
      have c5b0 : (a0 == 6) = false := beq_eq_false_iff_ne.mpr c5
      have c5b1 : (a0 != 6) = true := bne_iff_ne.mpr c5
      by_cases c6 : a0 = 7
      · rw [if_pos c6] at H
        have c6b0 : (a0 == 7) = true := beq_iff_eq.mpr c6
        have c6b1 : (a0 != 7) = false := bne_eq_false_iff_eq.mpr c6
        clear c6
        obtain rfl := Option.some.inj H
        go_enter Tryd.func82, Tryd.ntmps82
        go_wp2
        go_ret
        exact ⟨by first | rfl | (simp; done) | (simp [*]; done), by repeat (first | exact Drawn0.refl _ | apply Drawn0.step)⟩
      · rw [if_neg c6] at H
        have c6b0 : (a0 == 7) = false := beq_eq_false_iff_ne.mpr c6
        have c6b1 : (a0 != 7) = true := bne_iff_ne.mpr c6
        by_cases c7 : a0 = 8
        · rw [if_pos c7] at H
          have c7b0 : (a0 == 8) = true := beq_iff_eq.mpr c7
          have c7b1 : (a0 != 8) = false := bne_eq_false_iff_eq.mpr c7
          clear c7
          replace H := Option.bind_eq_some_iff.mp H
          obtain ⟨t154, A80, H⟩ := H
          replace H : ((sorrelref06_size.f a2).bind fun t155 => ((sorrelref06_divide.f k t154 t155).bind fun bt156 => ((sorrelref06_signed.f bt156.1 ((decide (a1 < 0)) != (decide (a2 < 0)))).bind fun t158 => (some t158)))) = some r := H
          have A8 := Aside0.mk A80
          clear A80
          replace H := Option.bind_eq_some_iff.mp H
          obtain ⟨t155, A90, H⟩ := H
          replace H : ((sorrelref06_divide.f k t154 t155).bind fun bt156 => ((sorrelref06_signed.f bt156.1 ((decide (a1 < 0)) != (decide (a2 < 0)))).bind fun t158 => (some t158))) = some r := H
          have A9 := Aside0.mk A90
          clear A90
          replace H := Option.bind_eq_some_iff.mp H
          obtain ⟨⟨t156, t157⟩, A100, H⟩ := H
          replace H : ((sorrelref06_signed.f t156 ((decide (a1 < 0)) != (decide (a2 < 0)))).bind fun t158 => (some t158)) = some r := H
          have A10 := Aside0.mk A100
          clear A100
          replace H := Option.bind_eq_some_iff.mp H
          obtain ⟨t158, A110, H⟩ := H
          replace H : (some t158) = some r := H
          have A11 := Aside0.mk A110
          clear A110
          obtain rfl := Option.some.inj H
          go_enter Tryd.func82, Tryd.ntmps82
          go_wp2_with (first | ((with_reducible refine gate_callee (f := 99) rfl ?_); refine goesL_ (some 31) rfl rfl Tryd.func99 (by kernel_rfl) rfl #[.int .i64 a1] rfl (by (try simp only [List.map_toArray, List.map_cons, List.map_nil]); first | done | rfl | (simp only [List.length_drop, List.length_take]; rfl)) ?_; (with_reducible refine (sorrelref06_size.calls a1 t154 _ A8.out).mono ?_); rintro e w' ⟨rfl, ⟨nd, rfl⟩⟩; refine ⟨_, rfl, ?_⟩) | ((with_reducible refine gate_callee (f := 99) rfl ?_); refine goesL_ (some 33) rfl rfl Tryd.func99 (by kernel_rfl) rfl #[.int .i64 a2] rfl (by (try simp only [List.map_toArray, List.map_cons, List.map_nil]); first | done | rfl | (simp only [List.length_drop, List.length_take]; rfl)) ?_; (with_reducible refine (sorrelref06_size.calls a2 t155 _ A9.out).mono ?_); rintro e w' ⟨rfl, ⟨nd, rfl⟩⟩; refine ⟨_, rfl, ?_⟩) | ((with_reducible refine gate_callee (f := 114) rfl ?_); refine goesL_ (some 34) rfl rfl Tryd.func114 (by kernel_rfl) rfl #[.int .u64 t154, .int .u64 t155] rfl (by (try simp only [List.map_toArray, List.map_cons, List.map_nil]); first | done | rfl | (simp only [List.length_drop, List.length_take]; rfl)) ?_; (with_reducible refine (sorrelref06_divide.calls k t154 t155 t156 t157 _ A10.out).mono ?_); rintro e w' ⟨rfl, ⟨nd, rfl⟩⟩; refine ⟨_, rfl, ?_⟩) | ((with_reducible refine gate_callee (f := 115) rfl ?_); refine goesL_ (some 43) rfl rfl Tryd.func115 (by kernel_rfl) rfl #[.int .u64 t156, .bool ((decide (a1 < 0)) != (decide (a2 < 0)))] rfl (by (try simp only [List.map_toArray, List.map_cons, List.map_nil]); first | done | rfl | (simp only [List.length_drop, List.length_take]; rfl)) ?_; (with_reducible refine (sorrelref06_signed.calls t156 ((decide (a1 < 0)) != (decide (a2 < 0))) t158 _ A11.out).mono ?_); rintro e w' ⟨rfl, ⟨nd, rfl⟩⟩; refine ⟨_, rfl, ?_⟩))
          go_ret
          exact ⟨by first | rfl | (simp; done) | (simp [*]; done), by repeat (first | exact Drawn0.refl _ | apply Drawn0.step)⟩
        · rw [if_neg c7] at H
          have c7b0 : (a0 == 8) = false := beq_eq_false_iff_ne.mpr c7
          have c7b1 : (a0 != 8) = true := bne_iff_ne.mpr c7
          by_cases c12 : a0 = 9
          · rw [if_pos c12] at H
            have c12b0 : (a0 == 9) = true := beq_iff_eq.mpr c12
            have c12b1 : (a0 != 9) = false := bne_eq_false_iff_eq.mpr c12
            clear c12
            replace H := Option.bind_eq_some_iff.mp H
            obtain ⟨t159, A130, H⟩ := H
            replace H : ((sorrelref06_size.f a2).bind fun t160 => ((sorrelref06_divide.f k t159 t160).bind fun bt161 => ((sorrelref06_signed.f bt161.2 (decide (a1 < 0))).bind fun t163 => (some t163)))) = some r := H
            have A13 := Aside0.mk A130
            clear A130
            replace H := Option.bind_eq_some_iff.mp H
            obtain ⟨t160, A140, H⟩ := H
            replace H : ((sorrelref06_divide.f k t159 t160).bind fun bt161 => ((sorrelref06_signed.f bt161.2 (decide (a1 < 0))).bind fun t163 => (some t163))) = some r := H
            have A14 := Aside0.mk A140
            clear A140
            replace H := Option.bind_eq_some_iff.mp H
            obtain ⟨⟨t161, t162⟩, A150, H⟩ := H
            replace H : ((sorrelref06_signed.f t162 (decide (a1 < 0))).bind fun t163 => (some t163)) = some r := H
            have A15 := Aside0.mk A150
            clear A150
            replace H := Option.bind_eq_some_iff.mp H
            obtain ⟨t163, A160, H⟩ := H
            replace H : (some t163) = some r := H
            have A16 := Aside0.mk A160
            clear A160
            obtain rfl := Option.some.inj H
            go_enter Tryd.func82, Tryd.ntmps82
            go_wp2_with (first | ((with_reducible refine gate_callee (f := 99) rfl ?_); refine goesL_ (some 48) rfl rfl Tryd.func99 (by kernel_rfl) rfl #[.int .i64 a1] rfl (by (try simp only [List.map_toArray, List.map_cons, List.map_nil]); first | done | rfl | (simp only [List.length_drop, List.length_take]; rfl)) ?_; (with_reducible refine (sorrelref06_size.calls a1 t159 _ A13.out).mono ?_); rintro e w' ⟨rfl, ⟨nd, rfl⟩⟩; refine ⟨_, rfl, ?_⟩) | ((with_reducible refine gate_callee (f := 99) rfl ?_); refine goesL_ (some 50) rfl rfl Tryd.func99 (by kernel_rfl) rfl #[.int .i64 a2] rfl (by (try simp only [List.map_toArray, List.map_cons, List.map_nil]); first | done | rfl | (simp only [List.length_drop, List.length_take]; rfl)) ?_; (with_reducible refine (sorrelref06_size.calls a2 t160 _ A14.out).mono ?_); rintro e w' ⟨rfl, ⟨nd, rfl⟩⟩; refine ⟨_, rfl, ?_⟩) | ((with_reducible refine gate_callee (f := 114) rfl ?_); refine goesL_ (some 51) rfl rfl Tryd.func114 (by kernel_rfl) rfl #[.int .u64 t159, .int .u64 t160] rfl (by (try simp only [List.map_toArray, List.map_cons, List.map_nil]); first | done | rfl | (simp only [List.length_drop, List.length_take]; rfl)) ?_; (with_reducible refine (sorrelref06_divide.calls k t159 t160 t161 t162 _ A15.out).mono ?_); rintro e w' ⟨rfl, ⟨nd, rfl⟩⟩; refine ⟨_, rfl, ?_⟩) | ((with_reducible refine gate_callee (f := 115) rfl ?_); refine goesL_ (some 57) rfl rfl Tryd.func115 (by kernel_rfl) rfl #[.int .u64 t162, .bool (decide (a1 < 0))] rfl (by (try simp only [List.map_toArray, List.map_cons, List.map_nil]); first | done | rfl | (simp only [List.length_drop, List.length_take]; rfl)) ?_; (with_reducible refine (sorrelref06_signed.calls t162 (decide (a1 < 0)) t163 _ A16.out).mono ?_); rintro e w' ⟨rfl, ⟨nd, rfl⟩⟩; refine ⟨_, rfl, ?_⟩))
            go_ret
            exact ⟨by first | rfl | (simp; done) | (simp [*]; done), by repeat (first | exact Drawn0.refl _ | apply Drawn0.step)⟩
          · rw [if_neg c12] at H
            have c12b0 : (a0 == 9) = false := beq_eq_false_iff_ne.mpr c12
            have c12b1 : (a0 != 9) = true := bne_iff_ne.mpr c12
            by_cases c17 : a0 = 10
            · rw [if_pos c17] at H
              have c17b0 : (a0 == 10) = true := beq_iff_eq.mpr c17
              have c17b1 : (a0 != 10) = false := bne_eq_false_iff_eq.mpr c17
              clear c17
              obtain rfl := Option.some.inj H
              go_enter Tryd.func82, Tryd.ntmps82
              go_wp2
              go_ret
              exact ⟨by first | rfl | (simp; done) | (simp [*]; done), by repeat (first | exact Drawn0.refl _ | apply Drawn0.step)⟩
            · rw [if_neg c17] at H
              have c17b0 : (a0 == 10) = false := beq_eq_false_iff_ne.mpr c17
              have c17b1 : (a0 != 10) = true := bne_iff_ne.mpr c17
              by_cases c18 : a0 = 11
              · rw [if_pos c18] at H
                have c18b0 : (a0 == 11) = true := beq_iff_eq.mpr c18
                have c18b1 : (a0 != 11) = false := bne_eq_false_iff_eq.mpr c18
                clear c18
                obtain rfl := Option.some.inj H
                go_enter Tryd.func82, Tryd.ntmps82
                go_wp2
                go_ret
                exact ⟨by first | rfl | (simp; done) | (simp [*]; done), by repeat (first | exact Drawn0.refl _ | apply Drawn0.step)⟩
              · rw [if_neg c18] at H
                have c18b0 : (a0 == 11) = false := beq_eq_false_iff_ne.mpr c18
                have c18b1 : (a0 != 11) = true := bne_iff_ne.mpr c18
                by_cases c19 : a0 = 12
                · rw [if_pos c19] at H
                  have c19b0 : (a0 == 12) = true := beq_iff_eq.mpr c19
                  have c19b1 : (a0 != 12) = false := bne_eq_false_iff_eq.mpr c19
                  clear c19
                  obtain rfl := Option.some.inj H
                  go_enter Tryd.func82, Tryd.ntmps82
                  go_wp2
                  go_ret
                  exact ⟨by first | rfl | (simp; done) | (simp [*]; done), by repeat (first | exact Drawn0.refl _ | apply Drawn0.step)⟩
                · rw [if_neg c19] at H
                  have c19b0 : (a0 == 12) = false := beq_eq_false_iff_ne.mpr c19
                  have c19b1 : (a0 != 12) = true := bne_iff_ne.mpr c19
                  by_cases c20 : a0 = 13
                  · rw [if_pos c20] at H
                    have c20b0 : (a0 == 13) = true := beq_iff_eq.mpr c20
                    have c20b1 : (a0 != 13) = false := bne_eq_false_iff_eq.mpr c20
                    clear c20
                    replace H := Option.bind_eq_some_iff.mp H
                    obtain ⟨t164, A210, H⟩ := H
                    replace H : (some t164) = some r := H
                    have A21 := Aside0.mk A210
                    clear A210
                    obtain rfl := Option.some.inj H
                    go_enter Tryd.func82, Tryd.ntmps82
                    go_wp2_with (first | ((with_reducible refine gate_callee (f := 116) rfl ?_); refine goesL_ (some 78) rfl rfl Tryd.func116 (by kernel_rfl) rfl #[.int .i64 a1, .int .i64 (Go.bits .and .i64 a2 63)] rfl (by (try simp only [List.map_toArray, List.map_cons, List.map_nil]); first | done | rfl | (simp only [List.length_drop, List.length_take]; rfl)) ?_; (with_reducible refine (sorrelref06_shifted.calls k a1 (Go.bits .and .i64 a2 63) t164 _ A21.out).mono ?_); rintro e w' ⟨rfl, ⟨nd, rfl⟩⟩; refine ⟨_, rfl, ?_⟩))
                    go_ret
                    exact ⟨by first | rfl | (simp; done) | (simp [*]; done), by repeat (first | exact Drawn0.refl _ | apply Drawn0.step)⟩
                  · rw [if_neg c20] at H
                    have c20b0 : (a0 == 13) = false := beq_eq_false_iff_ne.mpr c20
                    have c20b1 : (a0 != 13) = true := bne_iff_ne.mpr c20
                    by_cases c22 : a0 = 14
                    · rw [if_pos c22] at H
                      have c22b0 : (a0 == 14) = true := beq_iff_eq.mpr c22
                      have c22b1 : (a0 != 14) = false := bne_eq_false_iff_eq.mpr c22
                      clear c22
                      replace H := Option.bind_eq_some_iff.mp H
                      obtain ⟨t165, A230, H⟩ := H
                      replace H : (some t165) = some r := H
                      have A23 := Aside0.mk A230
                      clear A230
                      obtain rfl := Option.some.inj H
                      go_enter Tryd.func82, Tryd.ntmps82
                      go_wp2_with (first | ((with_reducible refine gate_callee (f := 117) rfl ?_); refine goesL_ (some 84) rfl rfl Tryd.func117 (by kernel_rfl) rfl #[.int .i64 a1, .int .i64 (Go.bits .and .i64 a2 63)] rfl (by (try simp only [List.map_toArray, List.map_cons, List.map_nil]); first | done | rfl | (simp only [List.length_drop, List.length_take]; rfl)) ?_; (with_reducible refine (sorrelref06_lowered.calls k a1 (Go.bits .and .i64 a2 63) t165 _ A23.out).mono ?_); rintro e w' ⟨rfl, ⟨nd, rfl⟩⟩; refine ⟨_, rfl, ?_⟩))
                      go_ret
                      exact ⟨by first | rfl | (simp; done) | (simp [*]; done), by repeat (first | exact Drawn0.refl _ | apply Drawn0.step)⟩
                    · rw [if_neg c22] at H
                      have c22b0 : (a0 == 14) = false := beq_eq_false_iff_ne.mpr c22
                      have c22b1 : (a0 != 14) = true := bne_iff_ne.mpr c22
                      by_cases c24 : a0 = 15
                      · rw [if_pos c24] at H
                        have c24b0 : (a0 == 15) = true := beq_iff_eq.mpr c24
                        have c24b1 : (a0 != 15) = false := bne_eq_false_iff_eq.mpr c24
                        clear c24
                        replace H := Option.bind_eq_some_iff.mp H
                        obtain ⟨t166, A250, H⟩ := H
                        replace H : (some t166) = some r := H
                        have A25 := Aside0.mk A250
                        clear A250
                        obtain rfl := Option.some.inj H
                        go_enter Tryd.func82, Tryd.ntmps82
                        go_wp2_with (first | ((with_reducible refine gate_callee (f := 118) rfl ?_); refine goesL_ (some 90) rfl rfl Tryd.func118 (by kernel_rfl) rfl #[.bool (a1 == a2)] rfl (by (try simp only [List.map_toArray, List.map_cons, List.map_nil]); first | done | rfl | (simp only [List.length_drop, List.length_take]; rfl)) ?_; (with_reducible refine (sorrelref06_yes.calls (a1 == a2) t166 _ A25.out).mono ?_); rintro e w' ⟨rfl, ⟨nd, rfl⟩⟩; refine ⟨_, rfl, ?_⟩))
                        go_ret
                        exact ⟨by first | rfl | (simp; done) | (simp [*]; done), by repeat (first | exact Drawn0.refl _ | apply Drawn0.step)⟩
                      · rw [if_neg c24] at H
                        have c24b0 : (a0 == 15) = false := beq_eq_false_iff_ne.mpr c24
                        have c24b1 : (a0 != 15) = true := bne_iff_ne.mpr c24
                        replace H := Option.bind_eq_some_iff.mp H
                        obtain ⟨t167, A260, H⟩ := H
                        replace H : (some t167) = some r := H
                        have A26 := Aside0.mk A260
                        clear A260
                        obtain rfl := Option.some.inj H
                        go_enter Tryd.func82, Tryd.ntmps82
                        go_wp2_with (first | ((with_reducible refine gate_callee (f := 118) rfl ?_); refine goesL_ (some 94) rfl rfl Tryd.func118 (by kernel_rfl) rfl #[.bool (decide (a1 < a2))] rfl (by (try simp only [List.map_toArray, List.map_cons, List.map_nil]); first | done | rfl | (simp only [List.length_drop, List.length_take]; rfl)) ?_; (with_reducible refine (sorrelref06_yes.calls (decide (a1 < a2)) t167 _ A26.out).mono ?_); rintro e w' ⟨rfl, ⟨nd, rfl⟩⟩; refine ⟨_, rfl, ?_⟩))
                        go_ret
                        exact ⟨by first | rfl | (simp; done) | (simp [*]; done), by repeat (first | exact Drawn0.refl _ | apply Drawn0.step)⟩

end Go.Proofs.YtbbembhfnapadaaDoor.PVmPlays
