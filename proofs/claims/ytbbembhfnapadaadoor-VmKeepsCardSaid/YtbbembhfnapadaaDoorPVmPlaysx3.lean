-- PRINTED BY print.sh 35421559b90ae4d0a3588c463048766b98c2df88dd9212a6774a882060cdf62d: not written by this session
import Derived.Test.YtbbembhfnapadaaDoorPVmPlaysx0
import Derived.Test.YtbbembhfnapadaaDoorPVmPlaysx2
namespace Go.Proofs.YtbbembhfnapadaaDoor.PVmPlays
open Go.RowKit Go.Proofs.YtbbembhfnapadaaDoorW.PrintWords Go.Proofs.YtbbembhfnapadaaDoorW.PrintLast Go.Proofs.YtbbembhfnapadaaDoorW.PrintMore
attribute [local go_sem] max2_int min2_int max_two min_two max_three min_three max_four min_four   -- for this text's walks alone
set_option linter.unusedVariables false
set_option linter.unusedSimpArgs false

/-! ### sorrelref01_letter: function 122 -/
def sorrelref01_letter.j0 : Nat → Int → Bool → Option (Bool)
  | 0, _, _ => none
  | k + 1, x0, x12 => if x12 = true then (some true) else ((sorrelref01_within.f x0 192 591).bind fun t134 => (if t134 = true then (if x0 = 215 then (some false) else (some (x0 != 247))) else ((sorrelref01_within.f x0 880 1023).bind fun t135 => (if t135 = true then (if x0 = 894 then (some false) else (some (x0 != 903))) else ((sorrelref01_within.f x0 1024 1327).bind fun t136 => (if t136 = true then ((sorrelref01_within.f x0 1154 1161).bind fun t137 => (some (!t137))) else ((sorrelref01_within.f x0 19968 40959).bind fun t138 => (if t138 = true then (some true) else ((sorrelref01_within.f x0 66560 66639).bind fun t139 => (some t139))))))))))
def sorrelref01_letter.f (k : Nat) (a0 : Int) : Option (Bool) := (sorrelref01_within.f a0 97 122).bind fun t132 => (if t132 = true then (sorrelref01_letter.j0 k a0 true) else ((sorrelref01_within.f a0 65 90).bind fun t133 => (if t133 = true then (sorrelref01_letter.j0 k a0 true) else (sorrelref01_letter.j0 k a0 (a0 == 95)))))
theorem sorrelref01_letter.mono_l : ∀ k, (∀ y0 y1, LeO (sorrelref01_letter.j0 k y0 y1) (sorrelref01_letter.j0 (k + 1) y0 y1))
  | 0 => fun _ _ r h => by simp [sorrelref01_letter.j0] at h
  | k + 1 => by
    have ih0 := sorrelref01_letter.mono_l k
    · intro y0 y1
      unfold sorrelref01_letter.j0
      repeat' first
      | (with_reducible exact ih0 _ _)
      | (with_reducible exact LeO.refl _)
      | (with_reducible exact LeO.none _)
      | (with_reducible refine LeO.ite ?_ ?_)
      | (with_reducible refine LeO.bind ?_ (fun _ => ?_))
      | exact ih0 _ _
      | exact LeO.none _
      | refine LeO.ite ?_ ?_
      | refine LeO.bind ?_ (fun _ => ?_)
theorem sorrelref01_letter.mono : ∀ a0 k, LeO (sorrelref01_letter.f k a0) (sorrelref01_letter.f (k + 1) a0) := by
  intro a0 k
  have ih0 := sorrelref01_letter.mono_l k
  unfold sorrelref01_letter.f
  repeat' first
      | (with_reducible exact ih0 _ _)
      | (with_reducible exact LeO.refl _)
      | (with_reducible exact LeO.none _)
      | (with_reducible refine LeO.ite ?_ ?_)
      | (with_reducible refine LeO.bind ?_ (fun _ => ?_))
      | exact ih0 _ _
      | exact LeO.none _
      | refine LeO.ite ?_ ?_
      | refine LeO.bind ?_ (fun _ => ?_)
set_option maxHeartbeats 8000000 in
set_option maxRecDepth 100000 in
theorem sorrelref01_letter.calls (k : Nat) (a0 : Int) (r : Bool) (w : World) (h : sorrelref01_letter.f k a0 = some r) :
    Calls Tryd.prog 122 #[.int .i32 a0] w fun e w' => e = .returned (.bool r) ∧ Drawn0 w w' := by
  have H : ((sorrelref01_within.f a0 97 122).bind fun t132 => (if t132 = true then (sorrelref01_letter.j0 k a0 true) else ((sorrelref01_within.f a0 65 90).bind fun t133 => (if t133 = true then (sorrelref01_letter.j0 k a0 true) else (sorrelref01_letter.j0 k a0 (a0 == 95)))))) = some r := h
  clear h
  have HC2 := Aside0.mk H
  clear H
  go_enter Tryd.func122, Tryd.ntmps122
  go_upto_region 1 with (fail)
  go_cut [12] (fun v12 wc => ∃ (kq : Nat) (x12_1 : Bool), v12 = .bool x12_1 ∧ Aside0 (sorrelref01_letter.j0 kq a0 x12_1 = some r) ∧ Aside0 (kq ≤ k) ∧ Drawn0 w wc)
  case first =>
    have H := HC2.out
    clear HC2
    replace H := Option.bind_eq_some_iff.mp H
    obtain ⟨t132, A30, H⟩ := H
    replace H : (if t132 = true then (sorrelref01_letter.j0 k a0 true) else ((sorrelref01_within.f a0 65 90).bind fun t133 => (if t133 = true then (sorrelref01_letter.j0 k a0 true) else (sorrelref01_letter.j0 k a0 (a0 == 95))))) = some r := H
    have A3 := Aside0.mk A30
    clear A30
    by_cases c4 : t132 = true
    · subst c4
      have H1 : (sorrelref01_letter.j0 k a0 true) = some r := by rw [if_pos rfl] at H; exact H
      clear H
      have H := H1
      clear H1
      have H' := Aside0.mk H
      clear H
      go_wp2_with (first | ((with_reducible refine gate_callee (f := 123) rfl ?_); refine goesL_ (some 4) rfl rfl Tryd.func123 (by kernel_rfl) rfl #[.int .i32 a0, .int .i32 97, .int .i32 122] rfl (by (try simp only [List.map_toArray, List.map_cons, List.map_nil]); first | done | rfl | (simp only [List.length_drop, List.length_take]; rfl)) ?_; (with_reducible refine (sorrelref01_within.calls a0 97 122 true _ A3.out).mono ?_); rintro e w' ⟨rfl, ⟨nd, rfl⟩⟩; refine ⟨_, rfl, ?_⟩))
      go_meet
      case rel => exact ⟨_, (true), (by first | rfl | (simp; done) | (simp [*]; done)), H', ⟨by first | omega | exact Nat.le_refl _⟩, by repeat (first | exact Drawn0.refl _ | apply Drawn0.step)⟩
    · replace c4 := Bool.eq_false_iff.mpr c4
      subst c4
      have H1 : ((sorrelref01_within.f a0 65 90).bind fun t133 => (if t133 = true then (sorrelref01_letter.j0 k a0 true) else (sorrelref01_letter.j0 k a0 (a0 == 95)))) = some r := by rw [if_neg (show ¬ (false = true) by decide)] at H; exact H
      clear H
      have H := H1
      clear H1
      replace H := Option.bind_eq_some_iff.mp H
      obtain ⟨t133, A50, H⟩ := H
      replace H : (if t133 = true then (sorrelref01_letter.j0 k a0 true) else (sorrelref01_letter.j0 k a0 (a0 == 95))) = some r := H
      have A5 := Aside0.mk A50
      clear A50
      by_cases c6 : t133 = true
      · subst c6
        have H1 : (sorrelref01_letter.j0 k a0 true) = some r := by rw [if_pos rfl] at H; exact H
        clear H
        have H := H1
        clear H1
        have H' := Aside0.mk H
        clear H
        go_wp2_with (first | ((with_reducible refine gate_callee (f := 123) rfl ?_); refine goesL_ (some 4) rfl rfl Tryd.func123 (by kernel_rfl) rfl #[.int .i32 a0, .int .i32 97, .int .i32 122] rfl (by (try simp only [List.map_toArray, List.map_cons, List.map_nil]); first | done | rfl | (simp only [List.length_drop, List.length_take]; rfl)) ?_; (with_reducible refine (sorrelref01_within.calls a0 97 122 false _ A3.out).mono ?_); rintro e w' ⟨rfl, ⟨nd, rfl⟩⟩; refine ⟨_, rfl, ?_⟩) | (go_at_call 123; (with_reducible refine (sorrelref01_within.calls a0 65 90 true _ A5.out).mono ?_); rintro e w' ⟨rfl, ⟨nd, rfl⟩⟩))
        go_meet
        case rel => exact ⟨_, (true), (by first | rfl | (simp; done) | (simp [*]; done)), H', ⟨by first | omega | exact Nat.le_refl _⟩, by repeat (first | exact Drawn0.refl _ | apply Drawn0.step)⟩
      · replace c6 := Bool.eq_false_iff.mpr c6
        subst c6
        have H1 : (sorrelref01_letter.j0 k a0 (a0 == 95)) = some r := by rw [if_neg (show ¬ (false = true) by decide)] at H; exact H
        clear H
        have H := H1
        clear H1
        have H' := Aside0.mk H
        clear H
        go_wp2_with (first | ((with_reducible refine gate_callee (f := 123) rfl ?_); refine goesL_ (some 4) rfl rfl Tryd.func123 (by kernel_rfl) rfl #[.int .i32 a0, .int .i32 97, .int .i32 122] rfl (by (try simp only [List.map_toArray, List.map_cons, List.map_nil]); first | done | rfl | (simp only [List.length_drop, List.length_take]; rfl)) ?_; (with_reducible refine (sorrelref01_within.calls a0 97 122 false _ A3.out).mono ?_); rintro e w' ⟨rfl, ⟨nd, rfl⟩⟩; refine ⟨_, rfl, ?_⟩) | (go_at_call 123; (with_reducible refine (sorrelref01_within.calls a0 65 90 false _ A5.out).mono ?_); rintro e w' ⟨rfl, ⟨nd, rfl⟩⟩))
        go_meet
        case rel => exact ⟨_, ((a0 == 95)), (by first | rfl | (simp; done) | (simp [*]; done)), H', ⟨by first | omega | exact Nat.le_refl _⟩, by repeat (first | exact Drawn0.refl _ | apply Drawn0.step)⟩
  case rest =>
    clear HC2
    try clear c1
    try clear p2
    try clear c4
    try clear c6
    obtain ⟨kq, x12_1, rfl, HA, HJ1, ⟨mc1, rfl⟩⟩ := hcut
    cases kq with
    | zero => exact absurd HA.out (by simp [sorrelref01_letter.j0])
    | succ kj1 =>
      have H := HA.out
      clear HA
      simp only [sorrelref01_letter.j0] at H
      by_cases c7 : x12_1 = true
      · subst c7
        have H1 : (some true) = some r := by rw [if_pos rfl] at H; exact H
        clear H
        have H := H1
        clear H1
        obtain rfl := Option.some.inj H
        go_wp2
        go_ret
        exact ⟨by first | rfl | (simp; done) | (simp [*]; done), by repeat (first | exact Drawn0.refl _ | apply Drawn0.step)⟩
      · replace c7 := Bool.eq_false_iff.mpr c7
        subst c7
        have H1 : ((sorrelref01_within.f a0 192 591).bind fun t134 => (if t134 = true then (if a0 = 215 then (some false) else (some (a0 != 247))) else ((sorrelref01_within.f a0 880 1023).bind fun t135 => (if t135 = true then (if a0 = 894 then (some false) else (some (a0 != 903))) else ((sorrelref01_within.f a0 1024 1327).bind fun t136 => (if t136 = true then ((sorrelref01_within.f a0 1154 1161).bind fun t137 => (some (!t137))) else ((sorrelref01_within.f a0 19968 40959).bind fun t138 => (if t138 = true then (some true) else ((sorrelref01_within.f a0 66560 66639).bind fun t139 => (some t139)))))))))) = some r := by rw [if_neg (show ¬ (false = true) by decide)] at H; exact H
        clear H
        have H := H1
        clear H1
        replace H := Option.bind_eq_some_iff.mp H
        obtain ⟨t134, A80, H⟩ := H
        replace H : (if t134 = true then (if a0 = 215 then (some false) else (some (a0 != 247))) else ((sorrelref01_within.f a0 880 1023).bind fun t135 => (if t135 = true then (if a0 = 894 then (some false) else (some (a0 != 903))) else ((sorrelref01_within.f a0 1024 1327).bind fun t136 => (if t136 = true then ((sorrelref01_within.f a0 1154 1161).bind fun t137 => (some (!t137))) else ((sorrelref01_within.f a0 19968 40959).bind fun t138 => (if t138 = true then (some true) else ((sorrelref01_within.f a0 66560 66639).bind fun t139 => (some t139))))))))) = some r := H
        have A8 := Aside0.mk A80
        clear A80
        by_cases c9 : t134 = true
        · subst c9
          have H1 : (if a0 = 215 then (some false) else (some (a0 != 247))) = some r := by rw [if_pos rfl] at H; exact H
          clear H
          have H := H1
          clear H1
          by_cases c10 : a0 = 215
          · rw [if_pos c10] at H
            have c10b0 : (a0 == 215) = true := beq_iff_eq.mpr c10
            have c10b1 : (a0 != 215) = false := bne_eq_false_iff_eq.mpr c10
            clear c10
            obtain rfl := Option.some.inj H
            go_wp2_with (first | ((with_reducible refine gate_callee (f := 123) rfl ?_); refine goesL_ (some 14) rfl rfl Tryd.func123 (by kernel_rfl) rfl #[.int .i32 a0, .int .i32 192, .int .i32 591] rfl (by (try simp only [List.map_toArray, List.map_cons, List.map_nil]); first | done | rfl | (simp only [List.length_drop, List.length_take]; rfl)) ?_; (with_reducible refine (sorrelref01_within.calls a0 192 591 true _ A8.out).mono ?_); rintro e w' ⟨rfl, ⟨nd, rfl⟩⟩; refine ⟨_, rfl, ?_⟩))
            go_ret
            exact ⟨by first | rfl | (simp; done) | (simp [*]; done), by repeat (first | exact Drawn0.refl _ | apply Drawn0.step)⟩
          · rw [if_neg c10] at H
            have c10b0 : (a0 == 215) = false := beq_eq_false_iff_ne.mpr c10
            have c10b1 : (a0 != 215) = true := bne_iff_ne.mpr c10
            obtain rfl := Option.some.inj H
            go_wp2_with (first | ((with_reducible refine gate_callee (f := 123) rfl ?_); refine goesL_ (some 14) rfl rfl Tryd.func123 (by kernel_rfl) rfl #[.int .i32 a0, .int .i32 192, .int .i32 591] rfl (by (try simp only [List.map_toArray, List.map_cons, List.map_nil]); first | done | rfl | (simp only [List.length_drop, List.length_take]; rfl)) ?_; (with_reducible refine (sorrelref01_within.calls a0 192 591 true _ A8.out).mono ?_); rintro e w' ⟨rfl, ⟨nd, rfl⟩⟩; refine ⟨_, rfl, ?_⟩))
            go_ret
            exact ⟨by first | rfl | (simp; done) | (simp [*]; done), by repeat (first | exact Drawn0.refl _ | apply Drawn0.step)⟩
        · replace c9 := Bool.eq_false_iff.mpr c9
          subst c9
          have H1 : ((sorrelref01_within.f a0 880 1023).bind fun t135 => (if t135 = true then (if a0 = 894 then (some false) else (some (a0 != 903))) else ((sorrelref01_within.f a0 1024 1327).bind fun t136 => (if t136 = true then ((sorrelref01_within.f a0 1154 1161).bind fun t137 => (some (!t137))) else ((sorrelref01_within.f a0 19968 40959).bind fun t138 => (if t138 = true then (some true) else ((sorrelref01_within.f a0 66560 66639).bind fun t139 => (some t139)))))))) = some r := by rw [if_neg (show ¬ (false = true) by decide)] at H; exact H
          clear H
          have H := H1
          clear H1
          replace H := Option.bind_eq_some_iff.mp H
          obtain ⟨t135, A110, H⟩ := H
          replace H : (if t135 = true then (if a0 = 894 then (some false) else (some (a0 != 903))) else ((sorrelref01_within.f a0 1024 1327).bind fun t136 => (if t136 = true then ((sorrelref01_within.f a0 1154 1161).bind fun t137 => (some (!t137))) else ((sorrelref01_within.f a0 19968 40959).bind fun t138 => (if t138 = true then (some true) else ((sorrelref01_within.f a0 66560 66639).bind fun t139 => (some t139))))))) = some r := H
          have A11 := Aside0.mk A110
          clear A110
          by_cases c12 : t135 = true
          · subst c12
            have H1 : (if a0 = 894 then (some false) else (some (a0 != 903))) = some r := by rw [if_pos rfl] at H; exact H
            clear H
            have H := H1
            clear H1
            by_cases c13 : a0 = 894
            · rw [if_pos c13] at H
              have c13b0 : (a0 == 894) = true := beq_iff_eq.mpr c13
              have c13b1 : (a0 != 894) = false := bne_eq_false_iff_eq.mpr c13
              clear c13
              obtain rfl := Option.some.inj H
              go_wp2_with (first | ((with_reducible refine gate_callee (f := 123) rfl ?_); refine goesL_ (some 14) rfl rfl Tryd.func123 (by kernel_rfl) rfl #[.int .i32 a0, .int .i32 192, .int .i32 591] rfl (by (try simp only [List.map_toArray, List.map_cons, List.map_nil]); first | done | rfl | (simp only [List.length_drop, List.length_take]; rfl)) ?_; (with_reducible refine (sorrelref01_within.calls a0 192 591 false _ A8.out).mono ?_); rintro e w' ⟨rfl, ⟨nd, rfl⟩⟩; refine ⟨_, rfl, ?_⟩) | ((with_reducible refine gate_callee (f := 123) rfl ?_); refine goesL_ (some 22) rfl rfl Tryd.func123 (by kernel_rfl) rfl #[.int .i32 a0, .int .i32 880, .int .i32 1023] rfl (by (try simp only [List.map_toArray, List.map_cons, List.map_nil]); first | done | rfl | (simp only [List.length_drop, List.length_take]; rfl)) ?_; (with_reducible refine (sorrelref01_within.calls a0 880 1023 true _ A11.out).mono ?_); rintro e w' ⟨rfl, ⟨nd, rfl⟩⟩; refine ⟨_, rfl, ?_⟩))
              go_ret
              exact ⟨by first | rfl | (simp; done) | (simp [*]; done), by repeat (first | exact Drawn0.refl _ | apply Drawn0.step)⟩
            · rw [if_neg c13] at H
              have c13b0 : (a0 == 894) = false := beq_eq_false_iff_ne.mpr c13
              have c13b1 : (a0 != 894) = true := bne_iff_ne.mpr c13
              obtain rfl := Option.some.inj H
              go_wp2_with (first | ((with_reducible refine gate_callee (f := 123) rfl ?_); refine goesL_ (some 14) rfl rfl Tryd.func123 (by kernel_rfl) rfl #[.int .i32 a0, .int .i32 192, .int .i32 591] rfl (by (try simp only [List.map_toArray, List.map_cons, List.map_nil]); first | done | rfl | (simp only [List.length_drop, List.length_take]; rfl)) ?_; (with_reducible refine (sorrelref01_within.calls a0 192 591 false _ A8.out).mono ?_); rintro e w' ⟨rfl, ⟨nd, rfl⟩⟩; refine ⟨_, rfl, ?_⟩) | ((with_reducible refine gate_callee (f := 123) rfl ?_); refine goesL_ (some 22) rfl rfl Tryd.func123 (by kernel_rfl) rfl #[.int .i32 a0, .int .i32 880, .int .i32 1023] rfl (by (try simp only [List.map_toArray, List.map_cons, List.map_nil]); first | done | rfl | (simp only [List.length_drop, List.length_take]; rfl)) ?_; (with_reducible refine (sorrelref01_within.calls a0 880 1023 true _ A11.out).mono ?_); rintro e w' ⟨rfl, ⟨nd, rfl⟩⟩; refine ⟨_, rfl, ?_⟩))
              go_ret
              exact ⟨by first | rfl | (simp; done) | (simp [*]; done), by repeat (first | exact Drawn0.refl _ | apply Drawn0.step)⟩
          · replace c12 := Bool.eq_false_iff.mpr c12
            subst c12
            have H1 : ((sorrelref01_within.f a0 1024 1327).bind fun t136 => (if t136 = true then ((sorrelref01_within.f a0 1154 1161).bind fun t137 => (some (!t137))) else ((sorrelref01_within.f a0 19968 40959).bind fun t138 => (if t138 = true then (some true) else ((sorrelref01_within.f a0 66560 66639).bind fun t139 => (some t139)))))) = some r := by rw [if_neg (show ¬ (false = true) by decide)] at H; exact H
            clear H
            have H := H1
            clear H1
            replace H := Option.bind_eq_some_iff.mp H
            obtain ⟨t136, A140, H⟩ := H
            replace H : (if t136 = true then ((sorrelref01_within.f a0 1154 1161).bind fun t137 => (some (!t137))) else ((sorrelref01_within.f a0 19968 40959).bind fun t138 => (if t138 = true then (some true) else ((sorrelref01_within.f a0 66560 66639).bind fun t139 => (some t139))))) = some r := H
            have A14 := Aside0.mk A140
            clear A140
            by_cases c15 : t136 = true
            · subst c15
              have H1 : ((sorrelref01_within.f a0 1154 1161).bind fun t137 => (some (!t137))) = some r := by rw [if_pos rfl] at H; exact H
              clear H
              have H := H1
              clear H1
              replace H := Option.bind_eq_some_iff.mp H
              obtain ⟨t137, A160, H⟩ := H
              replace H : (some (!t137)) = some r := H
              have A16 := Aside0.mk A160
              clear A160
              obtain rfl := Option.some.inj H
              go_wp2_with (first | ((with_reducible refine gate_callee (f := 123) rfl ?_); refine goesL_ (some 14) rfl rfl Tryd.func123 (by kernel_rfl) rfl #[.int .i32 a0, .int .i32 192, .int .i32 591] rfl (by (try simp only [List.map_toArray, List.map_cons, List.map_nil]); first | done | rfl | (simp only [List.length_drop, List.length_take]; rfl)) ?_; (with_reducible refine (sorrelref01_within.calls a0 192 591 false _ A8.out).mono ?_); rintro e w' ⟨rfl, ⟨nd, rfl⟩⟩; refine ⟨_, rfl, ?_⟩) | ((with_reducible refine gate_callee (f := 123) rfl ?_); refine goesL_ (some 22) rfl rfl Tryd.func123 (by kernel_rfl) rfl #[.int .i32 a0, .int .i32 880, .int .i32 1023] rfl (by (try simp only [List.map_toArray, List.map_cons, List.map_nil]); first | done | rfl | (simp only [List.length_drop, List.length_take]; rfl)) ?_; (with_reducible refine (sorrelref01_within.calls a0 880 1023 false _ A11.out).mono ?_); rintro e w' ⟨rfl, ⟨nd, rfl⟩⟩; refine ⟨_, rfl, ?_⟩) | ((with_reducible refine gate_callee (f := 123) rfl ?_); refine goesL_ (some 30) rfl rfl Tryd.func123 (by kernel_rfl) rfl #[.int .i32 a0, .int .i32 1024, .int .i32 1327] rfl (by (try simp only [List.map_toArray, List.map_cons, List.map_nil]); first | done | rfl | (simp only [List.length_drop, List.length_take]; rfl)) ?_; (with_reducible refine (sorrelref01_within.calls a0 1024 1327 true _ A14.out).mono ?_); rintro e w' ⟨rfl, ⟨nd, rfl⟩⟩; refine ⟨_, rfl, ?_⟩) | ((with_reducible refine gate_callee (f := 123) rfl ?_); refine goesL_ (some 32) rfl rfl Tryd.func123 (by kernel_rfl) rfl #[.int .i32 a0, .int .i32 1154, .int .i32 1161] rfl (by (try simp only [List.map_toArray, List.map_cons, List.map_nil]); first | done | rfl | (simp only [List.length_drop, List.length_take]; rfl)) ?_; (with_reducible refine (sorrelref01_within.calls a0 1154 1161 t137 _ A16.out).mono ?_); rintro e w' ⟨rfl, ⟨nd, rfl⟩⟩; refine ⟨_, rfl, ?_⟩))
              go_ret
              exact ⟨by first | rfl | (simp; done) | (simp [*]; done), by repeat (first | exact Drawn0.refl _ | apply Drawn0.step)⟩
            · replace c15 := Bool.eq_false_iff.mpr c15
              subst c15
              have H1 : ((sorrelref01_within.f a0 19968 40959).bind fun t138 => (if t138 = true then (some true) else ((sorrelref01_within.f a0 66560 66639).bind fun t139 => (some t139)))) = some r := by rw [if_neg (show ¬ (false = true) by decide)] at H; exact H
              clear H
              have H := H1
              clear H1
              replace H := Option.bind_eq_some_iff.mp H
              obtain ⟨t138, A170, H⟩ := H
              replace H : (if t138 = true then (some true) else ((sorrelref01_within.f a0 66560 66639).bind fun t139 => (some t139))) = some r := H
              have A17 := Aside0.mk A170
              clear A170
              by_cases c18 : t138 = true
              · subst c18
                have H1 : (some true) = some r := by rw [if_pos rfl] at H; exact H
                clear H
                have H := H1
                clear H1
                obtain rfl := Option.some.inj H
                go_wp2_with (first | ((with_reducible refine gate_callee (f := 123) rfl ?_); refine goesL_ (some 14) rfl rfl Tryd.func123 (by kernel_rfl) rfl #[.int .i32 a0, .int .i32 192, .int .i32 591] rfl (by (try simp only [List.map_toArray, List.map_cons, List.map_nil]); first | done | rfl | (simp only [List.length_drop, List.length_take]; rfl)) ?_; (with_reducible refine (sorrelref01_within.calls a0 192 591 false _ A8.out).mono ?_); rintro e w' ⟨rfl, ⟨nd, rfl⟩⟩; refine ⟨_, rfl, ?_⟩) | ((with_reducible refine gate_callee (f := 123) rfl ?_); refine goesL_ (some 22) rfl rfl Tryd.func123 (by kernel_rfl) rfl #[.int .i32 a0, .int .i32 880, .int .i32 1023] rfl (by (try simp only [List.map_toArray, List.map_cons, List.map_nil]); first | done | rfl | (simp only [List.length_drop, List.length_take]; rfl)) ?_; (with_reducible refine (sorrelref01_within.calls a0 880 1023 false _ A11.out).mono ?_); rintro e w' ⟨rfl, ⟨nd, rfl⟩⟩; refine ⟨_, rfl, ?_⟩) | ((with_reducible refine gate_callee (f := 123) rfl ?_); refine goesL_ (some 30) rfl rfl Tryd.func123 (by kernel_rfl) rfl #[.int .i32 a0, .int .i32 1024, .int .i32 1327] rfl (by (try simp only [List.map_toArray, List.map_cons, List.map_nil]); first | done | rfl | (simp only [List.length_drop, List.length_take]; rfl)) ?_; (with_reducible refine (sorrelref01_within.calls a0 1024 1327 false _ A14.out).mono ?_); rintro e w' ⟨rfl, ⟨nd, rfl⟩⟩; refine ⟨_, rfl, ?_⟩) | ((with_reducible refine gate_callee (f := 123) rfl ?_); refine goesL_ (some 35) rfl rfl Tryd.func123 (by kernel_rfl) rfl #[.int .i32 a0, .int .i32 19968, .int .i32 40959] rfl (by (try simp only [List.map_toArray, List.map_cons, List.map_nil]); first | done | rfl | (simp only [List.length_drop, List.length_take]; rfl)) ?_; (with_reducible refine (sorrelref01_within.calls a0 19968 40959 true _ A17.out).mono ?_); rintro e w' ⟨rfl, ⟨nd, rfl⟩⟩; refine ⟨_, rfl, ?_⟩))
                go_ret
                exact ⟨by first | rfl | (simp; done) | (simp [*]; done), by repeat (first | exact Drawn0.refl _ | apply Drawn0.step)⟩
              · replace c18 := Bool.eq_false_iff.mpr c18
                subst c18
                have H1 : ((sorrelref01_within.f a0 66560 66639).bind fun t139 => (some t139)) = some r := by rw [if_neg (show ¬ (false = true) by decide)] at H; exact H
                clear H
                have H := H1
                clear H1
                replace H := Option.bind_eq_some_iff.mp H
                obtain ⟨t139, A190, H⟩ := H
                replace H : (some t139) = some r := H
                have A19 := Aside0.mk A190
                clear A190
                obtain rfl := Option.some.inj H
                go_wp2_with (first | ((with_reducible refine gate_callee (f := 123) rfl ?_); refine goesL_ (some 14) rfl rfl Tryd.func123 (by kernel_rfl) rfl #[.int .i32 a0, .int .i32 192, .int .i32 591] rfl (by (try simp only [List.map_toArray, List.map_cons, List.map_nil]); first | done | rfl | (simp only [List.length_drop, List.length_take]; rfl)) ?_; (with_reducible refine (sorrelref01_within.calls a0 192 591 false _ A8.out).mono ?_); rintro e w' ⟨rfl, ⟨nd, rfl⟩⟩; refine ⟨_, rfl, ?_⟩) | ((with_reducible refine gate_callee (f := 123) rfl ?_); refine goesL_ (some 22) rfl rfl Tryd.func123 (by kernel_rfl) rfl #[.int .i32 a0, .int .i32 880, .int .i32 1023] rfl (by (try simp only [List.map_toArray, List.map_cons, List.map_nil]); first | done | rfl | (simp only [List.length_drop, List.length_take]; rfl)) ?_; (with_reducible refine (sorrelref01_within.calls a0 880 1023 false _ A11.out).mono ?_); rintro e w' ⟨rfl, ⟨nd, rfl⟩⟩; refine ⟨_, rfl, ?_⟩) | ((with_reducible refine gate_callee (f := 123) rfl ?_); refine goesL_ (some 30) rfl rfl Tryd.func123 (by kernel_rfl) rfl #[.int .i32 a0, .int .i32 1024, .int .i32 1327] rfl (by (try simp only [List.map_toArray, List.map_cons, List.map_nil]); first | done | rfl | (simp only [List.length_drop, List.length_take]; rfl)) ?_; (with_reducible refine (sorrelref01_within.calls a0 1024 1327 false _ A14.out).mono ?_); rintro e w' ⟨rfl, ⟨nd, rfl⟩⟩; refine ⟨_, rfl, ?_⟩) | ((with_reducible refine gate_callee (f := 123) rfl ?_); refine goesL_ (some 35) rfl rfl Tryd.func123 (by kernel_rfl) rfl #[.int .i32 a0, .int .i32 19968, .int .i32 40959] rfl (by (try simp only [List.map_toArray, List.map_cons, List.map_nil]); first | done | rfl | (simp only [List.length_drop, List.length_take]; rfl)) ?_; (with_reducible refine (sorrelref01_within.calls a0 19968 40959 false _ A17.out).mono ?_); rintro e w' ⟨rfl, ⟨nd, rfl⟩⟩; refine ⟨_, rfl, ?_⟩) | (go_at_call 123; (with_reducible refine (sorrelref01_within.calls a0 66560 66639 t139 _ A19.out).mono ?_); rintro e w' ⟨rfl, ⟨nd, rfl⟩⟩))
                go_ret
                exact ⟨by first | rfl | (simp; done) | (simp [*]; done), by repeat (first | exact Drawn0.refl _ | apply Drawn0.step)⟩

-- NOT PRINTED: function 90 (sorrelref01_Kind)

-- NOT PRINTED: function 91 (sorrelref01_behind)

-- NOT PRINTED: function 60 (sorrelref01_Name)

/-! ### sorrelref02_Arity: function 61 -/
mutual
def sorrelref02_Arity.j0 : Nat → Int → Bool → Option (Int)
  | 0, _, _ => none
  | k + 1, x0, x3 => if x3 = true then (some 0) else (if x0 = 3 then (sorrelref02_Arity.j1 k x0 true) else (sorrelref02_Arity.j1 k x0 (x0 == 4)))
def sorrelref02_Arity.j1 : Nat → Int → Bool → Option (Int)
  | 0, _, _ => none
  | k + 1, x0, x10 => if x10 = true then (some 1) else (if x0 = 17 then (some 3) else (if x0 ≥ 5 then (if x0 ≤ 16 then (some 2) else (some (-1))) else (some (-1))))
end
def sorrelref02_Arity.f (k : Nat) (a0 : Int) : Option (Int) := if a0 = 1 then (sorrelref02_Arity.j0 k a0 true) else (sorrelref02_Arity.j0 k a0 (a0 == 2))
theorem sorrelref02_Arity.mono_l : ∀ k, (∀ y0 y1, LeO (sorrelref02_Arity.j0 k y0 y1) (sorrelref02_Arity.j0 (k + 1) y0 y1)) ∧ (∀ y0 y1, LeO (sorrelref02_Arity.j1 k y0 y1) (sorrelref02_Arity.j1 (k + 1) y0 y1))
  | 0 => ⟨fun _ _ r h => by simp [sorrelref02_Arity.j0] at h, fun _ _ r h => by simp [sorrelref02_Arity.j1] at h⟩
  | k + 1 => by
    obtain ⟨ih0, ih1⟩ := sorrelref02_Arity.mono_l k
    refine ⟨?_, ?_⟩
    · intro y0 y1
      unfold sorrelref02_Arity.j0
      repeat' first
      | (with_reducible exact ih0 _ _)
      | (with_reducible exact ih1 _ _)
      | (with_reducible exact LeO.refl _)
      | (with_reducible exact LeO.none _)
      | (with_reducible refine LeO.ite ?_ ?_)
      | (with_reducible refine LeO.bind ?_ (fun _ => ?_))
      | exact ih0 _ _
      | exact ih1 _ _
      | exact LeO.none _
      | refine LeO.ite ?_ ?_
      | refine LeO.bind ?_ (fun _ => ?_)
    · intro y0 y1
      unfold sorrelref02_Arity.j1
      repeat' first
      | (with_reducible exact ih0 _ _)
      | (with_reducible exact ih1 _ _)
      | (with_reducible exact LeO.refl _)
      | (with_reducible exact LeO.none _)
      | (with_reducible refine LeO.ite ?_ ?_)
      | (with_reducible refine LeO.bind ?_ (fun _ => ?_))
      | exact ih0 _ _
      | exact ih1 _ _
      | exact LeO.none _
      | refine LeO.ite ?_ ?_
      | refine LeO.bind ?_ (fun _ => ?_)
theorem sorrelref02_Arity.mono : ∀ a0 k, LeO (sorrelref02_Arity.f k a0) (sorrelref02_Arity.f (k + 1) a0) := by
  intro a0 k
  obtain ⟨ih0, ih1⟩ := sorrelref02_Arity.mono_l k
  unfold sorrelref02_Arity.f
  repeat' first
      | (with_reducible exact ih0 _ _)
      | (with_reducible exact ih1 _ _)
      | (with_reducible exact LeO.refl _)
      | (with_reducible exact LeO.none _)
      | (with_reducible refine LeO.ite ?_ ?_)
      | (with_reducible refine LeO.bind ?_ (fun _ => ?_))
      | exact ih0 _ _
      | exact ih1 _ _
      | exact LeO.none _
      | refine LeO.ite ?_ ?_
      | refine LeO.bind ?_ (fun _ => ?_)
set_option maxHeartbeats 8000000 in
set_option maxRecDepth 100000 in
theorem sorrelref02_Arity.calls (k : Nat) (a0 : Int) (r : Int) (w : World) (h : sorrelref02_Arity.f k a0 = some r) :
    Calls Tryd.prog 61 #[.int .i64 a0] w fun e w' => e = .returned (.int .i64 r) ∧ Drawn0 w w' := by
  have H : (if a0 = 1 then (sorrelref02_Arity.j0 k a0 true) else (sorrelref02_Arity.j0 k a0 (a0 == 2))) = some r := h
  clear h
  have HC2 := Aside0.mk H
  clear H
  go_enter Tryd.func61, Tryd.ntmps61
  go_upto_region 1 with (fail)
  go_cut [3] (fun v3 wc => ∃ (kq : Nat) (x3_1 : Bool), v3 = .bool x3_1 ∧ Aside0 (sorrelref02_Arity.j0 kq a0 x3_1 = some r) ∧ Aside0 (kq ≤ k) ∧ Drawn0 w wc)
  case first =>
    have H := HC2.out
    clear HC2
    by_cases c3 : a0 = 1
    · rw [if_pos c3] at H
      have c3b0 : (a0 == 1) = true := beq_iff_eq.mpr c3
      have c3b1 : (a0 != 1) = false := bne_eq_false_iff_eq.mpr c3
      clear c3
      (first | rw [c3b0] | (simp only [i64_w, i32_w]; rw [c3b0]) | skip)
      have H' := Aside0.mk H
      clear H
      go_wp2
      go_meet
      case rel => exact ⟨_, (true), (by first | rfl | (simp; done) | (simp [*]; done)), H', ⟨by first | omega | exact Nat.le_refl _⟩, by repeat (first | exact Drawn0.refl _ | apply Drawn0.step)⟩
    · rw [if_neg c3] at H
      have c3b0 : (a0 == 1) = false := beq_eq_false_iff_ne.mpr c3
      have c3b1 : (a0 != 1) = true := bne_iff_ne.mpr c3
      (first | rw [c3b0] | (simp only [i64_w, i32_w]; rw [c3b0]) | skip)
      have H' := Aside0.mk H
      clear H
      go_wp2
      go_meet
      case rel => exact ⟨_, ((a0 == 2)), (by first | rfl | (simp; done) | (simp [*]; done)), H', ⟨by first | omega | exact Nat.le_refl _⟩, by repeat (first | exact Drawn0.refl _ | apply Drawn0.step)⟩
  case rest =>
    clear HC2
    try clear p2
    try clear c3
    try clear c3b0
    try clear c3b1
    obtain ⟨kq, x3_1, rfl, HA, HJ1, ⟨mc1, rfl⟩⟩ := hcut
    cases kq with
    | zero => exact absurd HA.out (by simp [sorrelref02_Arity.j0])
    | succ kj1 =>
      have H := HA.out
      clear HA
      simp only [sorrelref02_Arity.j0] at H
      by_cases c4 : x3_1 = true
      · subst c4
        have H1 : (some 0) = some r := by rw [if_pos rfl] at H; exact H
        clear H
        have H := H1
        clear H1
        obtain rfl := Option.some.inj H
        go_wp2
        go_ret
        exact ⟨by first | rfl | (simp; done) | (simp [*]; done), by repeat (first | exact Drawn0.refl _ | apply Drawn0.step)⟩
      · replace c4 := Bool.eq_false_iff.mpr c4
        subst c4
        have H1 : (if a0 = 3 then (sorrelref02_Arity.j1 kj1 a0 true) else (sorrelref02_Arity.j1 kj1 a0 (a0 == 4))) = some r := by rw [if_neg (show ¬ (false = true) by decide)] at H; exact H
        clear H
        have H := H1
        clear H1
        have HC5 := Aside0.mk H
        clear H
        go_upto_region 3 with (fail)
        go_cut [10] (fun v10 wc => ∃ (kq : Nat) (x10_4 : Bool), v10 = .bool x10_4 ∧ Aside0 (sorrelref02_Arity.j1 kq a0 x10_4 = some r) ∧ Aside0 (kq ≤ kj1) ∧ Drawn0 w wc)
        case first =>
          have H := HC5.out
          clear HC5
          by_cases c6 : a0 = 3
          · rw [if_pos c6] at H
            have c6b0 : (a0 == 3) = true := beq_iff_eq.mpr c6
            have c6b1 : (a0 != 3) = false := bne_eq_false_iff_eq.mpr c6
            clear c6
            (first | rw [c6b0] | (simp only [i64_w, i32_w]; rw [c6b0]) | skip)
            have H' := Aside0.mk H
            clear H
            go_wp2
            go_meet
            case rel => exact ⟨_, (true), (by first | rfl | (simp; done) | (simp [*]; done)), H', ⟨by have := HJ1.out; first | omega | exact Nat.le_refl _⟩, by repeat (first | exact Drawn0.refl _ | apply Drawn0.step)⟩
          · rw [if_neg c6] at H
            have c6b0 : (a0 == 3) = false := beq_eq_false_iff_ne.mpr c6
            have c6b1 : (a0 != 3) = true := bne_iff_ne.mpr c6
            (first | rw [c6b0] | (simp only [i64_w, i32_w]; rw [c6b0]) | skip)
            have H' := Aside0.mk H
            clear H
            go_wp2
            go_meet
            case rel => exact ⟨_, ((a0 == 4)), (by first | rfl | (simp; done) | (simp [*]; done)), H', ⟨by have := HJ1.out; first | omega | exact Nat.le_refl _⟩, by repeat (first | exact Drawn0.refl _ | apply Drawn0.step)⟩
        case rest =>
          clear HC5
          try clear c1
          try clear p2
          try clear c3
          try clear c3b0
          try clear c3b1
          try clear c4
          try clear c6
          try clear c6b0
          try clear c6b1
          try clear p2
          obtain ⟨kq, x10_4, rfl, HA, HJ4, ⟨mc4, rfl⟩⟩ := hcut
          cases kq with
          | zero => exact absurd HA.out (by simp [sorrelref02_Arity.j1])
          | succ kj4 =>
            have H := HA.out
            clear HA
            simp only [sorrelref02_Arity.j1] at H
            by_cases c7 : x10_4 = true
            · subst c7
              have H1 : (some 1) = some r := by rw [if_pos rfl] at H; exact H
              clear H
              have H := H1
              clear H1
              obtain rfl := Option.some.inj H
              go_wp2
              go_ret
              exact ⟨by first | rfl | (simp; done) | (simp [*]; done), by repeat (first | exact Drawn0.refl _ | apply Drawn0.step)⟩
            · replace c7 := Bool.eq_false_iff.mpr c7
              subst c7
              have H1 : (if a0 = 17 then (some 3) else (if a0 ≥ 5 then (if a0 ≤ 16 then (some 2) else (some (-1))) else (some (-1)))) = some r := by rw [if_neg (show ¬ (false = true) by decide)] at H; exact H
              clear H
              have H := H1
              clear H1
              by_cases c8 : a0 = 17
              · rw [if_pos c8] at H
                have c8b0 : (a0 == 17) = true := beq_iff_eq.mpr c8
                have c8b1 : (a0 != 17) = false := bne_eq_false_iff_eq.mpr c8
                clear c8
                obtain rfl := Option.some.inj H
                go_wp2
                go_ret
                exact ⟨by first | rfl | (simp; done) | (simp [*]; done), by repeat (first | exact Drawn0.refl _ | apply Drawn0.step)⟩
              · rw [if_neg c8] at H
                have c8b0 : (a0 == 17) = false := beq_eq_false_iff_ne.mpr c8
                have c8b1 : (a0 != 17) = true := bne_iff_ne.mpr c8
                by_cases c9 : a0 ≥ 5
                · rw [if_pos c9] at H
                  have c9b0 : decide (5 ≤ a0) = true := decide_eq_true c9
                  clear c9
                  by_cases c10 : a0 ≤ 16
                  · rw [if_pos c10] at H
                    have c10b0 : decide (a0 ≤ 16) = true := decide_eq_true c10
                    clear c10
                    obtain rfl := Option.some.inj H
                    go_wp2
                    go_ret
                    exact ⟨by first | rfl | (simp; done) | (simp [*]; done), by repeat (first | exact Drawn0.refl _ | apply Drawn0.step)⟩
                  · rw [if_neg c10] at H
                    have c10b0 : decide (a0 ≤ 16) = false := decide_eq_false c10
                    clear c10
                    obtain rfl := Option.some.inj H
                    go_wp2
                    go_ret
                    exact ⟨by first | rfl | (simp; done) | (simp [*]; done), by repeat (first | exact Drawn0.refl _ | apply Drawn0.step)⟩
                · rw [if_neg c9] at H
                  have c9b0 : decide (5 ≤ a0) = false := decide_eq_false c9
                  clear c9
                  obtain rfl := Option.some.inj H
                  go_wp2
                  go_ret
                  exact ⟨by first | rfl | (simp; done) | (simp [*]; done), by repeat (first | exact Drawn0.refl _ | apply Drawn0.step)⟩

-- NOT PRINTED: function 30 (sorrelref23_Check)

/-! ### sorrelref07_Get: function 45 -/
def sorrelref07_Get.l0 : Nat → List (S39) → ByteArray → Int → Int → Option (Int)
  | 0, _, _, _, _ => none
  | k + 1, x0, x1, x5, x6 => if x6 < (x0.length : Int) then (if 0 ≤ x6 then (if ((rd_T39 x0 x6).f0).toList = x1.toList then (sorrelref07_Get.l0 k x0 x1 ((rd_T39 x0 x6).f1) (wrap64 (x6 + 1))) else (sorrelref07_Get.l0 k x0 x1 x5 (wrap64 (x6 + 1)))) else (none)) else (some x5)
def sorrelref07_Get.f (k : Nat) (l0 : List (S39)) (a1 : ByteArray) : Option (Int) := sorrelref07_Get.l0 k l0 a1 0 0
theorem sorrelref07_Get.mono_l : ∀ k, (∀ y0 y1 y2 y3, LeO (sorrelref07_Get.l0 k y0 y1 y2 y3) (sorrelref07_Get.l0 (k + 1) y0 y1 y2 y3))
  | 0 => fun _ _ _ _ r h => by simp [sorrelref07_Get.l0] at h
  | k + 1 => by
    have ih0 := sorrelref07_Get.mono_l k
    · intro y0 y1 y2 y3
      unfold sorrelref07_Get.l0
      repeat' first
      | (with_reducible exact ih0 _ _ _ _)
      | (with_reducible exact LeO.refl _)
      | (with_reducible exact LeO.none _)
      | (with_reducible refine LeO.ite ?_ ?_)
      | (with_reducible refine LeO.bind ?_ (fun _ => ?_))
      | exact ih0 _ _ _ _
      | exact LeO.none _
      | refine LeO.ite ?_ ?_
      | refine LeO.bind ?_ (fun _ => ?_)
theorem sorrelref07_Get.mono : ∀ a0 a1 k, LeO (sorrelref07_Get.f k a0 a1) (sorrelref07_Get.f (k + 1) a0 a1) := by
  intro a0 a1 k
  have ih0 := sorrelref07_Get.mono_l k
  unfold sorrelref07_Get.f
  repeat' first
      | (with_reducible exact ih0 _ _ _ _)
      | (with_reducible exact LeO.refl _)
      | (with_reducible exact LeO.none _)
      | (with_reducible refine LeO.ite ?_ ?_)
      | (with_reducible refine LeO.bind ?_ (fun _ => ?_))
      | exact ih0 _ _ _ _
      | exact LeO.none _
      | refine LeO.ite ?_ ?_
      | refine LeO.bind ?_ (fun _ => ?_)
set_option maxHeartbeats 8000000 in
set_option maxRecDepth 100000 in
theorem sorrelref07_Get.calls (k : Nat) (A0 : Option Addr) (c0 : Nat) (l0 : List (S39)) (a1 : ByteArray) (r : Int) (w : World) (hr0 : Kd.C k39 w A0 l0.length l0) (hc0 : l0.length ≤ c0) (h : sorrelref07_Get.f k l0 a1 = some r) :
    Calls Tryd.prog 45 #[.slice A0 l0.length c0, .string a1] w fun e w' => e = .returned (.int .i64 r) ∧ Drawn0 w w' := by
  have HR0 := Aside0.mk hr0
  have HC0 := Aside0.mk hc0
  clear hr0 hc0
  have H : (sorrelref07_Get.l0 k l0 a1 0 0) = some r := h
  clear h
  have H' := Aside0.mk H
  clear H
  go_enter Tryd.func45, Tryd.ntmps45
  go_wp2
  go_loopg [5, 6] k (fun kq v5 v6 w' => ∃ (x5_1 : Int) (x6_1 : Int), v5 = .int .i64 x5_1 ∧ v6 = .int .i64 x6_1 ∧ Aside0 (sorrelref07_Get.l0 kq l0 a1 x5_1 x6_1 = some r) ∧ Aside0 (kq ≤ k) ∧ Drawn0 w w')
  case atStart => exact ⟨(0), (0), (by first | rfl | (simp; done) | (simp [*]; done)), (by first | rfl | (simp; done) | (simp [*]; done)), H', ⟨Nat.le_refl _⟩, by repeat (first | exact Drawn0.refl _ | apply Drawn0.step)⟩
  case round =>
    clear H'
    try clear p2
    obtain ⟨x5_1, x6_1, rfl, rfl, HA, HK1, ⟨m1, rfl⟩⟩ := hrel
    cases gk with
    | zero => exact absurd HA.out (by simp [sorrelref07_Get.l0])
    | succ k1 =>
      have H := HA.out
      clear HA
      simp only [sorrelref07_Get.l0] at H
      by_cases c3 : x6_1 < (l0.length : Int)
      · rw [if_pos c3] at H
        have c3b0 : decide (x6_1 < (l0.length : Int)) = true := decide_eq_true c3
        clear c3
        by_cases c4 : 0 ≤ x6_1
        · rw [if_pos c4] at H
          have c4b0 : decide (0 ≤ x6_1) = true := decide_eq_true c4
          clear c4
          by_cases c5 : ((rd_T39 l0 x6_1).f0).toList = a1.toList
          · rw [if_pos c5] at H
            have c5b0 : (((rd_T39 l0 x6_1).f0).toList == a1.toList) = true := beq_iff_eq.mpr c5
            have c5b1 : (((rd_T39 l0 x6_1).f0).toList != a1.toList) = false := bne_eq_false_iff_eq.mpr c5
            clear c5
            have H' := Aside0.mk H
            clear H
            have p152 : 0 ≤ (x6_1 : Int) := of_decide_eq_true (by first | (with_reducible assumption) | assumption)
            have q152 : x6_1 < (l0.length : Int) := of_decide_eq_true (by first | (with_reducible assumption) | assumption)
            obtain ⟨ad152, e152, hx152_0, hx152_1⟩ := at_T39 HR0.out x6_1 p152 q152
            cases e152
            replace p152 := eq_true p152
            replace q152 := eq_true q152
            have p153 : 0 ≤ (x6_1 : Int) := of_decide_eq_true (by first | (with_reducible assumption) | assumption)
            have q153 : x6_1 < (l0.length : Int) := of_decide_eq_true (by first | (with_reducible assumption) | assumption)
            obtain ⟨ad153, e153, hx153_0, hx153_1⟩ := at_T39 HR0.out x6_1 p153 q153
            obtain rfl : ad152 = ad153 := (by injection e153)
            replace p153 := eq_true p153
            replace q153 := eq_true q153
            go_wp2
            go_roundg k1
            case measure => have := HK1.out; omega
            case rel => exact ⟨((rd_T39 l0 x6_1).f1), (wrap64 (x6_1 + 1)), (by first | rfl | (simp; done) | (simp [*]; done)), (by first | rfl | (simp; done) | (simp [*]; done)), H', ⟨by have := HK1.out; omega⟩, by repeat (first | exact Drawn0.refl _ | apply Drawn0.step)⟩
          · rw [if_neg c5] at H
            have c5b0 : (((rd_T39 l0 x6_1).f0).toList == a1.toList) = false := beq_eq_false_iff_ne.mpr c5
            have c5b1 : (((rd_T39 l0 x6_1).f0).toList != a1.toList) = true := bne_iff_ne.mpr c5
            have H' := Aside0.mk H
            clear H
            have p152 : 0 ≤ (x6_1 : Int) := of_decide_eq_true (by first | (with_reducible assumption) | assumption)
            have q152 : x6_1 < (l0.length : Int) := of_decide_eq_true (by first | (with_reducible assumption) | assumption)
            obtain ⟨ad152, e152, hx152_0, hx152_1⟩ := at_T39 HR0.out x6_1 p152 q152
            cases e152
            replace p152 := eq_true p152
            replace q152 := eq_true q152
            go_wp2
            go_roundg k1
            case measure => have := HK1.out; omega
            case rel => exact ⟨(x5_1), (wrap64 (x6_1 + 1)), (by first | rfl | (simp; done) | (simp [*]; done)), (by first | rfl | (simp; done) | (simp [*]; done)), H', ⟨by have := HK1.out; omega⟩, by repeat (first | exact Drawn0.refl _ | apply Drawn0.step)⟩
        · rw [if_neg c4] at H
          exact absurd H (by simp)
      · rw [if_neg c3] at H
        have c3b0 : decide (x6_1 < (l0.length : Int)) = false := decide_eq_false c3
        clear c3
        obtain rfl := Option.some.inj H
        go_wp2
        go_ret
        exact ⟨by first | rfl | (simp; done) | (simp [*]; done), by repeat (first | exact Drawn0.refl _ | apply Drawn0.step)⟩

/-! ### sorrelref06_size: function 99 -/
def sorrelref06_size.f (a0 : Int) : Option (Int) := if a0 < 0 then (some (IntKind.u64.wrap (-(IntKind.u64.wrap (a0))))) else (some (IntKind.u64.wrap (a0)))
set_option maxHeartbeats 8000000 in
set_option maxRecDepth 100000 in
theorem sorrelref06_size.calls (a0 : Int) (r : Int) (w : World) (h : sorrelref06_size.f a0 = some r) :
    Calls Tryd.prog 99 #[.int .i64 a0] w fun e w' => e = .returned (.int .u64 r) ∧ Drawn0 w w' := by
  have H : (if a0 < 0 then (some (IntKind.u64.wrap (-(IntKind.u64.wrap (a0))))) else (some (IntKind.u64.wrap (a0)))) = some r := h
  clear h
  by_cases c2 : a0 < 0
  · rw [if_pos c2] at H
    have c2b0 : decide (a0 < 0) = true := decide_eq_true c2
    clear c2
    obtain rfl := Option.some.inj H
    go_enter Tryd.func99, Tryd.ntmps99
    go_wp2
    go_ret
    exact ⟨by first | rfl | (simp; done) | (simp [*]; done), by repeat (first | exact Drawn0.refl _ | apply Drawn0.step)⟩
  · rw [if_neg c2] at H
    have c2b0 : decide (a0 < 0) = false := decide_eq_false c2
    clear c2
    obtain rfl := Option.some.inj H
    go_enter Tryd.func99, Tryd.ntmps99
    go_wp2
    go_ret
    exact ⟨by first | rfl | (simp; done) | (simp [*]; done), by repeat (first | exact Drawn0.refl _ | apply Drawn0.step)⟩

/-! ### sorrelref06_divide: function 114 -/
def sorrelref06_divide.l0 : Nat → Int → Int → Int → Int → Int → Option (Int × Int)
  | 0, _, _, _, _, _ => none
  | k + 1, x0, x1, x6, x7, x8 => if x8 ≥ 0 then (if 0 ≤ (IntKind.u64.wrap (x8)) then (if (x7 / 9223372036854775808) = 1 then (sorrelref06_divide.l0 k x0 x1 (IntKind.u64.wrap ((IntKind.u64.wrap (x6 * 2)) + 1)) (IntKind.u64.wrap ((IntKind.u64.wrap ((IntKind.u64.wrap (x7 * 2)) + (Int.tmod (shr .u64 x0 (IntKind.u64.wrap (x8))) 2))) - x1)) (wrap64 (x8 - 1))) else (if (IntKind.u64.wrap ((IntKind.u64.wrap (x7 * 2)) + (Int.tmod (shr .u64 x0 (IntKind.u64.wrap (x8))) 2))) ≥ x1 then (sorrelref06_divide.l0 k x0 x1 (IntKind.u64.wrap ((IntKind.u64.wrap (x6 * 2)) + 1)) (IntKind.u64.wrap ((IntKind.u64.wrap ((IntKind.u64.wrap (x7 * 2)) + (Int.tmod (shr .u64 x0 (IntKind.u64.wrap (x8))) 2))) - x1)) (wrap64 (x8 - 1))) else (sorrelref06_divide.l0 k x0 x1 (IntKind.u64.wrap (x6 * 2)) (IntKind.u64.wrap ((IntKind.u64.wrap (x7 * 2)) + (Int.tmod (shr .u64 x0 (IntKind.u64.wrap (x8))) 2))) (wrap64 (x8 - 1))))) else (none)) else (some (x6, x7))
def sorrelref06_divide.f (k : Nat) (a0 : Int) (a1 : Int) : Option (Int × Int) := sorrelref06_divide.l0 k a0 a1 0 0 63
theorem sorrelref06_divide.mono_l : ∀ k, (∀ y0 y1 y2 y3 y4, LeO (sorrelref06_divide.l0 k y0 y1 y2 y3 y4) (sorrelref06_divide.l0 (k + 1) y0 y1 y2 y3 y4))
  | 0 => fun _ _ _ _ _ r h => by simp [sorrelref06_divide.l0] at h
  | k + 1 => by
    have ih0 := sorrelref06_divide.mono_l k
    · intro y0 y1 y2 y3 y4
      unfold sorrelref06_divide.l0
      repeat' first
      | (with_reducible exact ih0 _ _ _ _ _)
      | (with_reducible exact LeO.refl _)
      | (with_reducible exact LeO.none _)
      | (with_reducible refine LeO.ite ?_ ?_)
      | (with_reducible refine LeO.bind ?_ (fun _ => ?_))
      | exact ih0 _ _ _ _ _
      | exact LeO.none _
      | refine LeO.ite ?_ ?_
      | refine LeO.bind ?_ (fun _ => ?_)
theorem sorrelref06_divide.mono : ∀ a0 a1 k, LeO (sorrelref06_divide.f k a0 a1) (sorrelref06_divide.f (k + 1) a0 a1) := by
  intro a0 a1 k
  have ih0 := sorrelref06_divide.mono_l k
  unfold sorrelref06_divide.f
  repeat' first
      | (with_reducible exact ih0 _ _ _ _ _)
      | (with_reducible exact LeO.refl _)
      | (with_reducible exact LeO.none _)
      | (with_reducible refine LeO.ite ?_ ?_)
      | (with_reducible refine LeO.bind ?_ (fun _ => ?_))
      | exact ih0 _ _ _ _ _
      | exact LeO.none _
      | refine LeO.ite ?_ ?_
      | refine LeO.bind ?_ (fun _ => ?_)
set_option maxHeartbeats 8000000 in
set_option maxRecDepth 100000 in
theorem sorrelref06_divide.calls (k : Nat) (a0 : Int) (a1 : Int) (r1 : Int) (r2 : Int) (w : World) (h : sorrelref06_divide.f k a0 a1 = some (r1, r2)) :
    Calls Tryd.prog 114 #[.int .u64 a0, .int .u64 a1] w fun e w' => e = .returned (.tuple #[.int .u64 r1, .int .u64 r2]) ∧ Drawn0 w w' := by
  have H : (sorrelref06_divide.l0 k a0 a1 0 0 63) = some (r1, r2) := h
  clear h
  have H' := Aside0.mk H
  clear H
  go_enter Tryd.func114, Tryd.ntmps114
  go_wp2
  go_loopg [6, 7, 8] k (fun kq v6 v7 v8 w' => ∃ (x6_1 : Int) (x7_1 : Int) (x8_1 : Int), v6 = .int .u64 x6_1 ∧ v7 = .int .u64 x7_1 ∧ v8 = .int .i64 x8_1 ∧ Aside0 (sorrelref06_divide.l0 kq a0 a1 x6_1 x7_1 x8_1 = some (r1, r2)) ∧ Aside0 (kq ≤ k) ∧ Drawn0 w w')
  case atStart => exact ⟨(0), (0), (63), (by first | rfl | (simp; done) | (simp [*]; done)), (by first | rfl | (simp; done) | (simp [*]; done)), (by first | rfl | (simp; done) | (simp [*]; done)), H', ⟨Nat.le_refl _⟩, by repeat (first | exact Drawn0.refl _ | apply Drawn0.step)⟩
  case round =>
    clear H'
    try clear c1
    try clear p2
    obtain ⟨x6_1, x7_1, x8_1, rfl, rfl, rfl, HA, HK1, ⟨m1, rfl⟩⟩ := hrel
    cases gk with
    | zero => exact absurd HA.out (by simp [sorrelref06_divide.l0])
    | succ k1 =>
      have H := HA.out
      clear HA
      simp only [sorrelref06_divide.l0] at H
      by_cases c3 : x8_1 ≥ 0
      · rw [if_pos c3] at H
        have c3b0 : decide (0 ≤ x8_1) = true := decide_eq_true c3
        clear c3
        obtain ⟨ji4, hji4⟩ : ∃ j_ : Int, (IntKind.u64.wrap (x8_1)) = j_ := ⟨_, rfl⟩
        replace H : (if 0 ≤ (ji4) then (if (x7_1 / 9223372036854775808) = 1 then (sorrelref06_divide.l0 k1 a0 a1 (IntKind.u64.wrap ((IntKind.u64.wrap (x6_1 * 2)) + 1)) (IntKind.u64.wrap ((IntKind.u64.wrap ((IntKind.u64.wrap (x7_1 * 2)) + (Int.tmod (shr .u64 a0 (ji4)) 2))) - a1)) (wrap64 (x8_1 - 1))) else (if (IntKind.u64.wrap ((IntKind.u64.wrap (x7_1 * 2)) + (Int.tmod (shr .u64 a0 (ji4)) 2))) ≥ a1 then (sorrelref06_divide.l0 k1 a0 a1 (IntKind.u64.wrap ((IntKind.u64.wrap (x6_1 * 2)) + 1)) (IntKind.u64.wrap ((IntKind.u64.wrap ((IntKind.u64.wrap (x7_1 * 2)) + (Int.tmod (shr .u64 a0 (ji4)) 2))) - a1)) (wrap64 (x8_1 - 1))) else (sorrelref06_divide.l0 k1 a0 a1 (IntKind.u64.wrap (x6_1 * 2)) (IntKind.u64.wrap ((IntKind.u64.wrap (x7_1 * 2)) + (Int.tmod (shr .u64 a0 (ji4)) 2))) (wrap64 (x8_1 - 1))))) else (none)) = some (r1, r2) := by first | (rw [hji4] at H; exact H) | (simp only [hji4] at H ⊢; exact H)
        by_cases c5 : 0 ≤ (ji4)
        · rw [if_pos c5] at H
          have c5b0 := eq_true c5
          have c5b1 : decide (0 ≤ (ji4)) = true := decide_eq_true c5
          clear c5
          obtain ⟨ji6, hji6⟩ : ∃ j_ : Int, (shr .u64 a0 (ji4)) = j_ := ⟨_, rfl⟩
          replace H : (if (x7_1 / 9223372036854775808) = 1 then (sorrelref06_divide.l0 k1 a0 a1 (IntKind.u64.wrap ((IntKind.u64.wrap (x6_1 * 2)) + 1)) (IntKind.u64.wrap ((IntKind.u64.wrap ((IntKind.u64.wrap (x7_1 * 2)) + (Int.tmod (ji6) 2))) - a1)) (wrap64 (x8_1 - 1))) else (if (IntKind.u64.wrap ((IntKind.u64.wrap (x7_1 * 2)) + (Int.tmod (ji6) 2))) ≥ a1 then (sorrelref06_divide.l0 k1 a0 a1 (IntKind.u64.wrap ((IntKind.u64.wrap (x6_1 * 2)) + 1)) (IntKind.u64.wrap ((IntKind.u64.wrap ((IntKind.u64.wrap (x7_1 * 2)) + (Int.tmod (ji6) 2))) - a1)) (wrap64 (x8_1 - 1))) else (sorrelref06_divide.l0 k1 a0 a1 (IntKind.u64.wrap (x6_1 * 2)) (IntKind.u64.wrap ((IntKind.u64.wrap (x7_1 * 2)) + (Int.tmod (ji6) 2))) (wrap64 (x8_1 - 1))))) = some (r1, r2) := by first | (rw [hji6] at H; exact H) | (simp only [hji6] at H ⊢; exact H)
          have hji6_ : (a0 / 2 ^ min (ji4).toNat 64) = ji6 := hji6
          have hji6z : (ji4) ≤ 64 → (a0 / 2 ^ (ji4).toNat) = ji6 := shr_small hji6
          by_cases c7 : (x7_1 / 9223372036854775808) = 1
          · rw [if_pos c7] at H
            have c7b0 : ((x7_1 / 9223372036854775808) == 1) = true := beq_iff_eq.mpr c7
            have c7b1 : ((x7_1 / 9223372036854775808) != 1) = false := bne_eq_false_iff_eq.mpr c7
            clear c7
            have H' := Aside0.mk H
            clear H
            go_wp2
            go_roundg k1
            case measure => have := HK1.out; omega
            case rel => exact ⟨(IntKind.u64.wrap ((IntKind.u64.wrap (x6_1 * 2)) + 1)), (IntKind.u64.wrap ((IntKind.u64.wrap ((IntKind.u64.wrap (x7_1 * 2)) + (Int.tmod (ji6) 2))) - a1)), (wrap64 (x8_1 - 1)), (by first | rfl | (simp; done) | (simp [*]; done)), (by first | rfl | (simp; done) | (simp only [← hji6] <;> (first | rfl | simp)) | (simp [*]; done)), (by first | rfl | (simp; done) | (simp [*]; done)), H', ⟨by have := HK1.out; omega⟩, by repeat (first | exact Drawn0.refl _ | apply Drawn0.step)⟩
          · rw [if_neg c7] at H
            have c7b0 : ((x7_1 / 9223372036854775808) == 1) = false := beq_eq_false_iff_ne.mpr c7
            have c7b1 : ((x7_1 / 9223372036854775808) != 1) = true := bne_iff_ne.mpr c7
            by_cases c8 : (IntKind.u64.wrap ((IntKind.u64.wrap (x7_1 * 2)) + (Int.tmod (ji6) 2))) ≥ a1
            · rw [if_pos c8] at H
              have c8b0 : decide (a1 ≤ (IntKind.u64.wrap ((IntKind.u64.wrap (x7_1 * 2)) + (Int.tmod (ji6) 2)))) = true := decide_eq_true c8
              clear c8
              have H' := Aside0.mk H
              clear H
              go_wp2
              go_roundg k1
              case measure => have := HK1.out; omega
              case rel => exact ⟨(IntKind.u64.wrap ((IntKind.u64.wrap (x6_1 * 2)) + 1)), (IntKind.u64.wrap ((IntKind.u64.wrap ((IntKind.u64.wrap (x7_1 * 2)) + (Int.tmod (ji6) 2))) - a1)), (wrap64 (x8_1 - 1)), (by first | rfl | (simp; done) | (simp [*]; done)), (by first | rfl | (simp; done) | (simp only [← hji6] <;> (first | rfl | simp)) | (simp [*]; done)), (by first | rfl | (simp; done) | (simp [*]; done)), H', ⟨by have := HK1.out; omega⟩, by repeat (first | exact Drawn0.refl _ | apply Drawn0.step)⟩
            · rw [if_neg c8] at H
              have c8b0 : decide (a1 ≤ (IntKind.u64.wrap ((IntKind.u64.wrap (x7_1 * 2)) + (Int.tmod (ji6) 2)))) = false := decide_eq_false c8
              clear c8
              have H' := Aside0.mk H
              clear H
              go_wp2
              go_roundg k1
              case measure => have := HK1.out; omega
              case rel => exact ⟨(IntKind.u64.wrap (x6_1 * 2)), (IntKind.u64.wrap ((IntKind.u64.wrap (x7_1 * 2)) + (Int.tmod (ji6) 2))), (wrap64 (x8_1 - 1)), (by first | rfl | (simp; done) | (simp [*]; done)), (by first | rfl | (simp; done) | (simp only [← hji6] <;> (first | rfl | simp)) | (simp [*]; done)), (by first | rfl | (simp; done) | (simp [*]; done)), H', ⟨by have := HK1.out; omega⟩, by repeat (first | exact Drawn0.refl _ | apply Drawn0.step)⟩
        · rw [if_neg c5] at H
          exact absurd H (by simp)
      · rw [if_neg c3] at H
        have c3b0 : decide (0 ≤ x8_1) = false := decide_eq_false c3
        clear c3
        simp only [Option.some.injEq, Prod.mk.injEq] at H
        obtain ⟨rfl, rfl⟩ := H
        go_wp2
        go_ret2
        exact ⟨by first | rfl | (simp; done) | (simp [*]; done), by repeat (first | exact Drawn0.refl _ | apply Drawn0.step)⟩

/-! ### sorrelref06_signed: function 115 -/
def sorrelref06_signed.f (a0 : Int) (a1 : Bool) : Option (Int) := if a1 = true then (some (wrap64 (IntKind.u64.wrap (-a0)))) else (some (wrap64 (a0)))
set_option maxHeartbeats 8000000 in
set_option maxRecDepth 100000 in
theorem sorrelref06_signed.calls (a0 : Int) (a1 : Bool) (r : Int) (w : World) (h : sorrelref06_signed.f a0 a1 = some r) :
    Calls Tryd.prog 115 #[.int .u64 a0, .bool a1] w fun e w' => e = .returned (.int .i64 r) ∧ Drawn0 w w' := by
  have H : (if a1 = true then (some (wrap64 (IntKind.u64.wrap (-a0)))) else (some (wrap64 (a0)))) = some r := h
  clear h
  by_cases c3 : a1 = true
  · subst c3
    have H1 : (some (wrap64 (IntKind.u64.wrap (-a0)))) = some r := by rw [if_pos rfl] at H; exact H
    clear H
    have H := H1
    clear H1
    obtain rfl := Option.some.inj H
    go_enter Tryd.func115, Tryd.ntmps115
    go_wp2
    go_ret
    exact ⟨by first | rfl | (simp; done) | (simp [*]; done), by repeat (first | exact Drawn0.refl _ | apply Drawn0.step)⟩
  · replace c3 := Bool.eq_false_iff.mpr c3
    subst c3
    have H1 : (some (wrap64 (a0))) = some r := by rw [if_neg (show ¬ (false = true) by decide)] at H; exact H
    clear H
    have H := H1
    clear H1
    obtain rfl := Option.some.inj H
    go_enter Tryd.func115, Tryd.ntmps115
    go_wp2
    go_ret
    exact ⟨by first | rfl | (simp; done) | (simp [*]; done), by repeat (first | exact Drawn0.refl _ | apply Drawn0.step)⟩

/-! ### sorrelref06_shifted: function 116 -/
def sorrelref06_shifted.l0 : Nat → Int → Int → Int → Option (Int)
  | 0, _, _, _ => none
  | k + 1, x0, x1, x5 => if x5 < x1 then (sorrelref06_shifted.l0 k (wrap64 (x0 + x0)) x1 (wrap64 (x5 + 1))) else (some x0)
def sorrelref06_shifted.f (k : Nat) (a0 : Int) (a1 : Int) : Option (Int) := sorrelref06_shifted.l0 k a0 a1 0
theorem sorrelref06_shifted.mono_l : ∀ k, (∀ y0 y1 y2, LeO (sorrelref06_shifted.l0 k y0 y1 y2) (sorrelref06_shifted.l0 (k + 1) y0 y1 y2))
  | 0 => fun _ _ _ r h => by simp [sorrelref06_shifted.l0] at h
  | k + 1 => by
    have ih0 := sorrelref06_shifted.mono_l k
    · intro y0 y1 y2
      unfold sorrelref06_shifted.l0
      repeat' first
      | (with_reducible exact ih0 _ _ _)
      | (with_reducible exact LeO.refl _)
      | (with_reducible exact LeO.none _)
      | (with_reducible refine LeO.ite ?_ ?_)
      | (with_reducible refine LeO.bind ?_ (fun _ => ?_))
      | exact ih0 _ _ _
      | exact LeO.none _
      | refine LeO.ite ?_ ?_
      | refine LeO.bind ?_ (fun _ => ?_)
theorem sorrelref06_shifted.mono : ∀ a0 a1 k, LeO (sorrelref06_shifted.f k a0 a1) (sorrelref06_shifted.f (k + 1) a0 a1) := by
  intro a0 a1 k
  have ih0 := sorrelref06_shifted.mono_l k
  unfold sorrelref06_shifted.f
  repeat' first
      | (with_reducible exact ih0 _ _ _)
      | (with_reducible exact LeO.refl _)
      | (with_reducible exact LeO.none _)
      | (with_reducible refine LeO.ite ?_ ?_)
      | (with_reducible refine LeO.bind ?_ (fun _ => ?_))
      | exact ih0 _ _ _
      | exact LeO.none _
      | refine LeO.ite ?_ ?_
      | refine LeO.bind ?_ (fun _ => ?_)
set_option maxHeartbeats 8000000 in
set_option maxRecDepth 100000 in
theorem sorrelref06_shifted.calls (k : Nat) (a0 : Int) (a1 : Int) (r : Int) (w : World) (h : sorrelref06_shifted.f k a0 a1 = some r) :
    Calls Tryd.prog 116 #[.int .i64 a0, .int .i64 a1] w fun e w' => e = .returned (.int .i64 r) ∧ Drawn0 w w' := by
  have H : (sorrelref06_shifted.l0 k a0 a1 0) = some r := h
  clear h
  have H' := Aside0.mk H
  clear H
  go_enter Tryd.func116, Tryd.ntmps116
  go_wp2
  go_loopg [0, 5] k (fun kq v0 v5 w' => ∃ (x0_1 : Int) (x5_1 : Int), v0 = .int .i64 x0_1 ∧ v5 = .int .i64 x5_1 ∧ Aside0 (sorrelref06_shifted.l0 kq x0_1 a1 x5_1 = some r) ∧ Aside0 (kq ≤ k) ∧ Drawn0 w w')
  case atStart => exact ⟨(a0), (0), (by first | rfl | (simp; done) | (simp [*]; done)), (by first | rfl | (simp; done) | (simp [*]; done)), H', ⟨Nat.le_refl _⟩, by repeat (first | exact Drawn0.refl _ | apply Drawn0.step)⟩
  case round =>
    clear H'
    try clear c1
    try clear p2
    obtain ⟨x0_1, x5_1, rfl, rfl, HA, HK1, ⟨m1, rfl⟩⟩ := hrel
    cases gk with
    | zero => exact absurd HA.out (by simp [sorrelref06_shifted.l0])
    | succ k1 =>
      have H := HA.out
      clear HA
      simp only [sorrelref06_shifted.l0] at H
      by_cases c3 : x5_1 < a1
      · rw [if_pos c3] at H
        have c3b0 : decide (x5_1 < a1) = true := decide_eq_true c3
        clear c3
        have H' := Aside0.mk H
        clear H
        go_wp2
        go_roundg k1
        case measure => have := HK1.out; omega
        case rel => exact ⟨(wrap64 (x0_1 + x0_1)), (wrap64 (x5_1 + 1)), (by first | rfl | (simp; done) | (simp [*]; done)), (by first | rfl | (simp; done) | (simp [*]; done)), H', ⟨by have := HK1.out; omega⟩, by repeat (first | exact Drawn0.refl _ | apply Drawn0.step)⟩
      · rw [if_neg c3] at H
        have c3b0 : decide (x5_1 < a1) = false := decide_eq_false c3
        clear c3
        obtain rfl := Option.some.inj H
        go_wp2
        go_ret
        exact ⟨by first | rfl | (simp; done) | (simp [*]; done), by repeat (first | exact Drawn0.refl _ | apply Drawn0.step)⟩

end Go.Proofs.YtbbembhfnapadaaDoor.PVmPlays
