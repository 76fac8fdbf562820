-- PRINTED BY print.sh 35421559b90ae4d0a3588c463048766b98c2df88dd9212a6774a882060cdf62d: not written by this session
import Derived.Test.YtbbembhfnapadaaDoorPVmPlaysx0
import Derived.Test.YtbbembhfnapadaaDoorPVmPlaysx3
import Derived.Test.YtbbembhfnapadaaDoorPVmPlaysx4
namespace Go.Proofs.YtbbembhfnapadaaDoor.PVmPlays
open Go.RowKit Go.Proofs.YtbbembhfnapadaaDoorW.PrintWords Go.Proofs.YtbbembhfnapadaaDoorW.PrintLast Go.Proofs.YtbbembhfnapadaaDoorW.PrintMore
attribute [local go_sem] max2_int min2_int max_two min_two max_three min_three max_four min_four   -- for this text's walks alone
set_option linter.unusedVariables false
set_option linter.unusedSimpArgs false

/-! ### sorrelref06_Apply: function 46 -/
mutual
def sorrelref06_Apply.j0 : Nat → Int → List Int → Bool → Option (Int × Int)
  | 0, _, _, _ => none
  | k + 1, x0, x1, x16 => if x16 = true then (some (0, 2)) else (if x0 = 3 then (if 0 < (x1.length : Int) then (some (wrap64 (-(rd x1 0)), 0)) else (none)) else (if x0 = 4 then (if 0 < (x1.length : Int) then (some (wrap64 ((-1) - (rd x1 0)), 0)) else (none)) else (if x0 = 17 then (if 0 < (x1.length : Int) then (sorrelref06_Apply.j1 k x0 x1 ((rd x1 0) != 0)) else (none)) else (sorrelref06_Apply.j1 k x0 x1 false))))
def sorrelref06_Apply.j1 : Nat → Int → List Int → Bool → Option (Int × Int)
  | 0, _, _, _ => none
  | k + 1, x0, x1, x31 => if x31 = true then (if 1 < (x1.length : Int) then (some (rd x1 1, 0)) else (none)) else (if x0 = 17 then (if 2 < (x1.length : Int) then (some (rd x1 2, 0)) else (none)) else (if x0 = 8 then (if 1 < (x1.length : Int) then (if (rd x1 1) = 0 then (some (0, 12)) else (if 0 < (x1.length : Int) then ((sorrelref06_two.f k x0 (rd x1 0) (rd x1 1)).bind fun t177 => (some (t177, 0))) else (none))) else (none)) else (if x0 = 9 then (if 1 < (x1.length : Int) then (if (rd x1 1) = 0 then (some (0, 12)) else (if 0 < (x1.length : Int) then ((sorrelref06_two.f k x0 (rd x1 0) (rd x1 1)).bind fun t181 => (some (t181, 0))) else (none))) else (none)) else (if 0 < (x1.length : Int) then (if 1 < (x1.length : Int) then ((sorrelref06_two.f k x0 (rd x1 0) (rd x1 1)).bind fun t184 => (some (t184, 0))) else (none)) else (none)))))
end
def sorrelref06_Apply.f (k : Nat) (a0 : Int) (l1 : List Int) : Option (Int × Int) := (sorrelref02_Arity.f k a0).bind fun t168 => (if t168 ≤ 0 then (sorrelref06_Apply.j0 k a0 l1 true) else (sorrelref06_Apply.j0 k a0 l1 (t168 != (l1.length : Int))))
theorem sorrelref06_Apply.mono_l : ∀ k, (∀ y0 y1 y2, LeO (sorrelref06_Apply.j0 k y0 y1 y2) (sorrelref06_Apply.j0 (k + 1) y0 y1 y2)) ∧ (∀ y0 y1 y2, LeO (sorrelref06_Apply.j1 k y0 y1 y2) (sorrelref06_Apply.j1 (k + 1) y0 y1 y2))
  | 0 => ⟨fun _ _ _ r h => by simp [sorrelref06_Apply.j0] at h, fun _ _ _ r h => by simp [sorrelref06_Apply.j1] at h⟩
  | k + 1 => by
    obtain ⟨ih0, ih1⟩ := sorrelref06_Apply.mono_l k
    refine ⟨?_, ?_⟩
    · intro y0 y1 y2
      unfold sorrelref06_Apply.j0
      repeat' first
      | (with_reducible exact ih0 _ _ _)
      | (with_reducible exact ih1 _ _ _)
      | (with_reducible exact sorrelref02_Arity.mono _ _)
      | (with_reducible exact sorrelref06_two.mono _ _ _ _)
      | (with_reducible exact LeO.refl _)
      | (with_reducible exact LeO.none _)
      | (with_reducible refine LeO.ite ?_ ?_)
      | (with_reducible refine LeO.bind ?_ (fun _ => ?_))
      | exact ih0 _ _ _
      | exact ih1 _ _ _
      | exact sorrelref02_Arity.mono _ _
      | exact sorrelref06_two.mono _ _ _ _
      | exact LeO.none _
      | refine LeO.ite ?_ ?_
      | refine LeO.bind ?_ (fun _ => ?_)
    · intro y0 y1 y2
      unfold sorrelref06_Apply.j1
      repeat' first
      | (with_reducible exact ih0 _ _ _)
      | (with_reducible exact ih1 _ _ _)
      | (with_reducible exact sorrelref02_Arity.mono _ _)
      | (with_reducible exact sorrelref06_two.mono _ _ _ _)
      | (with_reducible exact LeO.refl _)
      | (with_reducible exact LeO.none _)
      | (with_reducible refine LeO.ite ?_ ?_)
      | (with_reducible refine LeO.bind ?_ (fun _ => ?_))
      | exact ih0 _ _ _
      | exact ih1 _ _ _
      | exact sorrelref02_Arity.mono _ _
      | exact sorrelref06_two.mono _ _ _ _
      | exact LeO.none _
      | refine LeO.ite ?_ ?_
      | refine LeO.bind ?_ (fun _ => ?_)
theorem sorrelref06_Apply.mono : ∀ a0 a1 k, LeO (sorrelref06_Apply.f k a0 a1) (sorrelref06_Apply.f (k + 1) a0 a1) := by
  intro a0 a1 k
  obtain ⟨ih0, ih1⟩ := sorrelref06_Apply.mono_l k
  unfold sorrelref06_Apply.f
  repeat' first
      | (with_reducible exact ih0 _ _ _)
      | (with_reducible exact ih1 _ _ _)
      | (with_reducible exact sorrelref02_Arity.mono _ _)
      | (with_reducible exact sorrelref06_two.mono _ _ _ _)
      | (with_reducible exact LeO.refl _)
      | (with_reducible exact LeO.none _)
      | (with_reducible refine LeO.ite ?_ ?_)
      | (with_reducible refine LeO.bind ?_ (fun _ => ?_))
      | exact ih0 _ _ _
      | exact ih1 _ _ _
      | exact sorrelref02_Arity.mono _ _
      | exact sorrelref06_two.mono _ _ _ _
      | exact LeO.none _
      | refine LeO.ite ?_ ?_
      | refine LeO.bind ?_ (fun _ => ?_)
set_option maxHeartbeats 8000000 in
set_option maxRecDepth 100000 in
theorem sorrelref06_Apply.calls (k : Nat) (a0 : Int) (A1 : Option Addr) (c1 : Nat) (l1 : List Int) (r1 : Int) (r2 : Int) (w : World) (hr1 : Kd.C (Kd.int .i64) w A1 l1.length l1) (hc1 : l1.length ≤ c1) (h : sorrelref06_Apply.f k a0 l1 = some (r1, r2)) :
    Calls Tryd.prog 46 #[.int .i64 a0, .slice A1 l1.length c1] w fun e w' => e = .returned (.tuple #[.int .i64 r1, .int .i64 r2]) ∧ Drawn0 w w' := by
  have HR1 := Aside0.mk hr1
  have HC1 := Aside0.mk hc1
  clear hr1 hc1
  have H : ((sorrelref02_Arity.f k a0).bind fun t168 => (if t168 ≤ 0 then (sorrelref06_Apply.j0 k a0 l1 true) else (sorrelref06_Apply.j0 k a0 l1 (t168 != (l1.length : Int))))) = some (r1, r2) := h
  clear h
  replace H := Option.bind_eq_some_iff.mp H
  obtain ⟨t168, A30, H⟩ := H
  replace H : (if t168 ≤ 0 then (sorrelref06_Apply.j0 k a0 l1 true) else (sorrelref06_Apply.j0 k a0 l1 (t168 != (l1.length : Int)))) = some (r1, r2) := H
  have A3 := Aside0.mk A30
  clear A30
  have HC4 := Aside0.mk H
  clear H
  go_enter Tryd.func46, Tryd.ntmps46
  go_upto_region 2 with (first | (go_at_call 61; (with_reducible refine (sorrelref02_Arity.calls k a0 t168 _ A3.out).mono ?_); rintro e w' ⟨rfl, ⟨nd, rfl⟩⟩; (try first | exact ⟨rfl, _, World.drewN_drewN _ _ _⟩ | exact ⟨rfl, _, Eq.trans (World.drewN_drewN _ _ _) (congrArg (World.drewN _) (Nat.add_assoc _ _ _))⟩)))
  repeat (go_quiet (first | (go_at_call 61; (with_reducible refine (sorrelref02_Arity.calls k a0 t168 _ A3.out).mono ?_); rintro e w' ⟨rfl, ⟨nd, rfl⟩⟩; (try first | exact ⟨rfl, _, World.drewN_drewN _ _ _⟩ | exact ⟨rfl, _, Eq.trans (World.drewN_drewN _ _ _) (congrArg (World.drewN _) (Nat.add_assoc _ _ _))⟩))); go_upto_region 2 with (first | (go_at_call 61; (with_reducible refine (sorrelref02_Arity.calls k a0 t168 _ A3.out).mono ?_); rintro e w' ⟨rfl, ⟨nd, rfl⟩⟩; (try first | exact ⟨rfl, _, World.drewN_drewN _ _ _⟩ | exact ⟨rfl, _, Eq.trans (World.drewN_drewN _ _ _) (congrArg (World.drewN _) (Nat.add_assoc _ _ _))⟩))))
  (try simp only [Act.put, List.setIfInBounds_toArray, List.set_cons_zero, List.set_cons_succ])
  go_cut [16] (fun v16 wc => ∃ (kq : Nat) (x16_3 : Bool), v16 = .bool x16_3 ∧ Aside0 (sorrelref06_Apply.j0 kq a0 l1 x16_3 = some (r1, r2)) ∧ Aside0 (kq ≤ k) ∧ Drawn0 w wc)
  case first =>
    have H := HC4.out
    clear HC4
    by_cases c5 : t168 ≤ 0
    · rw [if_pos c5] at H
      have c5b0 : decide (t168 ≤ 0) = true := decide_eq_true c5
      clear c5
      (first | rw [c5b0] | (simp only [i64_w, i32_w]; rw [c5b0]) | skip)
      have H' := Aside0.mk H
      clear H
      go_wp2
      repeat (go_quiet (fail); try go_wp2)
      go_meet
      case rel => exact ⟨_, (true), (by first | rfl | (simp; done) | (simp [*]; done)), H', ⟨by first | omega | exact Nat.le_refl _⟩, by repeat (first | exact Drawn0.refl _ | apply Drawn0.step)⟩
    · rw [if_neg c5] at H
      have c5b0 : decide (t168 ≤ 0) = false := decide_eq_false c5
      clear c5
      (first | rw [c5b0] | (simp only [i64_w, i32_w]; rw [c5b0]) | skip)
      have H' := Aside0.mk H
      clear H
      go_wp2
      repeat (go_quiet (fail); try go_wp2)
      go_meet
      case rel => exact ⟨_, ((t168 != (l1.length : Int))), (by first | rfl | (simp; done) | (simp [*]; done)), H', ⟨by first | omega | exact Nat.le_refl _⟩, by repeat (first | exact Drawn0.refl _ | apply Drawn0.step)⟩
  case rest =>
    clear HC4
    try clear c1
    try clear p2
    try clear c4
    try clear c5
    try clear c5b0
    obtain ⟨kq, x16_3, rfl, HA, HJ3, ⟨mc3, rfl⟩⟩ := hcut
    cases kq with
    | zero => exact absurd HA.out (by simp [sorrelref06_Apply.j0])
    | succ kj3 =>
      have H := HA.out
      clear HA
      simp only [sorrelref06_Apply.j0] at H
      by_cases c6 : x16_3 = true
      · subst c6
        have H1 : (some (0, 2)) = some (r1, r2) := by rw [if_pos rfl] at H; exact H
        clear H
        have H := H1
        clear H1
        simp only [Option.some.injEq, Prod.mk.injEq] at H
        obtain ⟨rfl, rfl⟩ := H
        go_wp2
        repeat (go_quiet (fail); try go_wp2)
        go_ret2
        exact ⟨by first | rfl | (simp; done) | (simp [*]; done), by repeat (first | exact Drawn0.refl _ | apply Drawn0.step)⟩
      · replace c6 := Bool.eq_false_iff.mpr c6
        subst c6
        have H1 : (if a0 = 3 then (if 0 < (l1.length : Int) then (some (wrap64 (-(rd l1 0)), 0)) else (none)) else (if a0 = 4 then (if 0 < (l1.length : Int) then (some (wrap64 ((-1) - (rd l1 0)), 0)) else (none)) else (if a0 = 17 then (if 0 < (l1.length : Int) then (sorrelref06_Apply.j1 kj3 a0 l1 ((rd l1 0) != 0)) else (none)) else (sorrelref06_Apply.j1 kj3 a0 l1 false)))) = some (r1, r2) := by rw [if_neg (show ¬ (false = true) by decide)] at H; exact H
        clear H
        have H := H1
        clear H1
        by_cases c7 : a0 = 3
        · rw [if_pos c7] at H
          have c7b0 : (a0 == 3) = true := beq_iff_eq.mpr c7
          have c7b1 : (a0 != 3) = false := bne_eq_false_iff_eq.mpr c7
          clear c7
          by_cases c8 : 0 < (l1.length : Int)
          · rw [if_pos c8] at H
            have c8b0 : decide (0 < (l1.length : Int)) = true := decide_eq_true c8
            have c8b1 : decide (0 < l1.length) = true := decide_eq_true (by omega)
            clear c8
            simp only [Option.some.injEq, Prod.mk.injEq] at H
            obtain ⟨rfl, rfl⟩ := H
            have p169 : 0 ≤ (0 : Int) := (by omega)
            have q169 : 0 < (l1.length : Int) := of_decide_eq_true (by first | (with_reducible assumption) | assumption)
            obtain ⟨ad169, e169, hx169_0⟩ := Kd.at_int HR1.out 0 p169 q169
            cases e169
            have qi169 : (0 < l1.length) = True := eq_true (by omega)
            (try rw [show ((0 : Int)).toNat = 0 from rfl] at hx169_0)
            (try rw [Addr.add_zero'] at hx169_0)
            replace p169 := eq_true p169
            replace q169 := eq_true q169
            go_wp2
            repeat (go_quiet (fail); try go_wp2)
            go_ret2
            exact ⟨by first | rfl | (simp; done) | (simp [*]; done), by repeat (first | exact Drawn0.refl _ | apply Drawn0.step)⟩
          · rw [if_neg c8] at H
            exact absurd H (by simp)
        · rw [if_neg c7] at H
          have c7b0 : (a0 == 3) = false := beq_eq_false_iff_ne.mpr c7
          have c7b1 : (a0 != 3) = true := bne_iff_ne.mpr c7
          by_cases c9 : a0 = 4
          · rw [if_pos c9] at H
            have c9b0 : (a0 == 4) = true := beq_iff_eq.mpr c9
            have c9b1 : (a0 != 4) = false := bne_eq_false_iff_eq.mpr c9
            clear c9
            by_cases c10 : 0 < (l1.length : Int)
            · rw [if_pos c10] at H
              have c10b0 : decide (0 < (l1.length : Int)) = true := decide_eq_true c10
              have c10b1 : decide (0 < l1.length) = true := decide_eq_true (by omega)
              clear c10
              simp only [Option.some.injEq, Prod.mk.injEq] at H
              obtain ⟨rfl, rfl⟩ := H
              have p170 : 0 ≤ (0 : Int) := (by omega)
              have q170 : 0 < (l1.length : Int) := of_decide_eq_true (by first | (with_reducible assumption) | assumption)
              obtain ⟨ad170, e170, hx170_0⟩ := Kd.at_int HR1.out 0 p170 q170
              cases e170
              have qi170 : (0 < l1.length) = True := eq_true (by omega)
              (try rw [show ((0 : Int)).toNat = 0 from rfl] at hx170_0)
              (try rw [Addr.add_zero'] at hx170_0)
              replace p170 := eq_true p170
              replace q170 := eq_true q170
              go_wp2
              repeat (go_quiet (fail); try go_wp2)
              go_ret2
              exact ⟨by first | rfl | (simp; done) | (simp [*]; done), by repeat (first | exact Drawn0.refl _ | apply Drawn0.step)⟩
            · rw [if_neg c10] at H
              exact absurd H (by simp)
          · rw [if_neg c9] at H
            have c9b0 : (a0 == 4) = false := beq_eq_false_iff_ne.mpr c9
            have c9b1 : (a0 != 4) = true := bne_iff_ne.mpr c9
            have HC11 := Aside0.mk H
            clear H
            go_upto_region 8 with (fail)
            repeat (go_quiet (fail); go_upto_region 8 with (fail))
            go_cut [31] (fun v31 wc => ∃ (kq : Nat) (x31_10 : Bool), v31 = .bool x31_10 ∧ Aside0 (sorrelref06_Apply.j1 kq a0 l1 x31_10 = some (r1, r2)) ∧ Aside0 (kq ≤ kj3) ∧ Drawn0 w wc)
            case first =>
              have H := HC11.out
              clear HC11
              by_cases c12 : a0 = 17
              · rw [if_pos c12] at H
                have c12b0 : (a0 == 17) = true := beq_iff_eq.mpr c12
                have c12b1 : (a0 != 17) = false := bne_eq_false_iff_eq.mpr c12
                clear c12
                (first | rw [c12b0] | (simp only [i64_w, i32_w]; rw [c12b0]) | skip)
                by_cases c13 : 0 < (l1.length : Int)
                · rw [if_pos c13] at H
                  have c13b0 : decide (0 < (l1.length : Int)) = true := decide_eq_true c13
                  have c13b1 : decide (0 < l1.length) = true := decide_eq_true (by omega)
                  clear c13
                  have H' := Aside0.mk H
                  clear H
                  have p171 : 0 ≤ (0 : Int) := (by omega)
                  have q171 : 0 < (l1.length : Int) := of_decide_eq_true (by first | (with_reducible assumption) | assumption)
                  obtain ⟨ad171, e171, hx171_0⟩ := Kd.at_int HR1.out 0 p171 q171
                  cases e171
                  have qi171 : (0 < l1.length) = True := eq_true (by omega)
                  (try rw [show ((0 : Int)).toNat = 0 from rfl] at hx171_0)
                  (try rw [Addr.add_zero'] at hx171_0)
                  replace p171 := eq_true p171
                  replace q171 := eq_true q171
                  go_wp2
                  repeat (go_quiet (fail); try go_wp2)
                  go_meet
                  case rel => exact ⟨_, (((rd l1 0) != 0)), (by first | rfl | (simp; done) | (simp [*]; done)), H', ⟨by have := HJ3.out; first | omega | exact Nat.le_refl _⟩, by repeat (first | exact Drawn0.refl _ | apply Drawn0.step)⟩
                · rw [if_neg c13] at H
                  exact absurd H (by simp)
              · rw [if_neg c12] at H
                have c12b0 : (a0 == 17) = false := beq_eq_false_iff_ne.mpr c12
                have c12b1 : (a0 != 17) = true := bne_iff_ne.mpr c12
                (first | rw [c12b0] | (simp only [i64_w, i32_w]; rw [c12b0]) | skip)
                have H' := Aside0.mk H
                clear H
                go_wp2
                repeat (go_quiet (fail); try go_wp2)
                go_meet
                case rel => exact ⟨_, (false), (by first | rfl | (simp; done) | (simp [*]; done)), H', ⟨by have := HJ3.out; first | omega | exact Nat.le_refl _⟩, by repeat (first | exact Drawn0.refl _ | apply Drawn0.step)⟩
            case rest =>
              clear HC11
              try clear c1
              try clear p1
              try clear q1
              try clear hx1
              try clear qi1
              try clear p2
              try clear c3
              try clear c4
              try clear c5
              try clear c5b0
              try clear c6
              try clear p6
              try clear c7
              try clear c7b0
              try clear c7b1
              try clear c8
              try clear c8b0
              try clear c8b1
              try clear c9
              try clear c9b0
              try clear c9b1
              try clear c10
              try clear c10b0
              try clear c10b1
              try clear c12
              try clear c12b0
              try clear c12b1
              try clear c13
              try clear c13b0
              try clear c13b1
              try clear hx169_0
              try clear hx170_0
              try clear hx171_0
              try clear p169
              try clear p170
              try clear p171
              try clear p2
              try clear q169
              try clear q170
              try clear q171
              obtain ⟨kq, x31_10, rfl, HA, HJ10, ⟨mc10, rfl⟩⟩ := hcut
              cases kq with
              | zero => exact absurd HA.out (by simp [sorrelref06_Apply.j1])
              | succ kj10 =>
                have H := HA.out
                clear HA
                simp only [sorrelref06_Apply.j1] at H
                by_cases c14 : x31_10 = true
                · subst c14
                  have H1 : (if 1 < (l1.length : Int) then (some (rd l1 1, 0)) else (none)) = some (r1, r2) := by rw [if_pos rfl] at H; exact H
                  clear H
                  have H := H1
                  clear H1
                  by_cases c15 : 1 < (l1.length : Int)
                  · rw [if_pos c15] at H
                    have c15b0 : decide (1 < (l1.length : Int)) = true := decide_eq_true c15
                    have c15b1 : decide (1 < l1.length) = true := decide_eq_true (by omega)
                    clear c15
                    simp only [Option.some.injEq, Prod.mk.injEq] at H
                    obtain ⟨rfl, rfl⟩ := H
                    have p172 : 0 ≤ (1 : Int) := (by omega)
                    have q172 : 1 < (l1.length : Int) := of_decide_eq_true (by first | (with_reducible assumption) | assumption)
                    obtain ⟨ad172, e172, hx172_0⟩ := Kd.at_int HR1.out 1 p172 q172
                    cases e172
                    (try simp only [show (1 : Int).toNat = 1 from rfl, Nat.reduceMul, Nat.reduceEqDiff, Go.Addr.add, ↓reduceIte] at hx172_0)
                    have qi172 : (1 < l1.length) = True := eq_true (by omega)
                    (try rw [show ((1 : Int)).toNat = 1 from rfl] at hx172_0)
                    replace p172 := eq_true p172
                    replace q172 := eq_true q172
                    go_wp2
                    repeat (go_quiet (fail); try go_wp2)
                    go_ret2
                    exact ⟨by first | rfl | (simp; done) | (simp [*]; done), by repeat (first | exact Drawn0.refl _ | apply Drawn0.step)⟩
                  · rw [if_neg c15] at H
                    exact absurd H (by simp)
                · replace c14 := Bool.eq_false_iff.mpr c14
                  subst c14
                  have H1 : (if a0 = 17 then (if 2 < (l1.length : Int) then (some (rd l1 2, 0)) else (none)) else (if a0 = 8 then (if 1 < (l1.length : Int) then (if (rd l1 1) = 0 then (some (0, 12)) else (if 0 < (l1.length : Int) then ((sorrelref06_two.f kj10 a0 (rd l1 0) (rd l1 1)).bind fun t177 => (some (t177, 0))) else (none))) else (none)) else (if a0 = 9 then (if 1 < (l1.length : Int) then (if (rd l1 1) = 0 then (some (0, 12)) else (if 0 < (l1.length : Int) then ((sorrelref06_two.f kj10 a0 (rd l1 0) (rd l1 1)).bind fun t181 => (some (t181, 0))) else (none))) else (none)) else (if 0 < (l1.length : Int) then (if 1 < (l1.length : Int) then ((sorrelref06_two.f kj10 a0 (rd l1 0) (rd l1 1)).bind fun t184 => (some (t184, 0))) else (none)) else (none))))) = some (r1, r2) := by rw [if_neg (show ¬ (false = true) by decide)] at H; exact H
                  clear H
                  have H := H1
                  clear H1
                  by_cases c16 : a0 = 17
                  · rw [if_pos c16] at H
                    have c16b0 : (a0 == 17) = true := beq_iff_eq.mpr c16
                    have c16b1 : (a0 != 17) = false := bne_eq_false_iff_eq.mpr c16
                    clear c16
                    by_cases c17 : 2 < (l1.length : Int)
                    · rw [if_pos c17] at H
                      have c17b0 : decide (2 < (l1.length : Int)) = true := decide_eq_true c17
                      have c17b1 : decide (2 < l1.length) = true := decide_eq_true (by omega)
                      clear c17
                      simp only [Option.some.injEq, Prod.mk.injEq] at H
                      obtain ⟨rfl, rfl⟩ := H
                      have p173 : 0 ≤ (2 : Int) := (by omega)
                      have q173 : 2 < (l1.length : Int) := of_decide_eq_true (by first | (with_reducible assumption) | assumption)
                      obtain ⟨ad173, e173, hx173_0⟩ := Kd.at_int HR1.out 2 p173 q173
                      cases e173
                      (try simp only [show (2 : Int).toNat = 2 from rfl, Nat.reduceMul, Nat.reduceEqDiff, Go.Addr.add, ↓reduceIte] at hx173_0)
                      have qi173 : (2 < l1.length) = True := eq_true (by omega)
                      (try rw [show ((2 : Int)).toNat = 2 from rfl] at hx173_0)
                      replace p173 := eq_true p173
                      replace q173 := eq_true q173
                      go_wp2
                      repeat (go_quiet (fail); try go_wp2)
                      go_ret2
                      exact ⟨by first | rfl | (simp; done) | (simp [*]; done), by repeat (first | exact Drawn0.refl _ | apply Drawn0.step)⟩
                    · rw [if_neg c17] at H
                      exact absurd H (by simp)
                  · rw [if_neg c16] at H
                    have c16b0 : (a0 == 17) = false := beq_eq_false_iff_ne.mpr c16
                    have c16b1 : (a0 != 17) = true := bne_iff_ne.mpr c16
                    by_cases c18 : a0 = 8
                    · rw [if_pos c18] at H
                      have c18b0 : (a0 == 8) = true := beq_iff_eq.mpr c18
                      have c18b1 : (a0 != 8) = false := bne_eq_false_iff_eq.mpr c18
                      clear c18
                      by_cases c19 : 1 < (l1.length : Int)
                      · rw [if_pos c19] at H
                        have c19b0 : decide (1 < (l1.length : Int)) = true := decide_eq_true c19
                        have c19b1 : decide (1 < l1.length) = true := decide_eq_true (by omega)
                        clear c19
                        by_cases c20 : (rd l1 1) = 0
                        · rw [if_pos c20] at H
                          have c20b0 : ((rd l1 1) == 0) = true := beq_iff_eq.mpr c20
                          have c20b1 : ((rd l1 1) != 0) = false := bne_eq_false_iff_eq.mpr c20
                          clear c20
                          simp only [Option.some.injEq, Prod.mk.injEq] at H
                          obtain ⟨rfl, rfl⟩ := H
                          have p174 : 0 ≤ (1 : Int) := (by omega)
                          have q174 : 1 < (l1.length : Int) := of_decide_eq_true (by first | (with_reducible assumption) | assumption)
                          obtain ⟨ad174, e174, hx174_0⟩ := Kd.at_int HR1.out 1 p174 q174
                          cases e174
                          (try simp only [show (1 : Int).toNat = 1 from rfl, Nat.reduceMul, Nat.reduceEqDiff, Go.Addr.add, ↓reduceIte] at hx174_0)
                          have qi174 : (1 < l1.length) = True := eq_true (by omega)
                          (try rw [show ((1 : Int)).toNat = 1 from rfl] at hx174_0)
                          replace p174 := eq_true p174
                          replace q174 := eq_true q174
                          go_wp2
                          repeat (go_quiet (fail); try go_wp2)
                          go_ret2
                          exact ⟨by first | rfl | (simp; done) | (simp [*]; done), by repeat (first | exact Drawn0.refl _ | apply Drawn0.step)⟩
                        · rw [if_neg c20] at H
                          have c20b0 : ((rd l1 1) == 0) = false := beq_eq_false_iff_ne.mpr c20
                          have c20b1 : ((rd l1 1) != 0) = true := bne_iff_ne.mpr c20
                          by_cases c21 : 0 < (l1.length : Int)
                          · rw [if_pos c21] at H
                            have c21b0 : decide (0 < (l1.length : Int)) = true := decide_eq_true c21
                            have c21b1 : decide (0 < l1.length) = true := decide_eq_true (by omega)
                            clear c21
                            replace H := Option.bind_eq_some_iff.mp H
                            obtain ⟨t177, A220, H⟩ := H
                            replace H : (some (t177, 0)) = some (r1, r2) := H
                            have A22 := Aside0.mk A220
                            clear A220
                            simp only [Option.some.injEq, Prod.mk.injEq] at H
                            obtain ⟨rfl, rfl⟩ := H
                            have p174 : 0 ≤ (1 : Int) := (by omega)
                            have q174 : 1 < (l1.length : Int) := of_decide_eq_true (by first | (with_reducible assumption) | assumption)
                            obtain ⟨ad174, e174, hx174_0⟩ := Kd.at_int HR1.out 1 p174 q174
                            cases e174
                            (try simp only [show (1 : Int).toNat = 1 from rfl, Nat.reduceMul, Nat.reduceEqDiff, Go.Addr.add, ↓reduceIte] at hx174_0)
                            have qi174 : (1 < l1.length) = True := eq_true (by omega)
                            (try rw [show ((1 : Int)).toNat = 1 from rfl] at hx174_0)
                            replace p174 := eq_true p174
                            replace q174 := eq_true q174
                            have p175 : 0 ≤ (0 : Int) := (by omega)
                            have q175 : 0 < (l1.length : Int) := of_decide_eq_true (by first | (with_reducible assumption) | assumption)
                            obtain ⟨ad175, e175, hx175_0⟩ := Kd.at_int HR1.out 0 p175 q175
                            obtain rfl : ad174 = ad175 := (by injection e175)
                            have qi175 : (0 < l1.length) = True := eq_true (by omega)
                            (try rw [show ((0 : Int)).toNat = 0 from rfl] at hx175_0)
                            (try rw [Addr.add_zero'] at hx175_0)
                            replace p175 := eq_true p175
                            replace q175 := eq_true q175
                            have p176 : 0 ≤ (1 : Int) := (by omega)
                            have q176 : 1 < (l1.length : Int) := of_decide_eq_true (by first | (with_reducible assumption) | assumption)
                            obtain ⟨ad176, e176, hx176_0⟩ := Kd.at_int HR1.out 1 p176 q176
                            obtain rfl : ad174 = ad176 := (by injection e176)
                            (try simp only [show (1 : Int).toNat = 1 from rfl, Nat.reduceMul, Nat.reduceEqDiff, Go.Addr.add, ↓reduceIte] at hx176_0)
                            have qi176 : (1 < l1.length) = True := eq_true (by omega)
                            (try rw [show ((1 : Int)).toNat = 1 from rfl] at hx176_0)
                            replace p176 := eq_true p176
                            replace q176 := eq_true q176
                            go_wp2_with (first | (go_at_call 82; (with_reducible refine (sorrelref06_two.calls kj10 a0 (rd l1 0) (rd l1 1) t177 _ A22.out).mono ?_); rintro e w' ⟨rfl, ⟨nd, rfl⟩⟩; (try first | exact ⟨rfl, _, World.drewN_drewN _ _ _⟩ | exact ⟨rfl, _, Eq.trans (World.drewN_drewN _ _ _) (congrArg (World.drewN _) (Nat.add_assoc _ _ _))⟩)))
                            repeat (go_quiet (first | (go_at_call 82; (with_reducible refine (sorrelref06_two.calls kj10 a0 (rd l1 0) (rd l1 1) t177 _ A22.out).mono ?_); rintro e w' ⟨rfl, ⟨nd, rfl⟩⟩; (try first | exact ⟨rfl, _, World.drewN_drewN _ _ _⟩ | exact ⟨rfl, _, Eq.trans (World.drewN_drewN _ _ _) (congrArg (World.drewN _) (Nat.add_assoc _ _ _))⟩))); try go_wp2_with (first | (go_at_call 82; (with_reducible refine (sorrelref06_two.calls kj10 a0 (rd l1 0) (rd l1 1) t177 _ A22.out).mono ?_); rintro e w' ⟨rfl, ⟨nd, rfl⟩⟩; (try first | exact ⟨rfl, _, World.drewN_drewN _ _ _⟩ | exact ⟨rfl, _, Eq.trans (World.drewN_drewN _ _ _) (congrArg (World.drewN _) (Nat.add_assoc _ _ _))⟩))))
                            go_ret2
                            exact ⟨by first | rfl | (simp; done) | (simp [*]; done), by repeat (first | exact Drawn0.refl _ | apply Drawn0.step)⟩
                          · rw [if_neg c21] at H
                            exact absurd H (by simp)
                      · rw [if_neg c19] at H
                        exact absurd H (by simp)
                    · rw [if_neg c18] at H
                      have c18b0 : (a0 == 8) = false := beq_eq_false_iff_ne.mpr c18
                      have c18b1 : (a0 != 8) = true := bne_iff_ne.mpr c18
                      by_cases c23 : a0 = 9
                      · rw [if_pos c23] at H
                        have c23b0 : (a0 == 9) = true := beq_iff_eq.mpr c23
                        have c23b1 : (a0 != 9) = false := bne_eq_false_iff_eq.mpr c23
                        clear c23
                        by_cases c24 : 1 < (l1.length : Int)
                        · rw [if_pos c24] at H
                          have c24b0 : decide (1 < (l1.length : Int)) = true := decide_eq_true c24
                          have c24b1 : decide (1 < l1.length) = true := decide_eq_true (by omega)
                          clear c24
                          by_cases c25 : (rd l1 1) = 0
                          · rw [if_pos c25] at H
                            have c25b0 : ((rd l1 1) == 0) = true := beq_iff_eq.mpr c25
                            have c25b1 : ((rd l1 1) != 0) = false := bne_eq_false_iff_eq.mpr c25
                            clear c25
                            simp only [Option.some.injEq, Prod.mk.injEq] at H
                            obtain ⟨rfl, rfl⟩ := H
                            have p178 : 0 ≤ (1 : Int) := (by omega)
                            have q178 : 1 < (l1.length : Int) := of_decide_eq_true (by first | (with_reducible assumption) | assumption)
                            obtain ⟨ad178, e178, hx178_0⟩ := Kd.at_int HR1.out 1 p178 q178
                            cases e178
                            (try simp only [show (1 : Int).toNat = 1 from rfl, Nat.reduceMul, Nat.reduceEqDiff, Go.Addr.add, ↓reduceIte] at hx178_0)
                            have qi178 : (1 < l1.length) = True := eq_true (by omega)
                            (try rw [show ((1 : Int)).toNat = 1 from rfl] at hx178_0)
                            replace p178 := eq_true p178
                            replace q178 := eq_true q178
                            go_wp2
                            repeat (go_quiet (fail); try go_wp2)
                            go_ret2
                            exact ⟨by first | rfl | (simp; done) | (simp [*]; done), by repeat (first | exact Drawn0.refl _ | apply Drawn0.step)⟩
                          · rw [if_neg c25] at H
                            have c25b0 : ((rd l1 1) == 0) = false := beq_eq_false_iff_ne.mpr c25
                            have c25b1 : ((rd l1 1) != 0) = true := bne_iff_ne.mpr c25
                            by_cases c26 : 0 < (l1.length : Int)
                            · rw [if_pos c26] at H
                              have c26b0 : decide (0 < (l1.length : Int)) = true := decide_eq_true c26
                              have c26b1 : decide (0 < l1.length) = true := decide_eq_true (by omega)
                              clear c26
                              replace H := Option.bind_eq_some_iff.mp H
                              obtain ⟨t181, A270, H⟩ := H
                              replace H : (some (t181, 0)) = some (r1, r2) := H
                              have A27 := Aside0.mk A270
                              clear A270
                              simp only [Option.some.injEq, Prod.mk.injEq] at H
                              obtain ⟨rfl, rfl⟩ := H
                              have p178 : 0 ≤ (1 : Int) := (by omega)
                              have q178 : 1 < (l1.length : Int) := of_decide_eq_true (by first | (with_reducible assumption) | assumption)
                              obtain ⟨ad178, e178, hx178_0⟩ := Kd.at_int HR1.out 1 p178 q178
                              cases e178
                              (try simp only [show (1 : Int).toNat = 1 from rfl, Nat.reduceMul, Nat.reduceEqDiff, Go.Addr.add, ↓reduceIte] at hx178_0)
                              have qi178 : (1 < l1.length) = True := eq_true (by omega)
                              (try rw [show ((1 : Int)).toNat = 1 from rfl] at hx178_0)
                              replace p178 := eq_true p178
                              replace q178 := eq_true q178
                              have p179 : 0 ≤ (0 : Int) := (by omega)
                              have q179 : 0 < (l1.length : Int) := of_decide_eq_true (by first | (with_reducible assumption) | assumption)
                              obtain ⟨ad179, e179, hx179_0⟩ := Kd.at_int HR1.out 0 p179 q179
                              obtain rfl : ad178 = ad179 := (by injection e179)
                              have qi179 : (0 < l1.length) = True := eq_true (by omega)
                              (try rw [show ((0 : Int)).toNat = 0 from rfl] at hx179_0)
                              (try rw [Addr.add_zero'] at hx179_0)
                              replace p179 := eq_true p179
                              replace q179 := eq_true q179
                              have p180 : 0 ≤ (1 : Int) := (by omega)
                              have q180 : 1 < (l1.length : Int) := of_decide_eq_true (by first | (with_reducible assumption) | assumption)
                              obtain ⟨ad180, e180, hx180_0⟩ := Kd.at_int HR1.out 1 p180 q180
                              obtain rfl : ad178 = ad180 := (by injection e180)
                              (try simp only [show (1 : Int).toNat = 1 from rfl, Nat.reduceMul, Nat.reduceEqDiff, Go.Addr.add, ↓reduceIte] at hx180_0)
                              have qi180 : (1 < l1.length) = True := eq_true (by omega)
                              (try rw [show ((1 : Int)).toNat = 1 from rfl] at hx180_0)
                              replace p180 := eq_true p180
                              replace q180 := eq_true q180
                              go_wp2_with (first | (go_at_call 82; (with_reducible refine (sorrelref06_two.calls kj10 a0 (rd l1 0) (rd l1 1) t181 _ A27.out).mono ?_); rintro e w' ⟨rfl, ⟨nd, rfl⟩⟩; (try first | exact ⟨rfl, _, World.drewN_drewN _ _ _⟩ | exact ⟨rfl, _, Eq.trans (World.drewN_drewN _ _ _) (congrArg (World.drewN _) (Nat.add_assoc _ _ _))⟩)))
                              repeat (go_quiet (first | (go_at_call 82; (with_reducible refine (sorrelref06_two.calls kj10 a0 (rd l1 0) (rd l1 1) t181 _ A27.out).mono ?_); rintro e w' ⟨rfl, ⟨nd, rfl⟩⟩; (try first | exact ⟨rfl, _, World.drewN_drewN _ _ _⟩ | exact ⟨rfl, _, Eq.trans (World.drewN_drewN _ _ _) (congrArg (World.drewN _) (Nat.add_assoc _ _ _))⟩))); try go_wp2_with (first | (go_at_call 82; (with_reducible refine (sorrelref06_two.calls kj10 a0 (rd l1 0) (rd l1 1) t181 _ A27.out).mono ?_); rintro e w' ⟨rfl, ⟨nd, rfl⟩⟩; (try first | exact ⟨rfl, _, World.drewN_drewN _ _ _⟩ | exact ⟨rfl, _, Eq.trans (World.drewN_drewN _ _ _) (congrArg (World.drewN _) (Nat.add_assoc _ _ _))⟩))))
                              go_ret2
                              exact ⟨by first | rfl | (simp; done) | (simp [*]; done), by repeat (first | exact Drawn0.refl _ | apply Drawn0.step)⟩
                            · rw [if_neg c26] at H
                              exact absurd H (by simp)
                        · rw [if_neg c24] at H
                          exact absurd H (by simp)
                      · rw [if_neg c23] at H
                        have c23b0 : (a0 == 9) = false := beq_eq_false_iff_ne.mpr c23
                        have c23b1 : (a0 != 9) = true := bne_iff_ne.mpr c23
                        by_cases c28 : 0 < (l1.length : Int)
                        · rw [if_pos c28] at H
                          have c28b0 : decide (0 < (l1.length : Int)) = true := decide_eq_true c28
                          have c28b1 : decide (0 < l1.length) = true := decide_eq_true (by omega)
                          clear c28
                          by_cases c29 : 1 < (l1.length : Int)
                          · rw [if_pos c29] at H
                            have c29b0 : decide (1 < (l1.length : Int)) = true := decide_eq_true c29
                            have c29b1 : decide (1 < l1.length) = true := decide_eq_true (by omega)
                            clear c29
                            replace H := Option.bind_eq_some_iff.mp H
                            obtain ⟨t184, A300, H⟩ := H
                            replace H : (some (t184, 0)) = some (r1, r2) := H
                            have A30 := Aside0.mk A300
                            clear A300
                            simp only [Option.some.injEq, Prod.mk.injEq] at H
                            obtain ⟨rfl, rfl⟩ := H
                            have p182 : 0 ≤ (0 : Int) := (by omega)
                            have q182 : 0 < (l1.length : Int) := of_decide_eq_true (by first | (with_reducible assumption) | assumption)
                            obtain ⟨ad182, e182, hx182_0⟩ := Kd.at_int HR1.out 0 p182 q182
                            cases e182
                            have qi182 : (0 < l1.length) = True := eq_true (by omega)
                            (try rw [show ((0 : Int)).toNat = 0 from rfl] at hx182_0)
                            (try rw [Addr.add_zero'] at hx182_0)
                            replace p182 := eq_true p182
                            replace q182 := eq_true q182
                            have p183 : 0 ≤ (1 : Int) := (by omega)
                            have q183 : 1 < (l1.length : Int) := of_decide_eq_true (by first | (with_reducible assumption) | assumption)
                            obtain ⟨ad183, e183, hx183_0⟩ := Kd.at_int HR1.out 1 p183 q183
                            obtain rfl : ad182 = ad183 := (by injection e183)
                            (try simp only [show (1 : Int).toNat = 1 from rfl, Nat.reduceMul, Nat.reduceEqDiff, Go.Addr.add, ↓reduceIte] at hx183_0)
                            have qi183 : (1 < l1.length) = True := eq_true (by omega)
                            (try rw [show ((1 : Int)).toNat = 1 from rfl] at hx183_0)
                            replace p183 := eq_true p183
                            replace q183 := eq_true q183
                            go_wp2_with (first | (go_at_call 82; (with_reducible refine (sorrelref06_two.calls kj10 a0 (rd l1 0) (rd l1 1) t184 _ A30.out).mono ?_); rintro e w' ⟨rfl, ⟨nd, rfl⟩⟩; (try first | exact ⟨rfl, _, World.drewN_drewN _ _ _⟩ | exact ⟨rfl, _, Eq.trans (World.drewN_drewN _ _ _) (congrArg (World.drewN _) (Nat.add_assoc _ _ _))⟩)))
                            repeat (go_quiet (first | (go_at_call 82; (with_reducible refine (sorrelref06_two.calls kj10 a0 (rd l1 0) (rd l1 1) t184 _ A30.out).mono ?_); rintro e w' ⟨rfl, ⟨nd, rfl⟩⟩; (try first | exact ⟨rfl, _, World.drewN_drewN _ _ _⟩ | exact ⟨rfl, _, Eq.trans (World.drewN_drewN _ _ _) (congrArg (World.drewN _) (Nat.add_assoc _ _ _))⟩))); try go_wp2_with (first | (go_at_call 82; (with_reducible refine (sorrelref06_two.calls kj10 a0 (rd l1 0) (rd l1 1) t184 _ A30.out).mono ?_); rintro e w' ⟨rfl, ⟨nd, rfl⟩⟩; (try first | exact ⟨rfl, _, World.drewN_drewN _ _ _⟩ | exact ⟨rfl, _, Eq.trans (World.drewN_drewN _ _ _) (congrArg (World.drewN _) (Nat.add_assoc _ _ _))⟩))))
                            go_ret2
                            exact ⟨by first | rfl | (simp; done) | (simp [*]; done), by repeat (first | exact Drawn0.refl _ | apply Drawn0.step)⟩
                          · rw [if_neg c29] at H
                            exact absurd H (by simp)
                        · rw [if_neg c28] at H
                          exact absurd H (by simp)

-- NOT PRINTED: function 21 (sorrelref23_Trace)

-- NOT PRINTED: function 19 (sorrelref23_Run)

-- NOT PRINTED: function 20 (vm_Trace)

/-! ### sorrellaw24_nums: function 22 -/
def sorrellaw24_nums.l0 : Nat → List Int → List Int → Int → Option (Bool)
  | 0, _, _, _ => none
  | k + 1, x0, x1, x5 => if x5 < (x0.length : Int) then (if 0 ≤ x5 then (if x5 < (x1.length : Int) then (if (rd x0 x5) = (rd x1 x5) then (sorrellaw24_nums.l0 k x0 x1 (wrap64 (x5 + 1))) else (some false)) else (none)) else (none)) else (some true)
def sorrellaw24_nums.f (k : Nat) (l0 : List Int) (l1 : List Int) : Option (Bool) := if (l0.length : Int) = (l1.length : Int) then (sorrellaw24_nums.l0 k l0 l1 0) else (some false)
theorem sorrellaw24_nums.mono_l : ∀ k, (∀ y0 y1 y2, LeO (sorrellaw24_nums.l0 k y0 y1 y2) (sorrellaw24_nums.l0 (k + 1) y0 y1 y2))
  | 0 => fun _ _ _ r h => by simp [sorrellaw24_nums.l0] at h
  | k + 1 => by
    have ih0 := sorrellaw24_nums.mono_l k
    · intro y0 y1 y2
      unfold sorrellaw24_nums.l0
      repeat' first
      | (with_reducible exact ih0 _ _ _)
      | (with_reducible exact LeO.refl _)
      | (with_reducible exact LeO.none _)
      | (with_reducible refine LeO.ite ?_ ?_)
      | (with_reducible refine LeO.bind ?_ (fun _ => ?_))
      | exact ih0 _ _ _
      | exact LeO.none _
      | refine LeO.ite ?_ ?_
      | refine LeO.bind ?_ (fun _ => ?_)
theorem sorrellaw24_nums.mono : ∀ a0 a1 k, LeO (sorrellaw24_nums.f k a0 a1) (sorrellaw24_nums.f (k + 1) a0 a1) := by
  intro a0 a1 k
  have ih0 := sorrellaw24_nums.mono_l k
  unfold sorrellaw24_nums.f
  repeat' first
      | (with_reducible exact ih0 _ _ _)
      | (with_reducible exact LeO.refl _)
      | (with_reducible exact LeO.none _)
      | (with_reducible refine LeO.ite ?_ ?_)
      | (with_reducible refine LeO.bind ?_ (fun _ => ?_))
      | exact ih0 _ _ _
      | exact LeO.none _
      | refine LeO.ite ?_ ?_
      | refine LeO.bind ?_ (fun _ => ?_)
set_option maxHeartbeats 8000000 in
set_option maxRecDepth 100000 in
theorem sorrellaw24_nums.calls (k : Nat) (A0 : Option Addr) (c0 : Nat) (l0 : List Int) (A1 : Option Addr) (c1 : Nat) (l1 : List Int) (r : Bool) (w : World) (hr0 : Kd.C (Kd.int .i64) w A0 l0.length l0) (hc0 : l0.length ≤ c0) (hr1 : Kd.C (Kd.int .i64) w A1 l1.length l1) (hc1 : l1.length ≤ c1) (h : sorrellaw24_nums.f k l0 l1 = some r) :
    Calls Tryd.prog 22 #[.slice A0 l0.length c0, .slice A1 l1.length c1] w fun e w' => e = .returned (.bool r) ∧ Drawn0 w w' := by
  have HR0 := Aside0.mk hr0
  have HC0 := Aside0.mk hc0
  clear hr0 hc0
  have HR1 := Aside0.mk hr1
  have HC1 := Aside0.mk hc1
  clear hr1 hc1
  have H : (if (l0.length : Int) = (l1.length : Int) then (sorrellaw24_nums.l0 k l0 l1 0) else (some false)) = some r := h
  clear h
  by_cases c3 : (l0.length : Int) = (l1.length : Int)
  · rw [if_pos c3] at H
    have c3b0 : ((l0.length : Int) == (l1.length : Int)) = true := beq_iff_eq.mpr c3
    have c3b1 : ((l0.length : Int) != (l1.length : Int)) = false := bne_eq_false_iff_eq.mpr c3
    have c3b2 : (l0.length == l1.length) = true := by first | simpa using c3 | (simp at c3 ⊢; omega)
    clear c3
    have H' := Aside0.mk H
    clear H
    go_enter Tryd.func22, Tryd.ntmps22
    go_wp2
    repeat (go_quiet (fail); try go_wp2)
    go_loopg [5] k (fun kq v5 w' => ∃ (x5_1 : Int), v5 = .int .i64 x5_1 ∧ Aside0 (sorrellaw24_nums.l0 kq l0 l1 x5_1 = some r) ∧ Aside0 (kq ≤ k) ∧ Drawn0 w w')
    case atStart => exact ⟨(0), (by first | rfl | (simp; done) | (simp [*]; done)), H', ⟨Nat.le_refl _⟩, by repeat (first | exact Drawn0.refl _ | apply Drawn0.step)⟩
    case round =>
      clear H'
      try clear c1
      try clear c2
      try clear p2
      try clear c3
      try clear c3b0
      try clear c3b1
      try clear c3b2
      obtain ⟨x5_1, rfl, HA, HK1, ⟨m1, rfl⟩⟩ := hrel
      cases gk with
      | zero => exact absurd HA.out (by simp [sorrellaw24_nums.l0])
      | succ k1 =>
        have H := HA.out
        clear HA
        simp only [sorrellaw24_nums.l0] at H
        by_cases c4 : x5_1 < (l0.length : Int)
        · rw [if_pos c4] at H
          have c4b0 : decide (x5_1 < (l0.length : Int)) = true := decide_eq_true c4
          clear c4
          by_cases c5 : 0 ≤ x5_1
          · rw [if_pos c5] at H
            have c5b0 : decide (0 ≤ x5_1) = true := decide_eq_true c5
            clear c5
            by_cases c6 : x5_1 < (l1.length : Int)
            · rw [if_pos c6] at H
              have c6b0 : decide (x5_1 < (l1.length : Int)) = true := decide_eq_true c6
              clear c6
              by_cases c7 : (rd l0 x5_1) = (rd l1 x5_1)
              · rw [if_pos c7] at H
                have c7b0 : ((rd l0 x5_1) == (rd l1 x5_1)) = true := beq_iff_eq.mpr c7
                have c7b1 : ((rd l0 x5_1) != (rd l1 x5_1)) = false := bne_eq_false_iff_eq.mpr c7
                clear c7
                have H' := Aside0.mk H
                clear H
                have p187 : 0 ≤ (x5_1 : Int) := of_decide_eq_true (by first | (with_reducible assumption) | assumption)
                have q187 : x5_1 < (l0.length : Int) := of_decide_eq_true (by first | (with_reducible assumption) | assumption)
                obtain ⟨ad187, e187, hx187_0⟩ := Kd.at_int HR0.out x5_1 p187 q187
                cases e187
                replace p187 := eq_true p187
                replace q187 := eq_true q187
                have p188 : 0 ≤ (x5_1 : Int) := of_decide_eq_true (by first | (with_reducible assumption) | assumption)
                have q188 : x5_1 < (l1.length : Int) := of_decide_eq_true (by first | (with_reducible assumption) | assumption)
                obtain ⟨ad188, e188, hx188_0⟩ := Kd.at_int HR1.out x5_1 p188 q188
                cases e188
                replace p188 := eq_true p188
                replace q188 := eq_true q188
                go_wp2
                repeat (go_quiet (fail); try go_wp2)
                go_roundg k1
                case measure => have := HK1.out; omega
                case rel => exact ⟨(wrap64 (x5_1 + 1)), (by first | rfl | (simp; done) | (simp [*]; done)), H', ⟨by have := HK1.out; omega⟩, by repeat (first | exact Drawn0.refl _ | apply Drawn0.step)⟩
              · rw [if_neg c7] at H
                have c7b0 : ((rd l0 x5_1) == (rd l1 x5_1)) = false := beq_eq_false_iff_ne.mpr c7
                have c7b1 : ((rd l0 x5_1) != (rd l1 x5_1)) = true := bne_iff_ne.mpr c7
                obtain rfl := Option.some.inj H
                have p187 : 0 ≤ (x5_1 : Int) := of_decide_eq_true (by first | (with_reducible assumption) | assumption)
                have q187 : x5_1 < (l0.length : Int) := of_decide_eq_true (by first | (with_reducible assumption) | assumption)
                obtain ⟨ad187, e187, hx187_0⟩ := Kd.at_int HR0.out x5_1 p187 q187
                cases e187
                replace p187 := eq_true p187
                replace q187 := eq_true q187
                have p188 : 0 ≤ (x5_1 : Int) := of_decide_eq_true (by first | (with_reducible assumption) | assumption)
                have q188 : x5_1 < (l1.length : Int) := of_decide_eq_true (by first | (with_reducible assumption) | assumption)
                obtain ⟨ad188, e188, hx188_0⟩ := Kd.at_int HR1.out x5_1 p188 q188
                cases e188
                replace p188 := eq_true p188
                replace q188 := eq_true q188
                go_wp2
                repeat (go_quiet (fail); try go_wp2)
                go_ret
                exact ⟨by first | rfl | (simp; done) | (simp [*]; done), by repeat (first | exact Drawn0.refl _ | apply Drawn0.step)⟩
            · rw [if_neg c6] at H
              exact absurd H (by simp)
          · rw [if_neg c5] at H
            exact absurd H (by simp)
        · rw [if_neg c4] at H
          have c4b0 : decide (x5_1 < (l0.length : Int)) = false := decide_eq_false c4
          clear c4
          obtain rfl := Option.some.inj H
          go_wp2
          repeat (go_quiet (fail); try go_wp2)
          go_ret
          exact ⟨by first | rfl | (simp; done) | (simp [*]; done), by repeat (first | exact Drawn0.refl _ | apply Drawn0.step)⟩
  · rw [if_neg c3] at H
    have c3b0 : ((l0.length : Int) == (l1.length : Int)) = false := beq_eq_false_iff_ne.mpr c3
    have c3b1 : ((l0.length : Int) != (l1.length : Int)) = true := bne_iff_ne.mpr c3
    have c3b2 : (l0.length == l1.length) = false := by first | simpa using c3 | (simp at c3 ⊢; omega)
    obtain rfl := Option.some.inj H
    go_enter Tryd.func22, Tryd.ntmps22
    go_wp2
    repeat (go_quiet (fail); try go_wp2)
    go_ret
    exact ⟨by first | rfl | (simp; done) | (simp [*]; done), by repeat (first | exact Drawn0.refl _ | apply Drawn0.step)⟩

-- NOT PRINTED: function 4 (sorrellaw24_VmPlays)

end Go.Proofs.YtbbembhfnapadaaDoor.PVmPlays
