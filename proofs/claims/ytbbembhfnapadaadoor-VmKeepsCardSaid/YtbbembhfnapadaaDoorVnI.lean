/- The walks of SameInts and Same (of equals) and of Apart (of lists of numbers). -/
import Derived.Test.YtbbembhfnapadaaDoorVnH
import Derived.BigQuiet
namespace Go.Proofs.YtbbembhfnapadaaDoor
open Go.RowKit Go.Proofs.YtbbembhfnapadaaDoorW.PrintWords Go.Proofs.YtbbembhfnapadaaDoorW.PrintLast Go.Proofs.YtbbembhfnapadaaDoorW.PrintMore PVmPlays Pl
set_option linter.unusedVariables false
set_option linter.unusedSimpArgs false

set_option maxHeartbeats 1000000 in
theorem sameints_calls (l : List Int) (A0 A1 : Option Addr) (c0 c1 : Nat) (w : World) (h0 : (Kd.int .i64).C w A0 l.length l) (h1 : (Kd.int .i64).C w A1 l.length l) (hl : l.length ≤ 140737488351232) :
    Calls Tryd.prog 47 #[.slice A0 l.length c0, .slice A1 l.length c1] w fun e w' => e = .returned (.bool true) ∧ Below w.heap.size w w' := by
  have HC0 := Aside0.mk h0; have HC1 := Aside0.mk h1; have HL := Aside0.mk hl
  clear h0 h1 hl
  go_enter Tryd.func47, Tryd.ntmps47
  go_wp2_with fail
  go_loopw [5] (fun v5 w' => ∃ j : Nat, v5 = .int .i64 j ∧ j ≤ l.length ∧ Aside0 (Below w.heap.size w w')) (fun v5 _ => l.length - (intOf v5).toNat)
  case atStart => exact ⟨0, rfl, Nat.zero_le _, ⟨Below.refl _ _⟩⟩
  case round =>
    obtain ⟨j, rfl, hj, HB⟩ := hrel
    by_cases j2 : j < l.length
    · have b1 : decide ((j : Int) < (l.length : Int)) = true := decide_eq_true (by omega)
      obtain ⟨a0, eA0, x0⟩ := int_at (Kd.C_below HC0.out HB.out) (j : Int) (by omega) (by omega)
      obtain ⟨a1, eA1, x1⟩ := int_at (Kd.C_below HC1.out HB.out) (j : Int) (by omega) (by omega)
      cases eA0; cases eA1
      rw [Int.toNat_natCast] at x0 x1
      have q0 : (0 ≤ (j : Int)) = True := eq_true (by omega)
      have q1 : ((j : Int) < (l.length : Int)) = True := eq_true (by omega)
      have hw : wrap64 ((j : Int) + 1) = ((j + 1 : Nat) : Int) := by unfold wrap64; have := HL.out; omega
      have HW := Aside0.mk hw; have HJ := Aside0.mk j2
      generalize rd l (j : Int) = q at *
      clear hw j2 hj
      go_upto_region 6 with (fail)
      go_quiet (fail)
      go_wp2_with fail
      refine ⟨⟨j + 1, by rw [HW.out], HJ.out, ⟨pw_below_drewN HB.out _⟩⟩, ?_⟩
      rw [HW.out]
      have := HJ.out
      simp [intOf]
      omega
    · have b1 : decide ((j : Int) < (l.length : Int)) = false := decide_eq_false (by omega)
      have hjl : j = l.length := by omega
      subst hjl
      clear j2 hj
      go_wp2_with fail
      go_ret
      exact ⟨rfl, HB.out⟩

set_option maxRecDepth 20000 in
set_option maxHeartbeats 1000000 in
theorem refsame_calls (zs : List S37) (A A' : Option Addr) (c c' : Nat) (regs out : Int) (w : World) (hX : Kd.C k37 w A zs.length zs) (hX' : Kd.C k37 w A' zs.length zs) (hz : zs.length ≤ 140737488351232) (hs : ∀ x ∈ zs, x.f5.length ≤ 140737488351232) :
    Calls Tryd.prog 23 #[.agg #[.slice A zs.length c, .int .i64 regs, .int .i64 out], .agg #[.slice A' zs.length c', .int .i64 regs, .int .i64 out]] w fun e w' => e = .returned (.bool true) ∧ Below w.heap.size w w' := by
  have HX := Aside0.mk hX; have HX' := Aside0.mk hX'; have HZ := Aside0.mk hz; have HS := Aside0.mk hs
  clear hX hX' hz hs
  have hu37 := Tryd.underlying37
  have hu24 := Tryd.underlying24
  go_enter Tryd.func23, Tryd.ntmps23
  go_upto_region 1 with (fail)
  refine wp_forget (fun W' => Below w.heap.size w W' ∧ W'.heap[w.heap.size]? = some (.cells #[.slice A zs.length c, .int .i64 regs, .int .i64 out] 24 (0, 0)) ∧ W'.heap[w.heap.size + 1]? = some (.cells #[.slice A' zs.length c', .int .i64 regs, .int .i64 out] 24 (0, 0))) ⟨below_alloc (below_alloc (Below.refl _ _) _) _, blk_alloc (blk_new w _) _, blk_new1 w _ _⟩ ?_
  rintro w1 ⟨hb1, hk1, hk2⟩
  have HB1 := Aside0.mk hb1; have K1 := Aside0.mk hk1; have K2 := Aside0.mk hk2
  clear hb1 hk1 hk2
  have c10 : w1.cell? ⟨w.heap.size, 0, none⟩ = some (.slice A zs.length c) := (blk_cell K1.out 0).trans rfl
  have c11 : w1.cell? ⟨w.heap.size, 1, none⟩ = some (.int .i64 regs) := (blk_cell K1.out 1).trans rfl
  have c12 : w1.cell? ⟨w.heap.size, 2, none⟩ = some (.int .i64 out) := (blk_cell K1.out 2).trans rfl
  have c20 : w1.cell? ⟨w.heap.size + 1, 0, none⟩ = some (.slice A' zs.length c') := (blk_cell K2.out 0).trans rfl
  have c21 : w1.cell? ⟨w.heap.size + 1, 1, none⟩ = some (.int .i64 regs) := (blk_cell K2.out 1).trans rfl
  have c22 : w1.cell? ⟨w.heap.size + 1, 2, none⟩ = some (.int .i64 out) := (blk_cell K2.out 2).trans rfl
  go_wp2_with fail
  go_loopw [5, 6, 7] (fun v5 _ _ w' => ∃ i : Nat, v5 = .int .i64 i ∧ i ≤ zs.length ∧ Aside0 (Below w1.heap.size w1 w')) (fun v5 _ _ _ => zs.length - (intOf v5).toNat)
  case atStart => exact ⟨0, rfl, Nat.zero_le _, ⟨Below.refl _ _⟩⟩
  case round =>
    obtain ⟨i, rfl, hi, HB⟩ := hrel
    obtain ⟨wo, hwo⟩ : ∃ wo : World, wo = wr := ⟨_, rfl⟩
    subst hwo
    replace c10 := pw_cell_below HB.out c10
    replace c11 := pw_cell_below HB.out c11
    replace c12 := pw_cell_below HB.out c12
    replace c20 := pw_cell_below HB.out c20
    replace c21 := pw_cell_below HB.out c21
    replace c22 := pw_cell_below HB.out c22
    by_cases h2 : i < zs.length
    · have b1 : decide ((i : Int) < (zs.length : Int)) = true := decide_eq_true (by omega)
      have HBW : Aside0 (Below w.heap.size w wo) := ⟨HB1.out.trans (below_base HB.out HB1.out.size)⟩
      obtain ⟨ad, A5, d5, eA, e0, e1, e2, e3, e4, e5, l5, g5⟩ := at_T37 HX.out (i : Int) (by omega) (by omega)
      obtain ⟨ad', A5', d5', eA', f0, f1, f2, f3, f4, f5, l5', g5'⟩ := at_T37 HX'.out (i : Int) (by omega) (by omega)
      cases eA; cases eA'
      replace e0 := pw_cell_below HBW.out e0
      replace e1 := pw_cell_below HBW.out e1
      replace e2 := pw_cell_below HBW.out e2
      replace e3 := pw_cell_below HBW.out e3
      replace e4 := pw_cell_below HBW.out e4
      replace e5 := pw_cell_below HBW.out e5
      replace f0 := pw_cell_below HBW.out f0
      replace f1 := pw_cell_below HBW.out f1
      replace f2 := pw_cell_below HBW.out f2
      replace f3 := pw_cell_below HBW.out f3
      replace f4 := pw_cell_below HBW.out f4
      replace f5 := pw_cell_below HBW.out f5
      have hm : rd_T37 zs (i : Int) ∈ zs := by unfold rd_T37; rw [Int.toNat_natCast, List.getD_eq_getElem?_getD, List.getElem?_eq_getElem h2]; exact List.getElem_mem _
      have HS5 := Aside0.mk (HS.out _ hm)
      have q0 : (0 ≤ (i : Int)) = True := eq_true (by omega)
      have q1 : ((i : Int) < (zs.length : Int)) = True := eq_true (by omega)
      have hw : wrap64 ((i : Int) + 1) = ((i + 1 : Nat) : Int) := by unfold wrap64; have := HZ.out; omega
      have HW := Aside0.mk hw; have HI := Aside0.mk h2
      have G5 := Aside0.mk g5; have G5' := Aside0.mk g5'
      rw [Int.toNat_natCast] at e0 e1 e2 e3 e4 e5 f0 f1 f2 f3 f4 f5
      generalize rd_T37 zs (i : Int) = x at *
      obtain ⟨x0, x1, x2, x3, x4, x5⟩ := x
      dsimp only at e0 e1 e2 e3 e4 e5 f0 f1 f2 f3 f4 f5 G5 G5' HS5
      clear hw h2 hi l5 l5' g5 g5' hm
      go_upto_region 7 with (fail)
      refine wp_forget (fun W' => Below wo.heap.size wo W' ∧ W'.heap[wo.heap.size]? = some (.cells #[.int .i64 x0, .int .i64 x1, .int .i64 x2, .int .i64 x3, .string x4, .slice A5 x5.length d5] 37 (0, 0))) ⟨below_alloc (Below.refl _ _) _, blk_new _ _⟩ ?_
      rintro W1 ⟨hb, hk⟩
      replace c10 := pw_cell_below hb c10
      replace c11 := pw_cell_below hb c11
      replace c12 := pw_cell_below hb c12
      replace c20 := pw_cell_below hb c20
      replace c21 := pw_cell_below hb c21
      replace c22 := pw_cell_below hb c22
      replace f0 := pw_cell_below hb f0
      replace f1 := pw_cell_below hb f1
      replace f2 := pw_cell_below hb f2
      replace f3 := pw_cell_below hb f3
      replace f4 := pw_cell_below hb f4
      replace f5 := pw_cell_below hb f5
      have HBA := Aside0.mk hb; have KA := Aside0.mk hk
      clear hb hk e0 e1 e2 e3 e4 e5
      go_upto_region 8 with (fail)
      refine wp_forget (fun W' => Below W1.heap.size W1 W' ∧ W'.heap[W1.heap.size]? = some (.cells #[.int .i64 x0, .int .i64 x1, .int .i64 x2, .int .i64 x3, .string x4, .slice A5' x5.length d5'] 37 (0, 0))) ⟨below_alloc (Below.refl _ _) _, blk_new _ _⟩ ?_
      rintro W2 ⟨hb, hk⟩
      have HBC := Aside0.mk hb
      have KC : Aside0 (W2.heap[wo.heap.size]? = _) := ⟨blk_below KA.out hb⟩
      have KD := Aside0.mk hk
      have HB2 : Aside0 (Below wo.heap.size wo W2) := ⟨HBA.out.trans (below_base hb HBA.out.size)⟩
      clear hb hk f0 f1 f2 f3 f4 f5 c10 c11 c12 c20 c21 c22
      have d0 : W2.cell? ⟨wo.heap.size, 0, none⟩ = some (.int .i64 x0) := (blk_cell KC.out 0).trans rfl
      have g0 : W2.cell? ⟨W1.heap.size, 0, none⟩ = some (.int .i64 x0) := (blk_cell KD.out 0).trans rfl
      have d1 : W2.cell? ⟨wo.heap.size, 1, none⟩ = some (.int .i64 x1) := (blk_cell KC.out 1).trans rfl
      have g1 : W2.cell? ⟨W1.heap.size, 1, none⟩ = some (.int .i64 x1) := (blk_cell KD.out 1).trans rfl
      have d2 : W2.cell? ⟨wo.heap.size, 2, none⟩ = some (.int .i64 x2) := (blk_cell KC.out 2).trans rfl
      have g2 : W2.cell? ⟨W1.heap.size, 2, none⟩ = some (.int .i64 x2) := (blk_cell KD.out 2).trans rfl
      have d3 : W2.cell? ⟨wo.heap.size, 3, none⟩ = some (.int .i64 x3) := (blk_cell KC.out 3).trans rfl
      have g3 : W2.cell? ⟨W1.heap.size, 3, none⟩ = some (.int .i64 x3) := (blk_cell KD.out 3).trans rfl
      have d4 : W2.cell? ⟨wo.heap.size, 4, none⟩ = some (.string x4) := (blk_cell KC.out 4).trans rfl
      have g4 : W2.cell? ⟨W1.heap.size, 4, none⟩ = some (.string x4) := (blk_cell KD.out 4).trans rfl
      have d5_ : W2.cell? ⟨wo.heap.size, 5, none⟩ = some (.slice A5 x5.length d5) := (blk_cell KC.out 5).trans rfl
      have g5_ : W2.cell? ⟨W1.heap.size, 5, none⟩ = some (.slice A5' x5.length d5') := (blk_cell KD.out 5).trans rfl
      have hne : (x4.toList != x4.toList) = false := by simp
      go_wp2_with fail
      refine (sameints_calls x5 A5 A5' d5 d5' W2 (Kd.C_below G5.out (HBW.out.trans (below_base HB2.out HBW.out.size))) (Kd.C_below G5'.out (HBW.out.trans (below_base HB2.out HBW.out.size))) HS5.out).mono ?_
      rintro e W3 ⟨rfl, hb3⟩
      have HB3 : Aside0 (Below w1.heap.size w1 W3) := ⟨HB.out.trans (below_base (HB2.out.trans (below_base hb3 HB2.out.size)) HB.out.size)⟩
      clear hb3 d0 d1 d2 d3 d4 d5_ g0 g1 g2 g3 g4 g5_
      go_wp2_with fail
      refine ⟨⟨i + 1, by rw [HW.out], HI.out, HB3⟩, ?_⟩
      rw [HW.out]
      have := HI.out
      simp [intOf]
      omega
    · have b1 : decide ((i : Int) < (zs.length : Int)) = false := decide_eq_false (by omega)
      have hil : i = zs.length := by omega
      subst hil
      clear h2 hi
      go_wp2_with fail
      go_ret
      exact ⟨rfl, HB1.out.trans (below_base HB.out HB1.out.size)⟩

set_option maxRecDepth 100000 in
set_option maxHeartbeats 1000000 in
theorem apartints_nil (w : World) : Calls Tryd.prog 48 #[.slice none 0 0] w fun e w' => e = .returned (.bool true) ∧ w = w' := by
  go_enter Tryd.func48, Tryd.ntmps48
  go_wp2_with fail
  refine wp_loop_once ?_
  go_wp2_with fail
  refine wp_loop_once ?_
  go_wp2_with fail
  refine wp_loop_once ?_
  go_wp2_with fail
  refine wp_loop_once ?_
  go_wp2_with fail
  go_ret
  exact ⟨rfl, rfl⟩

set_option maxRecDepth 100000 in
set_option maxHeartbeats 1000000 in
theorem apartnodes_nil (w : World) : Calls Tryd.prog 49 #[.slice none 0 0] w fun e w' => e = .returned (.bool true) ∧ w = w' := by
  go_enter Tryd.func49, Tryd.ntmps49
  go_wp2_with fail
  refine wp_loop_once ?_
  go_wp2_with fail
  refine wp_loop_once ?_
  go_wp2_with fail
  refine wp_loop_once ?_
  go_wp2_with fail
  refine wp_loop_once ?_
  go_wp2_with fail
  go_ret
  exact ⟨rfl, rfl⟩

set_option maxRecDepth 100000 in
set_option maxHeartbeats 1000000 in
theorem aparttexts_nil (w : World) : Calls Tryd.prog 50 #[.slice none 0 0] w fun e w' => e = .returned (.bool true) ∧ w = w' := by
  go_enter Tryd.func50, Tryd.ntmps50
  go_wp2_with fail
  refine wp_loop_once ?_
  go_wp2_with fail
  refine wp_loop_once ?_
  go_wp2_with fail
  refine wp_loop_once ?_
  go_wp2_with fail
  refine wp_loop_once ?_
  go_wp2_with fail
  go_ret
  exact ⟨rfl, rfl⟩

set_option maxRecDepth 100000 in
set_option maxHeartbeats 1000000 in
theorem apartbinds_nil (w : World) : Calls Tryd.prog 51 #[.slice none 0 0] w fun e w' => e = .returned (.bool true) ∧ w = w' := by
  go_enter Tryd.func51, Tryd.ntmps51
  go_wp2_with fail
  refine wp_loop_once ?_
  go_wp2_with fail
  refine wp_loop_once ?_
  go_wp2_with fail
  refine wp_loop_once ?_
  go_wp2_with fail
  refine wp_loop_once ?_
  go_wp2_with fail
  go_ret
  exact ⟨rfl, rfl⟩

set_option maxRecDepth 100000 in
set_option maxHeartbeats 1000000 in
theorem apartclasses_nil (w : World) : Calls Tryd.prog 52 #[.slice none 0 0] w fun e w' => e = .returned (.bool true) ∧ w = w' := by
  go_enter Tryd.func52, Tryd.ntmps52
  go_wp2_with fail
  refine wp_loop_once ?_
  go_wp2_with fail
  refine wp_loop_once ?_
  go_wp2_with fail
  refine wp_loop_once ?_
  go_wp2_with fail
  refine wp_loop_once ?_
  go_wp2_with fail
  go_ret
  exact ⟨rfl, rfl⟩

set_option maxHeartbeats 1000000 in
theorem apart_calls (B p n cc b : Nat) (cp : Array Value) (V : Nat → Value) (L : Nat → Nat) (X0 : Nat → List Value) (w : World) (hA : Apt w B p n cp V L) (h0 : P1 w w B p n cp V L X0) (hb : w.heap[b]? = some (.cells #[.slice none 0 0, .slice none 0 0, .slice none 0 0, .slice none 0 0, .slice none 0 0, .slice (some ⟨p, 0, none⟩) n cc] 58 (0, 0))) :
    Calls Tryd.prog 24 #[.pointer (some ⟨b, 0, none⟩)] w fun e w' => e = .returned (.bool true) ∧ Below B w w' := by
  have HC := Aside0.mk (apartnums_calls B p n cc cp V L X0 w hA h0); clear hA h0
  have c0 : w.cell? ⟨b, 0, none⟩ = some (.slice none 0 0) := (blk_cell hb 0).trans rfl
  have c1 : w.cell? ⟨b, 1, none⟩ = some (.slice none 0 0) := (blk_cell hb 1).trans rfl
  have c2 : w.cell? ⟨b, 2, none⟩ = some (.slice none 0 0) := (blk_cell hb 2).trans rfl
  have c3 : w.cell? ⟨b, 3, none⟩ = some (.slice none 0 0) := (blk_cell hb 3).trans rfl
  have c4 : w.cell? ⟨b, 4, none⟩ = some (.slice none 0 0) := (blk_cell hb 4).trans rfl
  have c5 : w.cell? ⟨b, 5, none⟩ = some (.slice (some ⟨p, 0, none⟩) n cc) := (blk_cell hb 5).trans rfl
  clear hb
  go_enter Tryd.func24, Tryd.ntmps24
  go_wp2_with fail
  refine (apartints_nil _).mono ?_
  rintro e w1 ⟨rfl, rfl⟩
  go_wp2_with fail
  refine (apartnodes_nil _).mono ?_
  rintro e w1 ⟨rfl, rfl⟩
  go_wp2_with fail
  refine (aparttexts_nil _).mono ?_
  rintro e w1 ⟨rfl, rfl⟩
  go_wp2_with fail
  refine (apartbinds_nil _).mono ?_
  rintro e w1 ⟨rfl, rfl⟩
  go_wp2_with fail
  refine (apartclasses_nil _).mono ?_
  rintro e w1 ⟨rfl, rfl⟩
  go_wp2_with fail
  refine (HC.out).mono ?_
  rintro e w1 ⟨rfl, hb1⟩
  go_wp2_with fail
  go_ret
  exact ⟨rfl, hb1⟩
end Go.Proofs.YtbbembhfnapadaaDoor
