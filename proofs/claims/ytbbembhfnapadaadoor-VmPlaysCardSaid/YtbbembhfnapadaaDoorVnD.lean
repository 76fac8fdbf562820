/- The walk of the document's Check. -/
import Derived.Test.YtbbembhfnapadaaDoorVnB
import Derived.Test.YtbbembhfnapadaaDoorRunE0
import Derived.Deep.DeepCutAuto
namespace Go.Proofs.YtbbembhfnapadaaDoor
open Go.RowKit Go.Proofs.YtbbembhfnapadaaDoorW.PrintWords Go.Proofs.YtbbembhfnapadaaDoorW.PrintLast Go.Proofs.YtbbembhfnapadaaDoorW.PrintMore PVmPlays Pl
set_option linter.unusedVariables false
set_option linter.unusedSimpArgs false

theorem refarity0_calls (op : Int) (w : World) : Calls Tryd.prog 61 #[.int .i64 op] w fun e w' => e = .returned (.int .i64 (raK op)) ∧ w' = w := by
  by_cases h1 : op = 1
  · subst h1; go_enter Tryd.func61, Tryd.ntmps61; go_wp2_with fail; go_ret; exact ⟨rfl, rfl⟩
  by_cases h2 : op = 2
  · subst h2; go_enter Tryd.func61, Tryd.ntmps61; go_wp2_with fail; go_ret; exact ⟨rfl, rfl⟩
  by_cases h3 : op = 3
  · subst h3; go_enter Tryd.func61, Tryd.ntmps61; go_wp2_with fail; go_ret; exact ⟨rfl, rfl⟩
  by_cases h4 : op = 4
  · subst h4; go_enter Tryd.func61, Tryd.ntmps61; go_wp2_with fail; go_ret; exact ⟨rfl, rfl⟩
  by_cases h17 : op = 17
  · subst h17; go_enter Tryd.func61, Tryd.ntmps61; go_wp2_with fail; go_ret; exact ⟨rfl, rfl⟩
  have b1 : (op == 1) = false := by simp [h1]
  have b2 : (op == 2) = false := by simp [h2]
  have b3 : (op == 3) = false := by simp [h3]
  have b4 : (op == 4) = false := by simp [h4]
  have b17 : (op == 17) = false := by simp [h17]
  have hr : Hid (raK op = if 5 ≤ op ∧ op ≤ 16 then 2 else -1) := Lib.hid (by unfold raK; rw [if_neg (by omega), if_neg (by omega), if_neg h17])
  have H1 := Lib.hid h1; clear h1
  have H2 := Lib.hid h2; clear h2
  have H3 := Lib.hid h3; clear h3
  have H4 := Lib.hid h4; clear h4
  have H17 := Lib.hid h17; clear h17
  by_cases h5 : 5 ≤ op
  · have b5 : decide (5 ≤ op) = true := decide_eq_true h5
    by_cases h6 : op ≤ 16
    · have b6 : decide (op ≤ 16) = true := decide_eq_true h6
      have hr2 : Hid (raK op = 2) := Lib.hid (hr.out.trans (if_pos ⟨h5, h6⟩))
      go_enter Tryd.func61, Tryd.ntmps61; go_wp2_with fail; go_ret; exact ⟨by rw [hr2.out]; rfl, rfl⟩
    · have b6 : decide (op ≤ 16) = false := decide_eq_false h6
      have hr2 : Hid (raK op = -1) := Lib.hid (hr.out.trans (if_neg (fun h => h6 h.2)))
      have H6 := Lib.hid h6; clear h6
      go_enter Tryd.func61, Tryd.ntmps61; go_wp2_with fail; go_ret; exact ⟨by rw [hr2.out]; rfl, rfl⟩
  · have b5 : decide (5 ≤ op) = false := decide_eq_false h5
    have hr2 : Hid (raK op = -1) := Lib.hid (hr.out.trans (if_neg (fun h => h5 h.1)))
    have H5 := Lib.hid h5; clear h5
    go_enter Tryd.func61, Tryd.ntmps61; go_wp2_with fail; go_ret; exact ⟨by rw [hr2.out]; rfl, rfl⟩

/-- Is a register one of m? -/
def rOk (m r : Int) : Bool := decide (0 ≤ r) && decide (r < m)
theorem rOk_iff (m r : Int) : rOk m r = true ↔ 0 ≤ r ∧ r < m := by unfold rOk; simp
/-- Has an operator parts, and so many? -/
def arOk (op : Int) (n : Nat) : Bool := decide (0 < raK op) && decide (raK op = (n : Int))
theorem do_is (ys : List Bool) (op : Int) (args : List Int) : doOk ys op args = (arOk op args.length && !args.any (badR ys)) := by
  obtain ⟨h1, h2⟩ := raK_ar op
  unfold doOk arOk
  rw [← Bool.and_assoc, ← Bool.and_assoc]
  congr 1
  by_cases h : 0 < raK op
  · have h3 := h1.1 h
    rw [decide_eq_true h3.1, decide_eq_true h3.2, decide_eq_true h, h2 h]
    simp
  · rw [decide_eq_false h, Bool.false_and]
    have h3 : ¬ (arE op = 0 ∧ 0 < arK op) := fun e => h (h1.2 e)
    by_cases h4 : arE op = 0
    · rw [decide_eq_false (fun e => h3 ⟨h4, e⟩)]; simp
    · rw [decide_eq_false h4]; simp
theorem rd_num (xs : List Ins) (i : Int) (h0 : 0 ≤ i) (h1 : i < xs.length) : rd_T37 (xs.map numIns) i = numIns (rdIns xs i) := by
  have hl : i.toNat < xs.length := by omega
  unfold rd_T37 rdIns
  rw [List.getD_eq_getElem?_getD, List.getD_eq_getElem?_getD, List.getElem?_map, List.getElem?_eq_getElem hl]
  rfl
theorem any_step (ys : List Bool) (args : List Int) (j : Nat) (h : j < args.length) : (args.take (j + 1)).any (badR ys) = ((args.take j).any (badR ys) || badR ys (rd args j)) := by
  have e : rd args j = args[j] := by unfold rd; rw [Int.toNat_natCast, List.getD_eq_getElem?_getD, List.getElem?_eq_getElem h]; rfl
  rw [List.take_succ_eq_append_getElem h, List.any_append, e]
  simp

set_option maxRecDepth 20000 in
set_option maxHeartbeats 1000000 in
theorem refcheck_calls (xs : List Ins) (A : Option Addr) (c : Nat) (regs out : Int) (w : World) (hl : xs.length ≤ c) (hX : Kd.C k37 w A xs.length (xs.map numIns)) (hf : ∀ x ∈ xs, insFit x) :
    Calls Tryd.prog 30 #[.agg #[.slice A xs.length c, .int .i64 regs, .int .i64 out]] w fun e w' => e = .returned (.int .i64 (chkP xs regs out)) ∧ Below w.heap.size w w' := by
  have HX := Aside0.mk hX; clear hX
  have hu37 := Tryd.underlying37
  have HF := Aside0.mk hf; clear hf
  have HB0 : Aside0 (Below w.heap.size w (w.alloc (.cells #[.slice A xs.length c, .int .i64 regs, .int .i64 out] 24))) := ⟨below_alloc (Below.refl _ _) _⟩
  by_cases c1 : regs < 1
  · have HP : Aside0 (chkP xs regs out = 1) := ⟨if_neg (fun h => h.1 c1)⟩
    have b1 := decide_eq_true c1
    have C1 := Lib.hid c1; clear c1
    go_enter Tryd.func30, Tryd.ntmps30
    go_wp2_with fail
    go_ret
    exact ⟨by rw [HP.out]; rfl, HB0.out⟩
  have b1 := decide_eq_false c1
  by_cases c2 : 64 < regs
  · have HP : Aside0 (chkP xs regs out = 1) := ⟨if_neg (fun h => h.2.1 c2)⟩
    have b2 := decide_eq_true c2
    have C1 := Lib.hid c1; clear c1
    have C2 := Lib.hid c2; clear c2
    go_enter Tryd.func30, Tryd.ntmps30
    go_wp2_with fail
    go_ret
    exact ⟨by rw [HP.out]; rfl, HB0.out⟩
  have b2 := decide_eq_false c2
  by_cases c3 : (xs.length : Int) < 1
  · have HP : Aside0 (chkP xs regs out = 1) := ⟨if_neg (fun h => h.2.2.1 c3)⟩
    have b3 := decide_eq_true c3
    have C1 := Lib.hid c1; clear c1
    have C2 := Lib.hid c2; clear c2
    have C3 := Lib.hid c3; clear c3
    go_enter Tryd.func30, Tryd.ntmps30
    go_wp2_with fail
    go_ret
    exact ⟨by rw [HP.out]; rfl, HB0.out⟩
  have b3 := decide_eq_false c3
  by_cases c4 : 128 < (xs.length : Int)
  · have HP : Aside0 (chkP xs regs out = 1) := ⟨if_neg (fun h => h.2.2.2.1 c4)⟩
    have b4 := decide_eq_true c4
    have C1 := Lib.hid c1; clear c1
    have C2 := Lib.hid c2; clear c2
    have C3 := Lib.hid c3; clear c3
    have C4 := Lib.hid c4; clear c4
    go_enter Tryd.func30, Tryd.ntmps30
    go_wp2_with fail
    go_ret
    exact ⟨by rw [HP.out]; rfl, HB0.out⟩
  have b4 := decide_eq_false c4
  by_cases c5 : out < 0
  · have HP : Aside0 (chkP xs regs out = 1) := ⟨if_neg (fun h => h.2.2.2.2.1 c5)⟩
    have b5 := decide_eq_true c5
    have C1 := Lib.hid c1; clear c1
    have C2 := Lib.hid c2; clear c2
    have C3 := Lib.hid c3; clear c3
    have C4 := Lib.hid c4; clear c4
    have C5 := Lib.hid c5; clear c5
    go_enter Tryd.func30, Tryd.ntmps30
    go_wp2_with fail
    go_ret
    exact ⟨by rw [HP.out]; rfl, HB0.out⟩
  have b5 := decide_eq_false c5
  by_cases c6 : regs ≤ out
  · have HP : Aside0 (chkP xs regs out = 1) := ⟨if_neg (fun h => h.2.2.2.2.2 c6)⟩
    have b6 := decide_eq_true c6
    have C1 := Lib.hid c1; clear c1
    have C2 := Lib.hid c2; clear c2
    have C3 := Lib.hid c3; clear c3
    have C4 := Lib.hid c4; clear c4
    have C5 := Lib.hid c5; clear c5
    have C6 := Lib.hid c6; clear c6
    go_enter Tryd.func30, Tryd.ntmps30
    go_wp2_with fail
    go_ret
    exact ⟨by rw [HP.out]; rfl, HB0.out⟩
  have b6 := decide_eq_false c6
  obtain ⟨m, hm⟩ := Int.eq_ofNat_of_zero_le (show 0 ≤ regs by omega)
  subst hm
  have HP : Aside0 (chkP xs (m : Int) out = chkE out (chkL (m : Int) xs (List.replicate m false))) := ⟨if_pos ⟨c1, c2, c3, c4, c5, c6⟩⟩
  have R1 : Aside0 (1 ≤ m ∧ m ≤ 64) := ⟨by omega⟩
  have R2 : Aside0 (0 ≤ out ∧ out < m) := ⟨by omega⟩
  have R3 : Aside0 (xs.length ≤ 128) := ⟨by omega⟩
  have q0 : (0 ≤ out) = True := eq_true (by omega)
  have q1 : (out < (m : Int)) = True := eq_true (by omega)
  have C1 := Lib.hid c1; clear c1
  have C2 := Lib.hid c2; clear c2
  have C3 := Lib.hid c3; clear c3
  have C4 := Lib.hid c4; clear c4
  have C5 := Lib.hid c5; clear c5
  have C6 := Lib.hid c6; clear c6
  go_enter Tryd.func30, Tryd.ntmps30
  go_wp2_with (first | ((with_reducible refine gate_dst (N := 42) rfl ?_); refine Kd.R_make Kd.bool _ 4 rfl (N := 42) rfl 119 _ _ rfl (m : Int) rfl rfl Tryd.underlying119 (.bool false) 1 info4 rfl (by decide) (by omega) false (ok := fun _ => True) (okp := fun _ => True) rfl (fun _ hk => hk) trivial (by have := R1.out; omega) (by have := R1.out; rw [Int.toNat_natCast]; omega) (Below.refl _ _) (Nat.le_refl _) ?_; intro v42 w1 ho hb hg_ hnew_; clear hg_ hnew_; rw [Int.toNat_natCast] at ho; have hf1 := Kd.R_form ho (by rw [List.length_replicate]; exact R1.out.1); obtain ⟨g, cap, hv, hg, _, _⟩ := hf1; rw [List.length_replicate] at hv; subst hv; have K1 : Aside0 (w1.heap[w.heap.size]? = some (.cells #[.slice A xs.length c, .int .i64 m, .int .i64 out] 24 (0, 0))) := ⟨blk_below (blk_new w _) hb⟩; have HB1 : Aside0 (Below w.heap.size w w1) := ⟨HB0.out.trans (below_base hb (by rw [alloc_size]; omega))⟩; have hg2 : w.heap.size + 1 ≤ g := (Nat.le_trans (Nat.le_of_eq (alloc_size w _).symm) hg); have HG := Aside0.mk hg2; have HO : Aside0 (Kd.bool.R 4 w1 (w.heap.size + 1) (fun _ => True) (.slice (some ⟨g, 0, none⟩) m cap) (List.replicate m false)) := ⟨Kd.R_lower ho (by rw [alloc_size]; omega)⟩; clear ho hb hg hg2; have c10 : w1.cell? ⟨w.heap.size, 0, none⟩ = some (.slice A xs.length c) := (blk_cell K1.out 0).trans rfl; have c11 : w1.cell? ⟨w.heap.size, 1, none⟩ = some (.int .i64 m) := (blk_cell K1.out 1).trans rfl; have c12 : w1.cell? ⟨w.heap.size, 2, none⟩ = some (.int .i64 out) := (blk_cell K1.out 2).trans rfl))
  go_loopw [4, 5, 6, 7, 67, 69, 77] (fun v4 _ _ _ _ _ _ w' => ∃ (i : Int) (ys : List Bool), v4 = .int .i64 i ∧ 0 ≤ i ∧ i ≤ xs.length ∧ Aside0 (w'.heap[w.heap.size]? = some (.cells #[.slice A xs.length c, .int .i64 m, .int .i64 out] 24 (0, 0))) ∧ Aside0 (Kd.bool.R 4 w' (w.heap.size + 1) (fun _ => True) (.slice (some ⟨g, 0, none⟩) m cap) ys) ∧ Aside0 (ys.length = m) ∧ Aside0 (chkE out (chkL (m : Int) (xs.drop i.toNat) ys) = chkP xs (m : Int) out) ∧ Aside0 (Below w.heap.size w w')) (fun v4 _ _ _ _ _ _ _ => xs.length - (intOf v4).toNat)
  case atStart => exact ⟨0, List.replicate m false, rfl, Int.le_refl _, by omega, K1, HO, ⟨List.length_replicate⟩, ⟨HP.out.symm⟩, HB1⟩
  case round =>
    clear c10 c11 c12
    obtain ⟨i, ys, rfl, h0, h1, K2, HY, HL, HE, HB⟩ := hrel
    obtain ⟨wo, rfl⟩ : ∃ wo : World, wo = wr := ⟨_, rfl⟩
    have c10 : wo.cell? ⟨w.heap.size, 0, none⟩ = some (.slice A xs.length c) := (blk_cell K2.out 0).trans rfl
    have c11 : wo.cell? ⟨w.heap.size, 1, none⟩ = some (.int .i64 m) := (blk_cell K2.out 1).trans rfl
    have c12 : wo.cell? ⟨w.heap.size, 2, none⟩ = some (.int .i64 out) := (blk_cell K2.out 2).trans rfl
    by_cases h2 : i < xs.length
    · have b7 : decide (i < (xs.length : Int)) = true := decide_eq_true h2
      obtain ⟨ad, A5, c5, eA, e0, e1, e2, e3, e4, e5, l5, g5⟩ := at_T37 HX.out i h0 h2
      cases eA
      rw [rd_num xs i h0 h2] at e0 e1 e2 e3 e4 e5 l5 g5
      replace e0 := pw_cell_below HB.out e0
      replace e1 := pw_cell_below HB.out e1
      replace e2 := pw_cell_below HB.out e2
      replace e3 := pw_cell_below HB.out e3
      replace e4 := pw_cell_below HB.out e4
      replace e5 := pw_cell_below HB.out e5
      have hst := Aside0.mk (chk_step (m : Int) xs ys i h0 h2)
      have hfx := Aside0.mk (HF.out _ (rdIns_mem h0 h2))
      have HI := Aside0.mk (show 0 ≤ i ∧ i < xs.length from ⟨h0, h2⟩)
      generalize rdIns xs i = x at *
      replace h0 := eq_true h0
      replace h2 := eq_true h2
      have lt0 : w.heap.size < wo.heap.size := blk_lt K2.out
      cases x with
      | lit r n =>
        dsimp only [numIns] at e0 e1 e2 e3 e4 e5 l5 g5
        have G5 := Aside0.mk g5; clear g5
        have L5 := Aside0.mk l5; clear l5
        go_upto_region 8 with (fail)
        refine wp_forget (fun W' => Below wo.heap.size wo W' ∧ W'.heap[wo.heap.size]? = some (.cells #[.int .i64 1, .int .i64 r, .int .i64 0, .int .i64 n, .string ⟨#[]⟩, .slice A5 0 c5] 37 (0, 0))) ⟨below_alloc (Below.refl _ _) _, blk_new _ _⟩ ?_
        rintro WA ⟨hba, hka⟩
        have HBA := Aside0.mk hba; have HKA := Aside0.mk hka
        replace c10 := pw_cell_below hba c10
        replace c11 := pw_cell_below hba c11
        replace c12 := pw_cell_below hba c12
        clear e0 e1 e2 e3 e4 e5
        have d0 : WA.cell? ⟨wo.heap.size, 0, none⟩ = some (.int .i64 1) := (blk_cell HKA.out 0).trans rfl
        have d1 : WA.cell? ⟨wo.heap.size, 1, none⟩ = some (.int .i64 r) := (blk_cell HKA.out 1).trans rfl
        have d2 : WA.cell? ⟨wo.heap.size, 2, none⟩ = some (.int .i64 0) := (blk_cell HKA.out 2).trans rfl
        have d3 : WA.cell? ⟨wo.heap.size, 3, none⟩ = some (.int .i64 n) := (blk_cell HKA.out 3).trans rfl
        have d4 : WA.cell? ⟨wo.heap.size, 4, none⟩ = some (.string ⟨#[]⟩) := (blk_cell HKA.out 4).trans rfl
        have d5 : WA.cell? ⟨wo.heap.size, 5, none⟩ = some (.slice A5 0 c5) := (blk_cell HKA.out 5).trans rfl
        have HYA : Aside0 (Kd.bool.R 4 WA (w.heap.size + 1) (fun _ => True) (.slice (some ⟨g, 0, none⟩) m cap) ys) := ⟨Kd.R_below HY.out hba⟩
        have KA : Aside0 (WA.heap[w.heap.size]? = _) := ⟨blk_below K2.out hba⟩
        have HBWA : Aside0 (Below w.heap.size w WA) := ⟨HB.out.trans (below_base hba HB.out.size)⟩
        clear hba hka
        go_cut [6] (fun s6 wx => s6 = .bool (rOk m r) ∧ WA = wx)
        case first =>
          by_cases r0 : 0 ≤ r
          · have f0 : decide (0 ≤ r) = true := decide_eq_true r0
            by_cases r1 : r < (m : Int)
            · have f1 : decide (r < (m : Int)) = true := decide_eq_true r1
              go_wp2_with fail
              go_meet
              case rel => exact ⟨by unfold rOk; rw [f0, f1]; rfl, rfl⟩
            · have f1 : decide (r < (m : Int)) = false := decide_eq_false r1
              have R1h := Lib.hid r1; clear r1
              go_wp2_with fail
              go_meet
              case rel => exact ⟨by unfold rOk; rw [f0, f1]; rfl, rfl⟩
          · have f0 : decide (0 ≤ r) = false := decide_eq_false r0
            have R0h := Lib.hid r0; clear r0
            go_wp2_with fail
            go_meet
            case rel => exact ⟨by unfold rOk; rw [f0]; rfl, rfl⟩
        case rest =>
          obtain ⟨rfl, rfl⟩ := hcut
          generalize hrb : rOk (m : Int) r = b at *
          have HRB := Aside0.mk hrb; clear hrb
          cases b with
          | true =>
            have hr := (rOk_iff _ _).1 HRB.out
            have HE1 : Aside0 (chkE out (chkL (m : Int) (xs.drop (i + 1).toNat) (ys.set r.toNat true)) = chkP xs (m : Int) out) := ⟨by have h := HE.out; rw [hst.out, if_pos ⟨rfl, hr.1, hr.2⟩] at h; exact h⟩
            have p0 : (0 ≤ r) = True := eq_true hr.1
            have p1 : (r < (m : Int)) = True := eq_true hr.2
            have HR := Aside0.mk hr; clear hr
            have hcz := Kd.R_cell (h1 := fun _ => rfl) false (by rw [HL.out]; exact HYA.out) r HR.out.1 (by rw [HL.out]; exact HR.out.2)
            have hcz1 := hcz.1
            have hcz2 := hcz.2
            clear hcz
            have hput := Kd.R_put (h1 := fun _ => rfl) (by rw [HL.out]; exact HYA.out) r true
            rw [HL.out] at hput
            have HPUT := Aside0.mk hput.1
            have HPG := Aside0.mk hput.2
            clear hput
            go_wp2_with fail
            have hw : wrap64 (i + 1) = i + 1 := by unfold wrap64; have := HI.out; have := R3.out; omega
            refine ⟨⟨i + 1, ys.set r.toNat true, by rw [hw], by have := HI.out; omega, by have := HI.out; omega, ⟨?_⟩, HPUT, ⟨?_⟩, HE1, ⟨below_set HBWA.out (by have := HG.out; omega)⟩⟩, ?_⟩
            · exact blk_far KA.out (show w.heap.size ≠ g by have := HG.out; omega) _
            · rw [List.length_set]; exact HL.out
            · rw [hw]
              have := HI.out
              simp [intOf]
              omega
          | false =>
            have HE1 : Aside0 (chkP xs (m : Int) out = 1) := ⟨by rw [← HE.out, hst.out, if_neg (fun h => by have h3 := (rOk_iff (m : Int) r).2 h.2; rw [HRB.out] at h3; cases h3)]; rfl⟩
            go_wp2_with fail
            go_ret
            exact ⟨by rw [HE1.out]; rfl, HBWA.out⟩
      | var r s =>
        dsimp only [numIns] at e0 e1 e2 e3 e4 e5 l5 g5
        have G5 := Aside0.mk g5; clear g5
        have L5 := Aside0.mk l5; clear l5
        go_upto_region 8 with (fail)
        refine wp_forget (fun W' => Below wo.heap.size wo W' ∧ W'.heap[wo.heap.size]? = some (.cells #[.int .i64 2, .int .i64 r, .int .i64 0, .int .i64 0, .string s, .slice A5 0 c5] 37 (0, 0))) ⟨below_alloc (Below.refl _ _) _, blk_new _ _⟩ ?_
        rintro WA ⟨hba, hka⟩
        have HBA := Aside0.mk hba; have HKA := Aside0.mk hka
        replace c10 := pw_cell_below hba c10
        replace c11 := pw_cell_below hba c11
        replace c12 := pw_cell_below hba c12
        clear e0 e1 e2 e3 e4 e5
        have d0 : WA.cell? ⟨wo.heap.size, 0, none⟩ = some (.int .i64 2) := (blk_cell HKA.out 0).trans rfl
        have d1 : WA.cell? ⟨wo.heap.size, 1, none⟩ = some (.int .i64 r) := (blk_cell HKA.out 1).trans rfl
        have d2 : WA.cell? ⟨wo.heap.size, 2, none⟩ = some (.int .i64 0) := (blk_cell HKA.out 2).trans rfl
        have d3 : WA.cell? ⟨wo.heap.size, 3, none⟩ = some (.int .i64 0) := (blk_cell HKA.out 3).trans rfl
        have d4 : WA.cell? ⟨wo.heap.size, 4, none⟩ = some (.string s) := (blk_cell HKA.out 4).trans rfl
        have d5 : WA.cell? ⟨wo.heap.size, 5, none⟩ = some (.slice A5 0 c5) := (blk_cell HKA.out 5).trans rfl
        have HYA : Aside0 (Kd.bool.R 4 WA (w.heap.size + 1) (fun _ => True) (.slice (some ⟨g, 0, none⟩) m cap) ys) := ⟨Kd.R_below HY.out hba⟩
        have KA : Aside0 (WA.heap[w.heap.size]? = _) := ⟨blk_below K2.out hba⟩
        have HBWA : Aside0 (Below w.heap.size w WA) := ⟨HB.out.trans (below_base hba HB.out.size)⟩
        clear hba hka
        go_cut [6] (fun s6 wx => s6 = .bool (rOk m r) ∧ WA = wx)
        case first =>
          by_cases r0 : 0 ≤ r
          · have f0 : decide (0 ≤ r) = true := decide_eq_true r0
            by_cases r1 : r < (m : Int)
            · have f1 : decide (r < (m : Int)) = true := decide_eq_true r1
              go_wp2_with fail
              go_meet
              case rel => exact ⟨by unfold rOk; rw [f0, f1]; rfl, rfl⟩
            · have f1 : decide (r < (m : Int)) = false := decide_eq_false r1
              have R1h := Lib.hid r1; clear r1
              go_wp2_with fail
              go_meet
              case rel => exact ⟨by unfold rOk; rw [f0, f1]; rfl, rfl⟩
          · have f0 : decide (0 ≤ r) = false := decide_eq_false r0
            have R0h := Lib.hid r0; clear r0
            go_wp2_with fail
            go_meet
            case rel => exact ⟨by unfold rOk; rw [f0]; rfl, rfl⟩
        case rest =>
          obtain ⟨rfl, rfl⟩ := hcut
          generalize hrb : rOk (m : Int) r = b at *
          have HRB := Aside0.mk hrb; clear hrb
          cases b with
          | true =>
            go_wp2_with fail
            refine (refname_calls s hfx.out WA).mono ?_
            rintro e W ⟨rfl, hbW⟩
            have KW : Aside0 (W.heap[w.heap.size]? = _) := ⟨blk_below KA.out hbW⟩
            have HYW := Aside0.mk (Kd.R_below HYA.out hbW)
            have HBW : Aside0 (Below w.heap.size w W) := ⟨HBWA.out.trans (below_base hbW HBWA.out.size)⟩
            replace c10 := pw_cell_below hbW c10
            replace c11 := pw_cell_below hbW c11
            replace c12 := pw_cell_below hbW c12
            replace d1 := pw_cell_below hbW d1
            clear hbW d0 d2 d3 d4 d5
            generalize hnl : nameL (runes s 0) = nl at *
            have HNL := Aside0.mk hnl; clear hnl
            cases nl with
            | true =>
              have hr := (rOk_iff _ _).1 HRB.out
              have HE1 : Aside0 (chkE out (chkL (m : Int) (xs.drop (i + 1).toNat) (ys.set r.toNat true)) = chkP xs (m : Int) out) := ⟨by have h := HE.out; rw [hst.out, if_pos ⟨HNL.out, hr.1, hr.2⟩] at h; exact h⟩
              have p0 : (0 ≤ r) = True := eq_true hr.1
              have p1 : (r < (m : Int)) = True := eq_true hr.2
              have HR := Aside0.mk hr; clear hr
              have hcz := Kd.R_cell (h1 := fun _ => rfl) false (by rw [HL.out]; exact HYW.out) r HR.out.1 (by rw [HL.out]; exact HR.out.2)
              have hcz1 := hcz.1
              have hcz2 := hcz.2
              clear hcz
              have hput := Kd.R_put (h1 := fun _ => rfl) (by rw [HL.out]; exact HYW.out) r true
              rw [HL.out] at hput
              have HPUT := Aside0.mk hput.1
              have HPG := Aside0.mk hput.2
              clear hput
              go_wp2_with fail
              have hw : wrap64 (i + 1) = i + 1 := by unfold wrap64; have := HI.out; have := R3.out; omega
              refine ⟨⟨i + 1, ys.set r.toNat true, by rw [hw], by have := HI.out; omega, by have := HI.out; omega, ⟨?_⟩, HPUT, ⟨?_⟩, HE1, ⟨below_set HBW.out (by have := HG.out; omega)⟩⟩, ?_⟩
              · exact blk_far KW.out (show w.heap.size ≠ g by have := HG.out; omega) _
              · rw [List.length_set]; exact HL.out
              · rw [hw]
                have := HI.out
                simp [intOf]
                omega
            | false =>
              have HE1 : Aside0 (chkP xs (m : Int) out = 1) := ⟨by rw [← HE.out, hst.out, if_neg (fun h => by have h3 : nameL (runes s 0) = true := h.1; rw [HNL.out] at h3; cases h3)]; rfl⟩
              go_wp2_with fail
              go_ret
              exact ⟨by rw [HE1.out]; rfl, HBW.out⟩
          | false =>
            have HE1 : Aside0 (chkP xs (m : Int) out = 1) := ⟨by rw [← HE.out, hst.out, if_neg (fun h => by have h3 := (rOk_iff (m : Int) r).2 h.2; rw [HRB.out] at h3; cases h3)]; rfl⟩
            go_wp2_with fail
            go_ret
            exact ⟨by rw [HE1.out]; rfl, HBWA.out⟩
      | dox r op args =>
        dsimp only [numIns] at e0 e1 e2 e3 e4 e5 l5 g5
        have G5 := Aside0.mk g5; clear g5
        have L5 := Aside0.mk l5; clear l5
        go_upto_region 8 with (fail)
        refine wp_forget (fun W' => Below wo.heap.size wo W' ∧ W'.heap[wo.heap.size]? = some (.cells #[.int .i64 3, .int .i64 r, .int .i64 op, .int .i64 0, .string ⟨#[]⟩, .slice A5 args.length c5] 37 (0, 0))) ⟨below_alloc (Below.refl _ _) _, blk_new _ _⟩ ?_
        rintro WA ⟨hba, hka⟩
        have HBA := Aside0.mk hba; have HKA := Aside0.mk hka
        replace c10 := pw_cell_below hba c10
        replace c11 := pw_cell_below hba c11
        replace c12 := pw_cell_below hba c12
        clear e0 e1 e2 e3 e4 e5
        have d0 : WA.cell? ⟨wo.heap.size, 0, none⟩ = some (.int .i64 3) := (blk_cell HKA.out 0).trans rfl
        have d1 : WA.cell? ⟨wo.heap.size, 1, none⟩ = some (.int .i64 r) := (blk_cell HKA.out 1).trans rfl
        have d2 : WA.cell? ⟨wo.heap.size, 2, none⟩ = some (.int .i64 op) := (blk_cell HKA.out 2).trans rfl
        have d3 : WA.cell? ⟨wo.heap.size, 3, none⟩ = some (.int .i64 0) := (blk_cell HKA.out 3).trans rfl
        have d4 : WA.cell? ⟨wo.heap.size, 4, none⟩ = some (.string ⟨#[]⟩) := (blk_cell HKA.out 4).trans rfl
        have d5 : WA.cell? ⟨wo.heap.size, 5, none⟩ = some (.slice A5 args.length c5) := (blk_cell HKA.out 5).trans rfl
        have HYA : Aside0 (Kd.bool.R 4 WA (w.heap.size + 1) (fun _ => True) (.slice (some ⟨g, 0, none⟩) m cap) ys) := ⟨Kd.R_below HY.out hba⟩
        have KA : Aside0 (WA.heap[w.heap.size]? = _) := ⟨blk_below K2.out hba⟩
        have HBWA : Aside0 (Below w.heap.size w WA) := ⟨HB.out.trans (below_base hba HB.out.size)⟩
        clear hba hka
        go_cut [6] (fun s6 wx => s6 = .bool (rOk m r) ∧ WA = wx)
        case first =>
          by_cases r0 : 0 ≤ r
          · have f0 : decide (0 ≤ r) = true := decide_eq_true r0
            by_cases r1 : r < (m : Int)
            · have f1 : decide (r < (m : Int)) = true := decide_eq_true r1
              go_wp2_with fail
              go_meet
              case rel => exact ⟨by unfold rOk; rw [f0, f1]; rfl, rfl⟩
            · have f1 : decide (r < (m : Int)) = false := decide_eq_false r1
              have R1h := Lib.hid r1; clear r1
              go_wp2_with fail
              go_meet
              case rel => exact ⟨by unfold rOk; rw [f0, f1]; rfl, rfl⟩
          · have f0 : decide (0 ≤ r) = false := decide_eq_false r0
            have R0h := Lib.hid r0; clear r0
            go_wp2_with fail
            go_meet
            case rel => exact ⟨by unfold rOk; rw [f0]; rfl, rfl⟩
        case rest =>
          obtain ⟨rfl, rfl⟩ := hcut
          generalize hrb : rOk (m : Int) r = b at *
          have HRB := Aside0.mk hrb; clear hrb
          go_upto_region 15 with (fail)
          have hu35 := Tryd.underlying35
          go_cut [6] (fun s6 wx => s6 = .bool (b && arOk op args.length) ∧ Below WA.heap.size WA wx)
          case first =>
            cases b with
            | false =>
              go_quiet (fail)
              go_wp2_with fail
              go_meet
              case rel => exact ⟨rfl, pw_below_drewN (Below.refl _ _) _⟩
            | true =>
              by_cases a0 : 0 < raK op
              · have f0 : decide (0 < raK op) = true := decide_eq_true a0
                by_cases a1 : raK op = (args.length : Int)
                · have f1 : (raK op == (args.length : Int)) = true := by rw [a1]; simp
                  have A1 := Lib.hid a1; clear a1
                  go_quiet (first | (go_at_call 61; refine Calls.quiet_of_same (refarity0_calls _ _)))
                  go_wp2_with fail
                  go_meet
                  case rel => exact ⟨by unfold arOk; rw [f0, decide_eq_true A1.out]; rfl, pw_below_drewN (Below.refl _ _) _⟩
                · have f1 : (raK op == (args.length : Int)) = false := by simp [a1]
                  have A1 := Lib.hid a1; clear a1
                  go_quiet (first | (go_at_call 61; refine Calls.quiet_of_same (refarity0_calls _ _)))
                  go_wp2_with fail
                  go_meet
                  case rel => exact ⟨by unfold arOk; rw [f0, decide_eq_false A1.out]; rfl, pw_below_drewN (Below.refl _ _) _⟩
              · have f0 : decide (0 < raK op) = false := decide_eq_false a0
                have A0 := Lib.hid a0; clear a0
                go_quiet (first | (go_at_call 61; refine Calls.quiet_of_same (refarity0_calls _ _)))
                go_wp2_with fail
                go_meet
                case rel => exact ⟨by unfold arOk; rw [f0]; rfl, pw_below_drewN (Below.refl _ _) _⟩
          case rest =>
            obtain ⟨rfl, hbX⟩ := hcut
            obtain ⟨WB, rfl⟩ : ∃ WB : World, WB = wc := ⟨_, rfl⟩
            have HBX := Aside0.mk hbX
            have KB : Aside0 (WB.heap[w.heap.size]? = _) := ⟨blk_below KA.out hbX⟩
            have HYB := Aside0.mk (Kd.R_below HYA.out hbX)
            have HBB : Aside0 (Below w.heap.size w WB) := ⟨HBWA.out.trans (below_base hbX HBWA.out.size)⟩
            have HG5 : Aside0 ((Kd.int .i64).C WB A5 args.length args) := ⟨Kd.C_below G5.out (HB.out.trans (below_base (HBA.out.trans (below_base hbX HBA.out.size)) HB.out.size))⟩
            replace c10 := pw_cell_below hbX c10
            replace c11 := pw_cell_below hbX c11
            replace c12 := pw_cell_below hbX c12
            replace d1 := pw_cell_below hbX d1
            replace d5 := pw_cell_below hbX d5
            clear hbX d0 d2 d3 d4
            have HLA : Aside0 (args.length ≤ 140737488351232) := ⟨hfx.out⟩
            generalize hb15 : (b && arOk op args.length) = b15 at *
            have HB15 := Aside0.mk hb15; clear hb15
            go_wp2_with fail
            go_loopw [6, 7] (fun v6 v7 w' => ∃ j : Nat, j ≤ args.length ∧ v7 = .int .i64 j ∧ v6 = .bool (b15 && !((args.take j).any (badR ys))) ∧ Aside0 (Below WB.heap.size WB w')) (fun _ v7 _ => args.length - (intOf v7).toNat)
            case atStart => exact ⟨0, Nat.zero_le _, rfl, by simp, ⟨Below.refl _ _⟩⟩
            case round =>
              obtain ⟨j, j1, rfl, rfl, HBI⟩ := hrel
              obtain ⟨WR, rfl⟩ : ∃ WR : World, WR = wr := ⟨_, rfl⟩
              replace c10 := pw_cell_below HBI.out c10
              replace c11 := pw_cell_below HBI.out c11
              replace c12 := pw_cell_below HBI.out c12
              replace d1 := pw_cell_below HBI.out d1
              replace d5 := pw_cell_below HBI.out d5
              generalize hcur : (b15 && !((args.take j).any (badR ys))) = cur at *
              have HCUR := Aside0.mk hcur; clear hcur
              by_cases j2 : j < args.length
              · have b8 : decide ((j : Int) < (args.length : Int)) = true := decide_eq_true (by omega)
                obtain ⟨aX, eX, x0⟩ := int_at (Kd.C_below HG5.out HBI.out) (j : Int) (by omega) (by omega)
                cases eX
                rw [Int.toNat_natCast] at x0
                have hst2 := Aside0.mk (any_step ys args j j2)
                have HJ := Aside0.mk j2
                have HCB : Aside0 (Kd.bool.C WR (some ⟨g, 0, none⟩) ys.length ys) := ⟨(Kd.R_reads' (Kd.R_below HYB.out HBI.out)).2.2⟩
                have q0 : (0 ≤ (j : Int)) = True := eq_true (by omega)
                have q1 : ((j : Int) < (args.length : Int)) = True := eq_true (by omega)
                generalize rd args (j : Int) = q at *
                have hw : wrap64 ((j : Int) + 1) = ((j + 1 : Nat) : Int) := by unfold wrap64; have := HLA.out; omega
                have HW := Aside0.mk hw; clear hw j2
                have hend : ∀ nb : Bool, nb = (cur && !badR ys q) → nb = (b15 && !((args.take (j + 1)).any (badR ys))) := by
                  intro nb e
                  rw [e, hst2.out, ← HCUR.out]
                  cases b15 <;> cases (args.take j).any (badR ys) <;> cases badR ys q <;> rfl
                have HEND := Aside0.mk hend; clear hend
                cases cur with
                | false =>
                  go_upto_region 19 with (fail)
                  go_quiet (fail)
                  go_wp2_with fail
                  refine ⟨⟨j + 1, by have := HJ.out; omega, by rw [HW.out], ?_, ⟨pw_below_drewN HBI.out _⟩⟩, ?_⟩
                  · rw [← HEND.out _ rfl]; rfl
                  · rw [HW.out]; have := HJ.out; simp [intOf]; omega
                | true =>
                  by_cases s0 : 0 ≤ q
                  · have f0 : decide (0 ≤ q) = true := decide_eq_true s0
                    by_cases s1 : q < (m : Int)
                    · have f1 : decide (q < (m : Int)) = true := decide_eq_true s1
                      obtain ⟨aY, eY, y0⟩ := bool_at HCB.out q s0 (by rw [HL.out]; exact s1)
                      cases eY
                      rw [add_plain] at y0
                      have HBR : Aside0 (badR ys q = !ybAt ys q) := ⟨by unfold badR; rw [if_neg (by omega), HL.out, if_neg (by omega)]⟩
                      have p0 : (0 ≤ q) = True := eq_true s0
                      have p1 : (q < (m : Int)) = True := eq_true s1
                      clear s0 s1
                      go_upto_region 19 with (fail)
                      go_quiet (fail)
                      go_wp2_with fail
                      refine ⟨⟨j + 1, by have := HJ.out; omega, by rw [HW.out], ?_, ⟨pw_below_drewN HBI.out _⟩⟩, ?_⟩
                      · rw [← HEND.out _ rfl, HBR.out]; simp
                      · rw [HW.out]; have := HJ.out; simp [intOf]; omega
                    · have f1 : decide (q < (m : Int)) = false := decide_eq_false s1
                      have HBR : Aside0 (badR ys q = true) := ⟨by unfold badR; rw [if_neg (by omega), HL.out, if_pos (by omega)]⟩
                      have S1 := Lib.hid s1; clear s1
                      go_upto_region 19 with (fail)
                      go_quiet (fail)
                      go_wp2_with fail
                      refine ⟨⟨j + 1, by have := HJ.out; omega, by rw [HW.out], ?_, ⟨pw_below_drewN HBI.out _⟩⟩, ?_⟩
                      · rw [← HEND.out _ rfl, HBR.out]; rfl
                      · rw [HW.out]; have := HJ.out; simp [intOf]; omega
                  · have f0 : decide (0 ≤ q) = false := decide_eq_false s0
                    have HBR : Aside0 (badR ys q = true) := ⟨by unfold badR; rw [if_pos (by omega)]⟩
                    have S0 := Lib.hid s0; clear s0
                    go_upto_region 19 with (fail)
                    go_quiet (fail)
                    go_wp2_with fail
                    refine ⟨⟨j + 1, by have := HJ.out; omega, by rw [HW.out], ?_, ⟨pw_below_drewN HBI.out _⟩⟩, ?_⟩
                    · rw [← HEND.out _ rfl, HBR.out]; rfl
                    · rw [HW.out]; have := HJ.out; simp [intOf]; omega
              · have b8 : decide ((j : Int) < (args.length : Int)) = false := decide_eq_false (by omega)
                have HDO : Aside0 (cur = (b && doOk ys op args)) := ⟨by rw [← HCUR.out, List.take_of_length_le (by omega), ← HB15.out, do_is, Bool.and_assoc]⟩
                have HYW : Aside0 (Kd.bool.R 4 WR (w.heap.size + 1) (fun _ => True) (.slice (some ⟨g, 0, none⟩) m cap) ys) := ⟨Kd.R_below HYB.out HBI.out⟩
                have KW : Aside0 (WR.heap[w.heap.size]? = _) := ⟨blk_below KB.out HBI.out⟩
                have HBW : Aside0 (Below w.heap.size w WR) := ⟨HBB.out.trans (below_base HBI.out HBB.out.size)⟩
                have J2 := Lib.hid j2; clear j2
                cases cur with
                | true =>
                  have hd2 := HDO.out.symm
                  rw [Bool.and_eq_true] at hd2
                  have HRB2 : Aside0 (rOk (m : Int) r = true) := ⟨by rw [HRB.out]; exact hd2.1⟩
                  have HOK : Aside0 (doOk ys op args = true) := ⟨hd2.2⟩
                  clear hd2 HRB
                  have HRB := HRB2
                  have hr := (rOk_iff _ _).1 HRB.out
                  have HE1 : Aside0 (chkE out (chkL (m : Int) (xs.drop (i + 1).toNat) (ys.set r.toNat true)) = chkP xs (m : Int) out) := ⟨by have h := HE.out; rw [hst.out, if_pos ⟨HOK.out, hr.1, hr.2⟩] at h; exact h⟩
                  have p0 : (0 ≤ r) = True := eq_true hr.1
                  have p1 : (r < (m : Int)) = True := eq_true hr.2
                  have HR := Aside0.mk hr; clear hr
                  have hcz := Kd.R_cell (h1 := fun _ => rfl) false (by rw [HL.out]; exact HYW.out) r HR.out.1 (by rw [HL.out]; exact HR.out.2)
                  have hcz1 := hcz.1
                  have hcz2 := hcz.2
                  clear hcz
                  have hput := Kd.R_put (h1 := fun _ => rfl) (by rw [HL.out]; exact HYW.out) r true
                  rw [HL.out] at hput
                  have HPUT := Aside0.mk hput.1
                  have HPG := Aside0.mk hput.2
                  clear hput
                  go_wp2_with fail
                  have hw : wrap64 (i + 1) = i + 1 := by unfold wrap64; have := HI.out; have := R3.out; omega
                  refine ⟨⟨i + 1, ys.set r.toNat true, by rw [hw], by have := HI.out; omega, by have := HI.out; omega, ⟨?_⟩, HPUT, ⟨?_⟩, HE1, ⟨below_set HBW.out (by have := HG.out; omega)⟩⟩, ?_⟩
                  · exact blk_far KW.out (show w.heap.size ≠ g by have := HG.out; omega) _
                  · rw [List.length_set]; exact HL.out
                  · rw [hw]
                    have := HI.out
                    simp [intOf]
                    omega
                | false =>
                  have HNO : Aside0 (¬ (insOk ys (.dox r op args) = true ∧ 0 ≤ insTo (.dox r op args) ∧ insTo (.dox r op args) < (m : Int))) := ⟨fun h => by
                    have h3 := HDO.out
                    rw [show doOk ys op args = true from h.1, ← HRB.out, show rOk (m : Int) r = true from (rOk_iff _ _).2 h.2] at h3
                    cases h3⟩
                  have HE1 : Aside0 (chkP xs (m : Int) out = 1) := ⟨by rw [← HE.out, hst.out, if_neg (fun h => HNO.out h)]; rfl⟩
                  go_wp2_with fail
                  go_ret
                  exact ⟨by rw [HE1.out]; rfl, HBW.out⟩
      | other =>
        obtain ⟨r, hr0⟩ : ∃ r : Int, r = 0 := ⟨_, rfl⟩
        dsimp only [numIns] at e1
        rw [← hr0] at e1
        clear hr0
        dsimp only [numIns] at e0 e1 e2 e3 e4 e5 l5 g5
        have G5 := Aside0.mk g5; clear g5
        have L5 := Aside0.mk l5; clear l5
        go_upto_region 8 with (fail)
        refine wp_forget (fun W' => Below wo.heap.size wo W' ∧ W'.heap[wo.heap.size]? = some (.cells #[.int .i64 0, .int .i64 r, .int .i64 0, .int .i64 0, .string ⟨#[]⟩, .slice A5 0 c5] 37 (0, 0))) ⟨below_alloc (Below.refl _ _) _, blk_new _ _⟩ ?_
        rintro WA ⟨hba, hka⟩
        have HBA := Aside0.mk hba; have HKA := Aside0.mk hka
        replace c10 := pw_cell_below hba c10
        replace c11 := pw_cell_below hba c11
        replace c12 := pw_cell_below hba c12
        clear e0 e1 e2 e3 e4 e5
        have d0 : WA.cell? ⟨wo.heap.size, 0, none⟩ = some (.int .i64 0) := (blk_cell HKA.out 0).trans rfl
        have d1 : WA.cell? ⟨wo.heap.size, 1, none⟩ = some (.int .i64 r) := (blk_cell HKA.out 1).trans rfl
        have d2 : WA.cell? ⟨wo.heap.size, 2, none⟩ = some (.int .i64 0) := (blk_cell HKA.out 2).trans rfl
        have d3 : WA.cell? ⟨wo.heap.size, 3, none⟩ = some (.int .i64 0) := (blk_cell HKA.out 3).trans rfl
        have d4 : WA.cell? ⟨wo.heap.size, 4, none⟩ = some (.string ⟨#[]⟩) := (blk_cell HKA.out 4).trans rfl
        have d5 : WA.cell? ⟨wo.heap.size, 5, none⟩ = some (.slice A5 0 c5) := (blk_cell HKA.out 5).trans rfl
        have HYA : Aside0 (Kd.bool.R 4 WA (w.heap.size + 1) (fun _ => True) (.slice (some ⟨g, 0, none⟩) m cap) ys) := ⟨Kd.R_below HY.out hba⟩
        have KA : Aside0 (WA.heap[w.heap.size]? = _) := ⟨blk_below K2.out hba⟩
        have HBWA : Aside0 (Below w.heap.size w WA) := ⟨HB.out.trans (below_base hba HB.out.size)⟩
        clear hba hka
        go_cut [6] (fun s6 wx => s6 = .bool (rOk m r) ∧ WA = wx)
        case first =>
          by_cases r0 : 0 ≤ r
          · have f0 : decide (0 ≤ r) = true := decide_eq_true r0
            by_cases r1 : r < (m : Int)
            · have f1 : decide (r < (m : Int)) = true := decide_eq_true r1
              go_wp2_with fail
              go_meet
              case rel => exact ⟨by unfold rOk; rw [f0, f1]; rfl, rfl⟩
            · have f1 : decide (r < (m : Int)) = false := decide_eq_false r1
              have R1h := Lib.hid r1; clear r1
              go_wp2_with fail
              go_meet
              case rel => exact ⟨by unfold rOk; rw [f0, f1]; rfl, rfl⟩
          · have f0 : decide (0 ≤ r) = false := decide_eq_false r0
            have R0h := Lib.hid r0; clear r0
            go_wp2_with fail
            go_meet
            case rel => exact ⟨by unfold rOk; rw [f0]; rfl, rfl⟩
        case rest =>
          obtain ⟨rfl, rfl⟩ := hcut
          generalize hrb : rOk (m : Int) r = b at *
          have HRB := Aside0.mk hrb; clear hrb
          have HE1 : Aside0 (chkP xs (m : Int) out = 1) := ⟨by rw [← HE.out, hst.out, if_neg (fun h => by cases h.1)]; rfl⟩
          go_wp2_with fail
          go_ret
          exact ⟨by rw [HE1.out]; rfl, HBWA.out⟩
    · have HC : Aside0 (Kd.bool.C wo (some ⟨g, 0, none⟩) ys.length ys) := ⟨(Kd.R_reads' HY.out).2.2⟩
      have b7 : decide (i < (xs.length : Int)) = false := decide_eq_false h2
      have HE1 : Aside0 (chkE out (some ys) = chkP xs (m : Int) out) := ⟨by rw [← HE.out, List.drop_of_length_le (by omega)]; rfl⟩
      have hcz := bool_at HC.out out R2.out.1 (by rw [HL.out]; exact R2.out.2)
      obtain ⟨ad, eA, e0⟩ := hcz
      cases eA
      rw [add_plain] at e0
      have HI := Lib.hid h2; clear h2
      generalize hyb : ybAt ys out = yb at *
      rcases Bool.eq_false_or_eq_true yb with rfl | rfl
      · have HE2 : Aside0 (chkP xs (m : Int) out = 0) := ⟨HE1.out.symm.trans (if_pos hyb)⟩
        clear hyb
        go_wp2_with fail
        go_ret
        exact ⟨by rw [HE2.out]; rfl, HB.out⟩
      · have HE2 : Aside0 (chkP xs (m : Int) out = 1) := ⟨HE1.out.symm.trans (if_neg (by rw [hyb]; exact Bool.false_ne_true))⟩
        clear hyb
        go_wp2_with fail
        go_ret
        exact ⟨by rw [HE2.out]; rfl, HB.out⟩
end Go.Proofs.YtbbembhfnapadaaDoor
