/- The walks of the document's Trace and Run. -/
import Derived.Test.YtbbembhfnapadaaDoorVnD
namespace Go.Proofs.YtbbembhfnapadaaDoor
open Go.RowKit Go.Proofs.YtbbembhfnapadaaDoorW.PrintWords Go.Proofs.YtbbembhfnapadaaDoorW.PrintLast Go.Proofs.YtbbembhfnapadaaDoorW.PrintMore PVmPlays Pl
set_option linter.unusedVariables false
set_option linter.unusedSimpArgs false

/-- An instruction's number is one of 64 bits. -/
def insNum : Ins → Prop
  | .lit _ n => I64 n
  | _ => True
theorem i64_set {l : List Int} (h : ∀ x ∈ l, I64 x) (i : Nat) {v : Int} (hv : I64 v) : ∀ x ∈ l.set i v, I64 x := fun x hx => by
  rcases List.mem_or_eq_of_mem_set hx with h1 | rfl
  · exact h x h1
  · exact hv

set_option maxRecDepth 20000 in
set_option maxHeartbeats 2000000 in
theorem reftrace_calls (xs : List Ins) (A : Option Addr) (c : Nat) (regs0 out : Int) (bs : List S39) (B : Option Addr) (d : Nat) (w : World) (hl : xs.length ≤ c) (hX : Kd.C k37 w A xs.length (xs.map numIns)) (hf : ∀ x ∈ xs, insFit x) (hnm : ∀ x ∈ xs, insNum x) (hB : k39.C w B bs.length bs) (hd : bs.length ≤ d) (hbs : bs.length ≤ 4611686018427387904) (hbn : ∀ b ∈ bs, I64 b.f1) :
    Calls Tryd.prog 21 #[.agg #[.slice A xs.length c, .int .i64 regs0, .int .i64 out], .slice B bs.length d] w fun e w' => Below w.heap.size w w' ∧ ((chkP xs regs0 out = 1 ∧ e = .returned (.tuple #[.slice none 0 0, .slice none 0 0, .int .i64 1])) ∨ (chkP xs regs0 out = 0 ∧ runL bs xs (List.replicate regs0.toNat 0) [] = none ∧ e = .returned (.tuple #[.slice none 0 0, .slice none 0 0, .int .i64 12])) ∨ ∃ wr regs vw vr, chkP xs regs0 out = 0 ∧ runL bs xs (List.replicate regs0.toNat 0) [] = some (wr, regs) ∧ e = .returned (.tuple #[vw, vr, .int .i64 0]) ∧ regs.length = regs0.toNat ∧ (Kd.int .i64).R 2 w' w.heap.size (fun _ => True) vw wr ∧ (Kd.int .i64).R 2 w' w.heap.size (fun _ => True) vr regs) := by
  have hu37 := Tryd.underlying37
  have hu24 := Tryd.underlying24
  have HB0 : Aside0 (Below w.heap.size w (w.alloc (.cells #[.slice A xs.length c, .int .i64 regs0, .int .i64 out] 24))) := ⟨below_alloc (Below.refl _ _) _⟩
  have HCK := Aside0.mk (refcheck_calls xs A c regs0 out (w.alloc (.cells #[.slice A xs.length c, .int .i64 regs0, .int .i64 out] 24)) hl (Kd.C_below hX HB0.out) hf)
  have HX := Aside0.mk hX; clear hX
  have HF := Aside0.mk hf; clear hf
  have HNM := Aside0.mk hnm; clear hnm
  have HBS := Aside0.mk hB; clear hB
  have HBD := Aside0.mk hd; clear hd
  have HBL := Aside0.mk hbs; clear hbs
  have HBN := Aside0.mk hbn; clear hbn
  have hck0 : chkP xs regs0 out = 0 ∨ chkP xs regs0 out = 1 := by
    by_cases h : chkP xs regs0 out = 0
    · exact .inl h
    · exact .inr (chk_one h)
  have HCK0 := Aside0.mk hck0; clear hck0
  go_enter Tryd.func21, Tryd.ntmps21
  go_wp2_with fail
  refine (HCK.out).mono ?_
  clear HCK
  rintro e w2 ⟨rfl, hb2⟩
  have K0 : Aside0 (w2.heap[w.heap.size]? = some (.cells #[.slice A xs.length c, .int .i64 regs0, .int .i64 out] 24 (0, 0))) := ⟨blk_below (blk_new w _) hb2⟩
  have HB2 : Aside0 (Below w.heap.size w w2) := ⟨HB0.out.trans (below_base hb2 (by rw [alloc_size]; omega))⟩
  have HS2 : Aside0 (w.heap.size + 1 ≤ w2.heap.size) := ⟨Nat.le_trans (Nat.le_of_eq (alloc_size w _).symm) hb2.size⟩
  clear hb2
  rcases HCK0.out with hc0 | hc0
  · rw [hc0]
    obtain ⟨hfp, yE, hk0⟩ := chk_zero hc0
    obtain ⟨m, hm⟩ := Int.eq_ofNat_of_zero_le (show 0 ≤ regs0 by have := hfp.1; omega)
    subst hm
    have hfp' := hfp
    obtain ⟨p1, p2, p3, p4, p5, p6⟩ := hfp'
    rw [Int.toNat_natCast] at hk0
    have HK := Aside0.mk hk0
    have R1 : Aside0 (1 ≤ m ∧ m ≤ 64) := ⟨by omega⟩
    have R3 : Aside0 (xs.length ≤ 128) := ⟨by omega⟩
    have HC0 := Aside0.mk hc0
    clear hk0 hfp p1 p2 p3 p4 p5 p6 hc0 HCK0
    have c10 : w2.cell? ⟨w.heap.size, 0, none⟩ = some (.slice A xs.length c) := (blk_cell K0.out 0).trans rfl
    have c11 : w2.cell? ⟨w.heap.size, 1, none⟩ = some (.int .i64 m) := (blk_cell K0.out 1).trans rfl
    have c12 : w2.cell? ⟨w.heap.size, 2, none⟩ = some (.int .i64 out) := (blk_cell K0.out 2).trans rfl
    go_wp2_with (first | ((with_reducible refine gate_dst (N := 17) rfl ?_); refine Kd.R_make (Kd.int .i64) _ 2 rfl (N := 17) rfl 43 _ _ rfl (m : Int) rfl rfl Tryd.underlying43 (.int .i64 0) 8 info2 rfl (by decide) (by omega) 0 (ok := fun _ => True) (okp := fun _ => True) rfl (fun _ hk => hk) trivial (by have := R1.out; omega) (by have := R1.out; rw [Int.toNat_natCast]; omega) (Below.refl _ _) (Nat.le_refl _) ?_; intro v20 w1 ho hb hg_ hnew_; clear hg_ hnew_ c10 c11 c12; rw [Int.toNat_natCast] at ho; have hf1 := Kd.R_form ho (by rw [List.length_replicate]; exact R1.out.1); obtain ⟨g, cap, hv, hg, _, _⟩ := hf1; rw [List.length_replicate] at hv; subst hv; have K1 : Aside0 (w1.heap[w.heap.size]? = some (.cells #[.slice A xs.length c, .int .i64 m, .int .i64 out] 24 (0, 0))) := ⟨blk_below K0.out hb⟩; have HB1 : Aside0 (Below w.heap.size w w1) := ⟨HB2.out.trans (below_base hb HB2.out.size)⟩; have hg2 : w.heap.size + 1 ≤ g := Nat.le_trans HS2.out hg; have HG := Aside0.mk hg2; have HO : Aside0 ((Kd.int .i64).R 2 w1 (w.heap.size + 1) (fun k => k = g) (.slice (some ⟨g, 0, none⟩) m cap) (List.replicate m 0)) := ⟨own_only (Kd.R_lower ho HS2.out) (List.length_replicate).symm⟩; clear ho hb hg hg2; have c10 : w1.cell? ⟨w.heap.size, 0, none⟩ = some (.slice A xs.length c) := (blk_cell K1.out 0).trans rfl; have c11 : w1.cell? ⟨w.heap.size, 1, none⟩ = some (.int .i64 m) := (blk_cell K1.out 1).trans rfl; have c12 : w1.cell? ⟨w.heap.size, 2, none⟩ = some (.int .i64 out) := (blk_cell K1.out 2).trans rfl))
    go_loopw [4, 5, 6, 7, 8, 9, 10, 11] (fun v4 v5 _ v7 _ _ _ _ w' => ∃ (i : Int) (ys : List Bool) (regs wl : List Int), v5 = .slice (some ⟨g, 0, none⟩) m cap ∧ v7 = .int .i64 i ∧ 0 ≤ i ∧ i ≤ xs.length ∧ Aside0 (w'.heap[w.heap.size]? = some (.cells #[.slice A xs.length c, .int .i64 m, .int .i64 out] 24 (0, 0))) ∧ Aside0 ((Kd.int .i64).R 2 w' (w.heap.size + 1) (fun k => k = g) (.slice (some ⟨g, 0, none⟩) m cap) regs) ∧ Aside0 (regs.length = m) ∧ Aside0 ((Kd.int .i64).R 2 w' (w.heap.size + 1) (fun k => k ≠ g) v4 wl) ∧ Aside0 ((wl.length : Int) = i) ∧ Aside0 (ys.length = m) ∧ Aside0 (chkL (m : Int) (xs.drop i.toNat) ys = some yE) ∧ Aside0 (runL bs (xs.drop i.toNat) regs wl = runL bs xs (List.replicate m 0) []) ∧ Aside0 (∀ x ∈ regs, I64 x) ∧ Aside0 (Below w.heap.size w w')) (fun _ _ _ v7 _ _ _ _ _ => xs.length - (intOf v7).toNat)
    case atStart => exact ⟨0, List.replicate m false, List.replicate m 0, [], rfl, rfl, Int.le_refl _, by omega, K1, HO, ⟨List.length_replicate⟩, ⟨Kd.R_nil _ _ _ _ _⟩, ⟨rfl⟩, ⟨List.length_replicate⟩, HK, ⟨rfl⟩, ⟨fun x hx => by rw [(List.mem_replicate.1 hx).2]; unfold I64; omega⟩, HB1⟩
    case round =>
      clear c10 c11 c12 HK
      obtain ⟨i, ys, regs, wl, rfl, rfl, h0, h1, K2, HR, HRL, HW, HWL, HYL, HK, HE, HRI, HB⟩ := hrel
      obtain ⟨wo, rfl⟩ : ∃ wo : World, wo = wr := ⟨_, rfl⟩
      have c10 : wo.cell? ⟨w.heap.size, 0, none⟩ = some (.slice A xs.length c) := (blk_cell K2.out 0).trans rfl
      have c11 : wo.cell? ⟨w.heap.size, 1, none⟩ = some (.int .i64 m) := (blk_cell K2.out 1).trans rfl
      have c12 : wo.cell? ⟨w.heap.size, 2, none⟩ = some (.int .i64 out) := (blk_cell K2.out 2).trans rfl
      have HGS : Aside0 (g < wo.heap.size) := ⟨Kd.R_lt HR.out g (by simp [Value.ownBlock])⟩
      obtain ⟨AW, cW, hvw⟩ := Kd.R_slice HW.out
      have hwn : wl.length = i.toNat := by have := HWL.out; omega
      rw [hwn] at hvw
      subst hvw
      have HWN := Aside0.mk hwn; clear hwn
      by_cases h2 : i < xs.length
      · have b7 : decide (i < (xs.length : Int)) = true := decide_eq_true h2
        obtain ⟨ad, A5, c5, eA, e0, e1, e2, e3, e4, e5, l5, g5⟩ := at_T37 HX.out i h0 h2
        cases eA
        rw [rd_num xs i h0 h2] at e0 e1 e2 e3 e4 e5 l5 g5
        replace e0 := pw_cell_below HB.out e0
        replace e1 := pw_cell_below HB.out e1
        replace e2 := pw_cell_below HB.out e2
        replace e3 := pw_cell_below HB.out e3
        replace e4 := pw_cell_below HB.out e4
        replace e5 := pw_cell_below HB.out e5
        have hst := Aside0.mk (run_step bs xs regs wl i h0 h2)
        have hck := chk_some h0 h2 HK.out
        have HOK := Aside0.mk hck.1.1
        have HTO := Aside0.mk hck.1.2
        have HK2 := Aside0.mk hck.2
        clear hck
        have hfx := Aside0.mk (HF.out _ (rdIns_mem h0 h2))
        have hnx := Aside0.mk (HNM.out _ (rdIns_mem h0 h2))
        have HI := Aside0.mk (show 0 ≤ i ∧ i < xs.length from ⟨h0, h2⟩)
        generalize rdIns xs i = x at *
        replace h0 := eq_true h0
        replace h2 := eq_true h2
        have lt0 : w.heap.size < wo.heap.size := blk_lt K2.out
        cases x with
        | lit r n =>
          dsimp only [numIns] at e0 e1 e2 e3 e4 e5 l5 g5
          have G5 := Aside0.mk g5; clear g5
          have L5 := Aside0.mk l5; clear l5
          go_upto_region 8 with (fail)
          refine wp_forget (fun W' => Below wo.heap.size wo W' ∧ W'.heap[wo.heap.size]? = some (.cells #[.int .i64 1, .int .i64 r, .int .i64 0, .int .i64 n, .string ⟨#[]⟩, .slice A5 0 c5] 37 (0, 0))) ⟨below_alloc (Below.refl _ _) _, blk_new _ _⟩ ?_
          rintro WA ⟨hba, hka⟩
          have HBA := Aside0.mk hba; have HKA := Aside0.mk hka
          replace c10 := pw_cell_below hba c10
          replace c11 := pw_cell_below hba c11
          replace c12 := pw_cell_below hba c12
          clear e0 e1 e2 e3 e4 e5
          have d0 : WA.cell? ⟨wo.heap.size, 0, none⟩ = some (.int .i64 1) := (blk_cell HKA.out 0).trans rfl
          have d1 : WA.cell? ⟨wo.heap.size, 1, none⟩ = some (.int .i64 r) := (blk_cell HKA.out 1).trans rfl
          have d2 : WA.cell? ⟨wo.heap.size, 2, none⟩ = some (.int .i64 0) := (blk_cell HKA.out 2).trans rfl
          have d3 : WA.cell? ⟨wo.heap.size, 3, none⟩ = some (.int .i64 n) := (blk_cell HKA.out 3).trans rfl
          have d4 : WA.cell? ⟨wo.heap.size, 4, none⟩ = some (.string ⟨#[]⟩) := (blk_cell HKA.out 4).trans rfl
          have d5 : WA.cell? ⟨wo.heap.size, 5, none⟩ = some (.slice A5 0 c5) := (blk_cell HKA.out 5).trans rfl
          clear hba hka
          have HST : Aside0 (runL bs (xs.drop i.toNat) regs wl = runL bs (xs.drop (i + 1).toNat) (regs.set r.toNat (n)) (wl ++ [n])) := ⟨hst.out⟩
          have HTO2 : Aside0 (0 ≤ r ∧ r < (m : Int)) := ⟨HTO.out⟩
          have HK3 : Aside0 (chkL (m : Int) (xs.drop (i + 1).toNat) (ys.set r.toNat true) = some yE) := ⟨HK2.out⟩
          have HVI : Aside0 (I64 (n)) := ⟨hnx.out⟩
          go_upto_region 20 with (fail)
          refine wp_forget (fun W' => Below wo.heap.size wo W' ∧ W'.cell? ⟨wo.heap.size, 1, none⟩ = some (.int .i64 r)) ⟨HBA.out, d1⟩ ?_
          rintro W ⟨hbW, d1⟩
          have HBW := Aside0.mk hbW; clear hbW
          have HR2 : Aside0 ((Kd.int .i64).R 2 W (w.heap.size + 1) (fun k => k = g) (.slice (some ⟨g, 0, none⟩) m cap) regs) := ⟨Kd.R_below HR.out HBW.out⟩
          have HW2 : Aside0 ((Kd.int .i64).R 2 W (w.heap.size + 1) (fun k => k ≠ g) (.slice AW i.toNat cW) wl) := ⟨Kd.R_below HW.out HBW.out⟩
          have hcz := row_cell HR2.out HRL.out r HTO2.out.1 HTO2.out.2
          have hcz1 := hcz.1
          have hcz2 := hcz.2
          clear hcz
          have hput := row_put HR2.out HRL.out r (n)
          have HPUT : Aside0 ((Kd.int .i64).R 2 (W.setCell ⟨g, r.toNat, none⟩ (.int .i64 (n))) (w.heap.size + 1) (fun k => k = g) (.slice (some ⟨g, 0, none⟩) m cap) (regs.set r.toNat (n))) := ⟨hput⟩
          have HW3 : Aside0 ((Kd.int .i64).R 2 (W.setCell ⟨g, r.toNat, none⟩ (.int .i64 (n))) (w.heap.size + 1) (fun k => k ≠ g) (.slice AW i.toNat cW) wl) := ⟨Kd.R_far (p := ⟨g, r.toNat, none⟩) HW2.out (fun k hk => hk) _⟩
          clear hput HR2 HW2
          have HB3 : Aside0 (Below (w.heap.size + 1) wo (W.setCell ⟨g, r.toNat, none⟩ (.int .i64 (n)))) := ⟨(below_base HBW.out (blk_lt K2.out)).setCell HG.out _⟩
          have HS3 : Aside0 (wo.heap.size ≤ (W.setCell ⟨g, r.toNat, none⟩ (.int .i64 (n))).heap.size) := ⟨HB3.out.size⟩
          have p0 : (0 ≤ r) = True := eq_true HTO2.out.1
          have p1 : (r < (m : Int)) = True := eq_true HTO2.out.2
          go_upto_region 21 with (fail)
          refine wp_forget (fun W' => (Kd.int .i64).R 2 W' (w.heap.size + 1) (fun k => k = g) (.slice (some ⟨g, 0, none⟩) m cap) (regs.set r.toNat (n)) ∧ (Kd.int .i64).R 2 W' (w.heap.size + 1) (fun k => k ≠ g) (.slice AW i.toNat cW) wl ∧ Below (w.heap.size + 1) wo W' ∧ wo.heap.size ≤ W'.heap.size) ⟨HPUT.out, HW3.out, HB3.out, HS3.out⟩ ?_
          clear hcz1 hcz2 HPUT HW3 HB3 HS3 d1
          rintro W2 ⟨hput, hw3, hb3, hs3⟩
          have HPUT := Aside0.mk hput; have HW3 := Aside0.mk hw3; have HB3 := Aside0.mk hb3; have HS3 := Aside0.mk hs3
          clear hput hw3 hb3 hs3
          have hfr : ∀ k, W2.heap.size ≤ k → k ≠ g := fun k hk => by have h1 := HS3.out; have h2 := HGS.out; omega
          have HFR := Aside0.mk hfr; clear hfr
          have hln : (wl.length + 1) * 8 ≤ 140737488355328 := by have h1 := HWN.out; have h2 := R3.out; have h3 := HI.out; omega
          have HLN := Aside0.mk hln; clear hln
          have HSZ : Aside0 (w.heap.size + 1 ≤ W2.heap.size) := ⟨Nat.le_trans (blk_lt K2.out) HS3.out⟩
          go_wp2_with (first | ((with_reducible refine gate_builtin (b := .append) (xs := #[.tmp 74, .tmp 76]) rfl ?_); at_builtin; refine Kd.R_append (Kd.int .i64) (w0 := wo) (w.heap.size + 1) rfl (.tmp 74) (.tmp 76) 43 2 (.int .i64 0) 8 rfl Tryd.underlying43 info2 rfl (by decide) (by omega) (.slice AW i.toNat cW) wl (n) [.int .i64 (n)] (fun k => k ≠ g) (fun _ => False) rfl rfl rfl (fun _ h => h.elim) HFR.out HW3.out HB3.out HSZ.out HLN.out ?_; intro v81 w81 ho81 hb81 hg81 hat81; clear hat81; have HO81 := Aside0.mk ho81; have HB81 := Aside0.mk hb81; have HG81 := Aside0.mk hg81; clear ho81 hb81 hg81))
          have HR9 : Aside0 ((Kd.int .i64).R 2 w81 (w.heap.size + 1) (fun k => k = g) (.slice (some ⟨g, 0, none⟩) m cap) (regs.set r.toNat (n))) := ⟨Kd.R_grown HPUT.out HG81.out (fun k hk e => HW3.out.1 k e.symm hk)⟩
          have hw : wrap64 (i + 1) = i + 1 := by unfold wrap64; have := HI.out; have := R3.out; omega
          refine ⟨⟨i + 1, ys.set r.toNat true, regs.set r.toNat (n), wl ++ [n], rfl, by rw [hw], by have := HI.out; omega, by have := HI.out; omega, ⟨(HB81.out.block _ (by omega)).trans K2.out⟩, HR9, ⟨by rw [List.length_set]; exact HRL.out⟩, HO81, ⟨by rw [List.length_append, List.length_singleton]; have := HWL.out; omega⟩, ⟨by rw [List.length_set]; exact HYL.out⟩, HK3, ⟨by rw [← HST.out]; exact HE.out⟩, ⟨i64_set HRI.out _ HVI.out⟩, ⟨HB.out.trans (below_base HB81.out (by omega))⟩⟩, ?_⟩
          rw [hw]
          have := HI.out
          simp [intOf]
          omega
        | var r s =>
          dsimp only [numIns] at e0 e1 e2 e3 e4 e5 l5 g5
          have G5 := Aside0.mk g5; clear g5
          have L5 := Aside0.mk l5; clear l5
          go_upto_region 8 with (fail)
          refine wp_forget (fun W' => Below wo.heap.size wo W' ∧ W'.heap[wo.heap.size]? = some (.cells #[.int .i64 2, .int .i64 r, .int .i64 0, .int .i64 0, .string s, .slice A5 0 c5] 37 (0, 0))) ⟨below_alloc (Below.refl _ _) _, blk_new _ _⟩ ?_
          rintro WA ⟨hba, hka⟩
          have HBA := Aside0.mk hba; have HKA := Aside0.mk hka
          replace c10 := pw_cell_below hba c10
          replace c11 := pw_cell_below hba c11
          replace c12 := pw_cell_below hba c12
          clear e0 e1 e2 e3 e4 e5
          have d0 : WA.cell? ⟨wo.heap.size, 0, none⟩ = some (.int .i64 2) := (blk_cell HKA.out 0).trans rfl
          have d1 : WA.cell? ⟨wo.heap.size, 1, none⟩ = some (.int .i64 r) := (blk_cell HKA.out 1).trans rfl
          have d2 : WA.cell? ⟨wo.heap.size, 2, none⟩ = some (.int .i64 0) := (blk_cell HKA.out 2).trans rfl
          have d3 : WA.cell? ⟨wo.heap.size, 3, none⟩ = some (.int .i64 0) := (blk_cell HKA.out 3).trans rfl
          have d4 : WA.cell? ⟨wo.heap.size, 4, none⟩ = some (.string s) := (blk_cell HKA.out 4).trans rfl
          have d5 : WA.cell? ⟨wo.heap.size, 5, none⟩ = some (.slice A5 0 c5) := (blk_cell HKA.out 5).trans rfl
          clear hba hka
          have HST : Aside0 (runL bs (xs.drop i.toNat) regs wl = runL bs (xs.drop (i + 1).toNat) (regs.set r.toNat (getP bs s)) (wl ++ [getP bs s])) := ⟨hst.out⟩
          have HTO2 : Aside0 (0 ≤ r ∧ r < (m : Int)) := ⟨HTO.out⟩
          have HK3 : Aside0 (chkL (m : Int) (xs.drop (i + 1).toNat) (ys.set r.toNat true) = some yE) := ⟨HK2.out⟩
          go_wp2_with fail
          refine (refget_calls bs s B d WA (Kd.C_below HBS.out (HB.out.trans (below_base HBA.out HB.out.size))) HBD.out HBL.out).mono ?_
          rintro e w4 ⟨rfl, hd4⟩
          have HBD4 : Aside0 (Below wo.heap.size wo w4) := ⟨HBA.out.trans (below_base hd4.below HBA.out.size)⟩
          replace d0 := pw_cell_below hd4.below d0
          replace d1 := pw_cell_below hd4.below d1
          clear d2 d3 d4 d5 c10 c11 c12 hd4
          have HVI : Aside0 (I64 (getP bs s)) := ⟨getP_bd bs s HBN.out⟩
          go_upto_region 20 with (fail)
          refine wp_forget (fun W' => Below wo.heap.size wo W' ∧ W'.cell? ⟨wo.heap.size, 1, none⟩ = some (.int .i64 r)) ⟨HBD4.out, d1⟩ ?_
          rintro W ⟨hbW, d1⟩
          have HBW := Aside0.mk hbW; clear hbW
          have HR2 : Aside0 ((Kd.int .i64).R 2 W (w.heap.size + 1) (fun k => k = g) (.slice (some ⟨g, 0, none⟩) m cap) regs) := ⟨Kd.R_below HR.out HBW.out⟩
          have HW2 : Aside0 ((Kd.int .i64).R 2 W (w.heap.size + 1) (fun k => k ≠ g) (.slice AW i.toNat cW) wl) := ⟨Kd.R_below HW.out HBW.out⟩
          have hcz := row_cell HR2.out HRL.out r HTO2.out.1 HTO2.out.2
          have hcz1 := hcz.1
          have hcz2 := hcz.2
          clear hcz
          have hput := row_put HR2.out HRL.out r (getP bs s)
          have HPUT : Aside0 ((Kd.int .i64).R 2 (W.setCell ⟨g, r.toNat, none⟩ (.int .i64 (getP bs s))) (w.heap.size + 1) (fun k => k = g) (.slice (some ⟨g, 0, none⟩) m cap) (regs.set r.toNat (getP bs s))) := ⟨hput⟩
          have HW3 : Aside0 ((Kd.int .i64).R 2 (W.setCell ⟨g, r.toNat, none⟩ (.int .i64 (getP bs s))) (w.heap.size + 1) (fun k => k ≠ g) (.slice AW i.toNat cW) wl) := ⟨Kd.R_far (p := ⟨g, r.toNat, none⟩) HW2.out (fun k hk => hk) _⟩
          clear hput HR2 HW2
          have HB3 : Aside0 (Below (w.heap.size + 1) wo (W.setCell ⟨g, r.toNat, none⟩ (.int .i64 (getP bs s)))) := ⟨(below_base HBW.out (blk_lt K2.out)).setCell HG.out _⟩
          have HS3 : Aside0 (wo.heap.size ≤ (W.setCell ⟨g, r.toNat, none⟩ (.int .i64 (getP bs s))).heap.size) := ⟨HB3.out.size⟩
          have p0 : (0 ≤ r) = True := eq_true HTO2.out.1
          have p1 : (r < (m : Int)) = True := eq_true HTO2.out.2
          go_upto_region 21 with (fail)
          refine wp_forget (fun W' => (Kd.int .i64).R 2 W' (w.heap.size + 1) (fun k => k = g) (.slice (some ⟨g, 0, none⟩) m cap) (regs.set r.toNat (getP bs s)) ∧ (Kd.int .i64).R 2 W' (w.heap.size + 1) (fun k => k ≠ g) (.slice AW i.toNat cW) wl ∧ Below (w.heap.size + 1) wo W' ∧ wo.heap.size ≤ W'.heap.size) ⟨HPUT.out, HW3.out, HB3.out, HS3.out⟩ ?_
          clear hcz1 hcz2 HPUT HW3 HB3 HS3 d1
          rintro W2 ⟨hput, hw3, hb3, hs3⟩
          have HPUT := Aside0.mk hput; have HW3 := Aside0.mk hw3; have HB3 := Aside0.mk hb3; have HS3 := Aside0.mk hs3
          clear hput hw3 hb3 hs3
          have hfr : ∀ k, W2.heap.size ≤ k → k ≠ g := fun k hk => by have h1 := HS3.out; have h2 := HGS.out; omega
          have HFR := Aside0.mk hfr; clear hfr
          have hln : (wl.length + 1) * 8 ≤ 140737488355328 := by have h1 := HWN.out; have h2 := R3.out; have h3 := HI.out; omega
          have HLN := Aside0.mk hln; clear hln
          have HSZ : Aside0 (w.heap.size + 1 ≤ W2.heap.size) := ⟨Nat.le_trans (blk_lt K2.out) HS3.out⟩
          go_wp2_with (first | ((with_reducible refine gate_builtin (b := .append) (xs := #[.tmp 74, .tmp 76]) rfl ?_); at_builtin; refine Kd.R_append (Kd.int .i64) (w0 := wo) (w.heap.size + 1) rfl (.tmp 74) (.tmp 76) 43 2 (.int .i64 0) 8 rfl Tryd.underlying43 info2 rfl (by decide) (by omega) (.slice AW i.toNat cW) wl (getP bs s) [.int .i64 (getP bs s)] (fun k => k ≠ g) (fun _ => False) rfl rfl rfl (fun _ h => h.elim) HFR.out HW3.out HB3.out HSZ.out HLN.out ?_; intro v81 w81 ho81 hb81 hg81 hat81; clear hat81; have HO81 := Aside0.mk ho81; have HB81 := Aside0.mk hb81; have HG81 := Aside0.mk hg81; clear ho81 hb81 hg81))
          have HR9 : Aside0 ((Kd.int .i64).R 2 w81 (w.heap.size + 1) (fun k => k = g) (.slice (some ⟨g, 0, none⟩) m cap) (regs.set r.toNat (getP bs s))) := ⟨Kd.R_grown HPUT.out HG81.out (fun k hk e => HW3.out.1 k e.symm hk)⟩
          have hw : wrap64 (i + 1) = i + 1 := by unfold wrap64; have := HI.out; have := R3.out; omega
          refine ⟨⟨i + 1, ys.set r.toNat true, regs.set r.toNat (getP bs s), wl ++ [getP bs s], rfl, by rw [hw], by have := HI.out; omega, by have := HI.out; omega, ⟨(HB81.out.block _ (by omega)).trans K2.out⟩, HR9, ⟨by rw [List.length_set]; exact HRL.out⟩, HO81, ⟨by rw [List.length_append, List.length_singleton]; have := HWL.out; omega⟩, ⟨by rw [List.length_set]; exact HYL.out⟩, HK3, ⟨by rw [← HST.out]; exact HE.out⟩, ⟨i64_set HRI.out _ HVI.out⟩, ⟨HB.out.trans (below_base HB81.out (by omega))⟩⟩, ?_⟩
          rw [hw]
          have := HI.out
          simp [intOf]
          omega
        | dox r op args =>
          dsimp only [numIns] at e0 e1 e2 e3 e4 e5 l5 g5
          have G5 := Aside0.mk g5; clear g5
          have L5 := Aside0.mk l5; clear l5
          go_upto_region 8 with (fail)
          refine wp_forget (fun W' => Below wo.heap.size wo W' ∧ W'.heap[wo.heap.size]? = some (.cells #[.int .i64 3, .int .i64 r, .int .i64 op, .int .i64 0, .string ⟨#[]⟩, .slice A5 args.length c5] 37 (0, 0))) ⟨below_alloc (Below.refl _ _) _, blk_new _ _⟩ ?_
          rintro WA ⟨hba, hka⟩
          have HBA := Aside0.mk hba; have HKA := Aside0.mk hka
          replace c10 := pw_cell_below hba c10
          replace c11 := pw_cell_below hba c11
          replace c12 := pw_cell_below hba c12
          clear e0 e1 e2 e3 e4 e5
          have d0 : WA.cell? ⟨wo.heap.size, 0, none⟩ = some (.int .i64 3) := (blk_cell HKA.out 0).trans rfl
          have d1 : WA.cell? ⟨wo.heap.size, 1, none⟩ = some (.int .i64 r) := (blk_cell HKA.out 1).trans rfl
          have d2 : WA.cell? ⟨wo.heap.size, 2, none⟩ = some (.int .i64 op) := (blk_cell HKA.out 2).trans rfl
          have d3 : WA.cell? ⟨wo.heap.size, 3, none⟩ = some (.int .i64 0) := (blk_cell HKA.out 3).trans rfl
          have d4 : WA.cell? ⟨wo.heap.size, 4, none⟩ = some (.string ⟨#[]⟩) := (blk_cell HKA.out 4).trans rfl
          have d5 : WA.cell? ⟨wo.heap.size, 5, none⟩ = some (.slice A5 args.length c5) := (blk_cell HKA.out 5).trans rfl
          clear hba hka
          have HDO := Aside0.mk (do_parts (show doOk ys op args = true from HOK.out)); clear HOK
          rw [HYL.out] at HDO
          have HST0 : (runL bs (xs.drop i.toNat) regs wl = if (apR op (args.map (rd regs))).2 = 0 then runL bs (xs.drop (i + 1).toNat) (regs.set r.toNat (apR op (args.map (rd regs))).1) (wl ++ [(apR op (args.map (rd regs))).1]) else none) := hst.out
          have HTO2 : Aside0 (0 ≤ r ∧ r < (m : Int)) := ⟨HTO.out⟩
          have HK3 : Aside0 (chkL (m : Int) (xs.drop (i + 1).toNat) (ys.set r.toNat true) = some yE) := ⟨HK2.out⟩
          have HLA : Aside0 (args.length ≤ 3) := ⟨by have h1 := HDO.out.2.2.1; have h2 := arK_le op; omega⟩
          have HRA : Aside0 ((Kd.int .i64).R 2 WA (w.heap.size + 1) (fun k => k = g) (.slice (some ⟨g, 0, none⟩) m cap) regs) := ⟨Kd.R_below HR.out HBA.out⟩
          have HXB : Aside0 ((Kd.int .i64).C WA A5 args.length args) := ⟨Kd.C_below G5.out (HB.out.trans (below_base HBA.out HB.out.size))⟩
          go_wp2_with fail
          go_loopw [10, 11] (fun v10 v11 w' => ∃ j : Int, v11 = .int .i64 j ∧ 0 ≤ j ∧ j ≤ args.length ∧ Aside0 ((Kd.int .i64).R 2 w' WA.heap.size (fun _ => True) v10 ((args.take j.toNat).map (rd regs))) ∧ Aside0 (Below WA.heap.size WA w')) (fun _ v11 _ => args.length - (intOf v11).toNat)
          case atStart => exact ⟨0, rfl, Int.le_refl _, by omega, ⟨Kd.R_nil _ _ _ _ _⟩, ⟨Below.refl _ _⟩⟩
          case round =>
            obtain ⟨j, rfl, j0, j1, HV, HBI⟩ := hrel
            replace d0 := pw_cell_below HBI.out d0
            replace d1 := pw_cell_below HBI.out d1
            replace d2 := pw_cell_below HBI.out d2
            replace d3 := pw_cell_below HBI.out d3
            replace d5 := pw_cell_below HBI.out d5
            obtain ⟨ls, hls⟩ : ∃ ls, ls = (args.take j.toNat).map (rd regs) := ⟨_, rfl⟩
            have hll : ls.length = j.toNat := by rw [hls, List.length_map, List.length_take]; omega
            rw [← hls] at HV
            have HLS := Aside0.mk hls; clear hls
            by_cases j2 : j < args.length
            · have b8 : decide (j < (args.length : Int)) = true := decide_eq_true j2
              obtain ⟨aX, eX, x0⟩ := int_at (Kd.C_below HXB.out HBI.out) j j0 j2
              cases eX
              have hrr := HDO.out.2.2.2 j j0 j2
              have y0 := pw_cell_below HBI.out (row_cell HRA.out HRL.out (rd args j) hrr.1 hrr.2).1
              have hms := Aside0.mk (map_step (rd regs) args j j0 j2)
              have HJ := Aside0.mk (show 0 ≤ j ∧ j < args.length from ⟨j0, j2⟩)
              have HLL := Aside0.mk hll; clear hll
              have p0 : (0 ≤ rd args j) = True := eq_true hrr.1
              have p1 : (rd args j < (m : Int)) = True := eq_true hrr.2
              clear hrr
              replace j0 := eq_true j0
              replace j2 := eq_true j2
              obtain ⟨AV, cV, hv⟩ := Kd.R_slice HV.out
              rw [HLL.out] at hv
              subst hv
              have hln : (ls.length + 1) * 8 ≤ 140737488355328 := by have h1 := HLL.out; have h2 := HLA.out; have h3 := HJ.out; omega
              have HLN := Aside0.mk hln; clear hln
              go_wp2_with (first | ((with_reducible refine gate_builtin (b := .append) (xs := #[.tmp 49, .tmp 58]) rfl ?_); at_builtin; refine Kd.R_append (Kd.int .i64) (w0 := WA) WA.heap.size rfl (.tmp 49) (.tmp 58) 43 2 (.int .i64 0) 8 rfl Tryd.underlying43 info2 rfl (by decide) (by omega) (.slice AV j.toNat cV) ls (rd regs (rd args j)) [.int .i64 (rd regs (rd args j))] (fun _ => True) (fun _ => False) rfl rfl rfl (fun _ h => h.elim) (fun _ _ => trivial) HV.out HBI.out HBI.out.size HLN.out ?_; intro v61 w61 ho61 hb61 hg61 hat61; clear hat61 hg61; have HO61 := Aside0.mk ho61; have HB61 := Aside0.mk hb61; clear ho61 hb61))
              have hw : wrap64 (j + 1) = j + 1 := by unfold wrap64; have := HJ.out; have := HLA.out; omega
              refine ⟨⟨j + 1, by rw [hw], by have := HJ.out; omega, by have := HJ.out; omega, ⟨?_⟩, HB61⟩, ?_⟩
              · rw [← hms.out, ← HLS.out]; exact HO61.out
              · rw [hw]
                have := HJ.out
                simp [intOf]
                omega
            · have b8 : decide (j < (args.length : Int)) = false := decide_eq_false j2
              have hal : ls = args.map (rd regs) := by rw [HLS.out, List.take_of_length_le (by omega)]
              have hla : ls.length = args.length := by rw [hal, List.length_map]
              have hli : ∀ x ∈ ls, I64 x := fun x hx => by
                rw [hal] at hx
                obtain ⟨q, hq, rfl⟩ := List.mem_map.1 hx
                obtain ⟨t, ht, rfl⟩ := List.getElem_of_mem hq
                have hr2 := HDO.out.2.2.2 (t : Int) (by omega) (by omega)
                have e : rd args (t : Int) = args[t] := by unfold rd; rw [Int.toNat_natCast, List.getD_eq_getElem?_getD, List.getElem?_eq_getElem ht]; rfl
                rw [e] at hr2
                exact HRI.out _ (rd_mem hr2.1 (by rw [HRL.out]; exact hr2.2))
              rw [← hal] at HST0
              have HJ := Lib.hid j2; clear j2 hll
              obtain ⟨AV, cV, hv, hcv, hCV⟩ := Kd.R_reads HV.out
              subst hv
              have HAI := Aside0.mk (apR_bd op ls hli HDO.out.1 HDO.out.2.1 (by rw [hla]; exact HDO.out.2.2.1))
              have HAP := Aside0.mk (refapply_calls op ls AV cV wr HDO.out.1 HDO.out.2.1 (by rw [hla]; exact HDO.out.2.2.1) hli hCV hcv)
              have HLL2 := Aside0.mk hla
              clear hCV hcv hal hla hli
              go_wp2_with fail
              refine (HAP.out).mono ?_
              clear HAP
              rintro e w4 ⟨rfl, hd4⟩
              generalize apR op ls = pp at *
              obtain ⟨pv, pe⟩ := pp
              have HBD4 : Aside0 (Below wo.heap.size wo w4) := ⟨HBA.out.trans (below_base (HBI.out.trans (below_base hd4.below HBI.out.size)) HBA.out.size)⟩
              replace d1 := pw_cell_below hd4.below d1
              clear d0 d2 d3 d4 d5 c10 c11 c12
              have HD4 := Aside0.mk hd4; clear hd4
              by_cases hpe : pe = 0
              · subst hpe
                have HST : Aside0 (runL bs (xs.drop i.toNat) regs wl = runL bs (xs.drop (i + 1).toNat) (regs.set r.toNat pv) (wl ++ [pv])) := ⟨by rw [HST0]; exact if_pos rfl⟩
                clear HST0 hst
                have HVI : Aside0 (I64 (pv)) := ⟨HAI.out⟩
                go_upto_region 20 with (fail)
                refine wp_forget (fun W' => Below wo.heap.size wo W' ∧ W'.cell? ⟨wo.heap.size, 1, none⟩ = some (.int .i64 r)) ⟨HBD4.out, d1⟩ ?_
                rintro W ⟨hbW, d1⟩
                have HBW := Aside0.mk hbW; clear hbW
                have HR2 : Aside0 ((Kd.int .i64).R 2 W (w.heap.size + 1) (fun k => k = g) (.slice (some ⟨g, 0, none⟩) m cap) regs) := ⟨Kd.R_below HR.out HBW.out⟩
                have HW2 : Aside0 ((Kd.int .i64).R 2 W (w.heap.size + 1) (fun k => k ≠ g) (.slice AW i.toNat cW) wl) := ⟨Kd.R_below HW.out HBW.out⟩
                have hcz := row_cell HR2.out HRL.out r HTO2.out.1 HTO2.out.2
                have hcz1 := hcz.1
                have hcz2 := hcz.2
                clear hcz
                have hput := row_put HR2.out HRL.out r (pv)
                have HPUT : Aside0 ((Kd.int .i64).R 2 (W.setCell ⟨g, r.toNat, none⟩ (.int .i64 (pv))) (w.heap.size + 1) (fun k => k = g) (.slice (some ⟨g, 0, none⟩) m cap) (regs.set r.toNat (pv))) := ⟨hput⟩
                have HW3 : Aside0 ((Kd.int .i64).R 2 (W.setCell ⟨g, r.toNat, none⟩ (.int .i64 (pv))) (w.heap.size + 1) (fun k => k ≠ g) (.slice AW i.toNat cW) wl) := ⟨Kd.R_far (p := ⟨g, r.toNat, none⟩) HW2.out (fun k hk => hk) _⟩
                clear hput HR2 HW2
                have HB3 : Aside0 (Below (w.heap.size + 1) wo (W.setCell ⟨g, r.toNat, none⟩ (.int .i64 (pv)))) := ⟨(below_base HBW.out (blk_lt K2.out)).setCell HG.out _⟩
                have HS3 : Aside0 (wo.heap.size ≤ (W.setCell ⟨g, r.toNat, none⟩ (.int .i64 (pv))).heap.size) := ⟨HB3.out.size⟩
                have p0 : (0 ≤ r) = True := eq_true HTO2.out.1
                have p1 : (r < (m : Int)) = True := eq_true HTO2.out.2
                go_upto_region 21 with (fail)
                refine wp_forget (fun W' => (Kd.int .i64).R 2 W' (w.heap.size + 1) (fun k => k = g) (.slice (some ⟨g, 0, none⟩) m cap) (regs.set r.toNat (pv)) ∧ (Kd.int .i64).R 2 W' (w.heap.size + 1) (fun k => k ≠ g) (.slice AW i.toNat cW) wl ∧ Below (w.heap.size + 1) wo W' ∧ wo.heap.size ≤ W'.heap.size) ⟨HPUT.out, HW3.out, HB3.out, HS3.out⟩ ?_
                clear hcz1 hcz2 HPUT HW3 HB3 HS3 d1
                rintro W2 ⟨hput, hw3, hb3, hs3⟩
                have HPUT := Aside0.mk hput; have HW3 := Aside0.mk hw3; have HB3 := Aside0.mk hb3; have HS3 := Aside0.mk hs3
                clear hput hw3 hb3 hs3
                have hfr : ∀ k, W2.heap.size ≤ k → k ≠ g := fun k hk => by have h1 := HS3.out; have h2 := HGS.out; omega
                have HFR := Aside0.mk hfr; clear hfr
                have hln : (wl.length + 1) * 8 ≤ 140737488355328 := by have h1 := HWN.out; have h2 := R3.out; have h3 := HI.out; omega
                have HLN := Aside0.mk hln; clear hln
                have HSZ : Aside0 (w.heap.size + 1 ≤ W2.heap.size) := ⟨Nat.le_trans (blk_lt K2.out) HS3.out⟩
                go_wp2_with (first | ((with_reducible refine gate_builtin (b := .append) (xs := #[.tmp 74, .tmp 76]) rfl ?_); at_builtin; refine Kd.R_append (Kd.int .i64) (w0 := wo) (w.heap.size + 1) rfl (.tmp 74) (.tmp 76) 43 2 (.int .i64 0) 8 rfl Tryd.underlying43 info2 rfl (by decide) (by omega) (.slice AW i.toNat cW) wl (pv) [.int .i64 (pv)] (fun k => k ≠ g) (fun _ => False) rfl rfl rfl (fun _ h => h.elim) HFR.out HW3.out HB3.out HSZ.out HLN.out ?_; intro v81 w81 ho81 hb81 hg81 hat81; clear hat81; have HO81 := Aside0.mk ho81; have HB81 := Aside0.mk hb81; have HG81 := Aside0.mk hg81; clear ho81 hb81 hg81))
                have HR9 : Aside0 ((Kd.int .i64).R 2 w81 (w.heap.size + 1) (fun k => k = g) (.slice (some ⟨g, 0, none⟩) m cap) (regs.set r.toNat (pv))) := ⟨Kd.R_grown HPUT.out HG81.out (fun k hk e => HW3.out.1 k e.symm hk)⟩
                have hw : wrap64 (i + 1) = i + 1 := by unfold wrap64; have := HI.out; have := R3.out; omega
                refine ⟨⟨i + 1, ys.set r.toNat true, regs.set r.toNat (pv), wl ++ [pv], rfl, by rw [hw], by have := HI.out; omega, by have := HI.out; omega, ⟨(HB81.out.block _ (by omega)).trans K2.out⟩, HR9, ⟨by rw [List.length_set]; exact HRL.out⟩, HO81, ⟨by rw [List.length_append, List.length_singleton]; have := HWL.out; omega⟩, ⟨by rw [List.length_set]; exact HYL.out⟩, HK3, ⟨by rw [← HST.out]; exact HE.out⟩, ⟨i64_set HRI.out _ HVI.out⟩, ⟨HB.out.trans (below_base HB81.out (by omega))⟩⟩, ?_⟩
                rw [hw]
                have := HI.out
                simp [intOf]
                omega
              · have f1 : (pe != 0) = true := by simp [hpe]
                have HTR : Aside0 (runL bs xs (List.replicate m 0) [] = none) := ⟨by rw [← HE.out, HST0]; exact if_neg hpe⟩
                clear HST0 hst
                have HPE := Lib.hid hpe; clear hpe
                go_wp2_with fail
                go_ret3
                exact ⟨HB.out.trans (below_base HBD4.out HB.out.size), .inr (.inl ⟨HC0.out, by rw [Int.toNat_natCast]; exact HTR.out, rfl⟩)⟩
        | other => exact absurd HOK.out Bool.false_ne_true
      · have b7 : decide (i < (xs.length : Int)) = false := decide_eq_false h2
        have hfin : runL bs xs (List.replicate m 0) [] = some (wl, regs) := by rw [← HE.out, List.drop_of_length_le (by omega)]; rfl
        have HFIN := Aside0.mk hfin; clear hfin
        have HI := Lib.hid h2; clear h2
        go_wp2_with fail
        go_ret3
        exact ⟨HB.out, .inr (.inr ⟨HC0.out, wl, regs, HFIN.out, _, _, rfl, HRL.out, Kd.R_mono (Kd.R_lower HW.out (by omega)) (fun _ _ => trivial), Kd.R_mono (Kd.R_lower HR.out (by omega)) (fun _ _ => trivial)⟩)⟩
  · rw [hc0]
    have HC0 := Aside0.mk hc0; clear hc0 HCK0
    go_wp2_with fail
    go_ret3
    exact ⟨HB2.out, .inl ⟨HC0.out, rfl⟩⟩

set_option maxRecDepth 20000 in
set_option maxHeartbeats 1000000 in
theorem refrun_calls (xs : List Ins) (A : Option Addr) (c : Nat) (regs0 out : Int) (bs : List S39) (B : Option Addr) (d : Nat) (w : World) (hl : xs.length ≤ c) (hX : Kd.C k37 w A xs.length (xs.map numIns)) (hf : ∀ x ∈ xs, insFit x) (hnm : ∀ x ∈ xs, insNum x) (hB : k39.C w B bs.length bs) (hd : bs.length ≤ d) (hbs : bs.length ≤ 4611686018427387904) (hbn : ∀ b ∈ bs, I64 b.f1) :
    Calls Tryd.prog 19 #[.agg #[.slice A xs.length c, .int .i64 regs0, .int .i64 out], .slice B bs.length d] w fun e w' => e = .returned (.tuple #[.int .i64 (runP xs regs0 out bs).1, .int .i64 (runP xs regs0 out bs).2]) ∧ Below w.heap.size w w' := by
  have hu24 := Tryd.underlying24
  have HB0 : Aside0 (Below w.heap.size w (w.alloc (.cells #[.slice A xs.length c, .int .i64 regs0, .int .i64 out] 24))) := ⟨below_alloc (Below.refl _ _) _⟩
  have HT := Aside0.mk (reftrace_calls xs A c regs0 out bs B d (w.alloc (.cells #[.slice A xs.length c, .int .i64 regs0, .int .i64 out] 24)) hl (Kd.C_below hX HB0.out) hf hnm (Kd.C_below hB HB0.out) hd hbs hbn)
  clear hX hf hnm hB hbn
  go_enter Tryd.func19, Tryd.ntmps19
  go_wp2_with fail
  refine (HT.out).mono ?_
  clear HT
  rintro e w2 ⟨hb2, hh⟩
  have K0 : Aside0 (w2.heap[w.heap.size]? = some (.cells #[.slice A xs.length c, .int .i64 regs0, .int .i64 out] 24 (0, 0))) := ⟨blk_below (blk_new w _) hb2⟩
  have HB2 : Aside0 (Below w.heap.size w w2) := ⟨HB0.out.trans (below_base hb2 (by rw [alloc_size]; omega))⟩
  clear hb2
  rcases hh with ⟨hc, rfl⟩ | ⟨hc, hr, rfl⟩ | ⟨wl, rg, vw, vr, hc, hr, rfl, hlen, hvw, hvr⟩
  · have HP : Aside0 (runP xs regs0 out bs = (0, 1)) := ⟨by unfold runP; rw [if_neg (by omega)]⟩
    go_wp2_with fail
    go_ret2
    exact ⟨by rw [HP.out]; rfl, HB2.out⟩
  · have HP : Aside0 (runP xs regs0 out bs = (0, 12)) := ⟨by unfold runP; rw [if_pos hc, hr]; rfl⟩
    clear hr
    go_wp2_with fail
    go_ret2
    exact ⟨by rw [HP.out]; rfl, HB2.out⟩
  · have HP : Aside0 (runP xs regs0 out bs = (rd rg out, 0)) := ⟨by unfold runP; rw [if_pos hc, hr]; rfl⟩
    obtain ⟨hfp, _⟩ := chk_zero hc
    obtain ⟨p1, p2, p3, p4, p5, p6⟩ := hfp
    have hro : 0 ≤ out ∧ out < (rg.length : Int) := by omega
    obtain ⟨AR, cR, hv, _, hCR⟩ := Kd.R_reads hvr
    subst hv
    obtain ⟨ad, eA, e0⟩ := int_at hCR out hro.1 hro.2
    cases eA
    have q0 : (0 ≤ out) = True := eq_true hro.1
    have q1 : (out < (rg.length : Int)) = True := eq_true hro.2
    have c12 : w2.cell? ⟨w.heap.size, 2, none⟩ = some (.int .i64 out) := (blk_cell K0.out 2).trans rfl
    clear hro p1 p2 p3 p4 p5 p6 hvr hvw hCR hr hc hlen
    go_wp2_with fail
    go_ret2
    exact ⟨by rw [HP.out]; rfl, HB2.out⟩
end Go.Proofs.YtbbembhfnapadaaDoor
