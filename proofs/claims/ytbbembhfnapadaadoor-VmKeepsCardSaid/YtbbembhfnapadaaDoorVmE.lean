/- The walk of code.Check. -/
import Derived.Test.YtbbembhfnapadaaDoorVmD
namespace Go.Proofs.YtbbembhfnapadaaDoor
open Go.RowKit Go.Proofs.YtbbembhfnapadaaDoorW.PrintWords Go.Proofs.YtbbembhfnapadaaDoorW.PrintLast Go.Proofs.YtbbembhfnapadaaDoorW.PrintMore PVmPlays Pl
set_option linter.unusedVariables false
set_option linter.unusedSimpArgs false

/-- The instructions one behind the other: which registers are written; none: one is not sound. -/
def chkL (regs : Int) : List Ins → List Bool → Option (List Bool)
  | [], ys => some ys
  | x :: xs, ys => if insOk ys x = true ∧ 0 ≤ insTo x ∧ insTo x < regs then chkL regs xs (ys.set (insTo x).toNat true) else none
def fitP (n : Nat) (regs out : Int) : Prop := ¬ regs < 1 ∧ ¬ 64 < regs ∧ ¬ (n : Int) < 1 ∧ ¬ 128 < (n : Int) ∧ ¬ out < 0 ∧ ¬ regs ≤ out
instance (n : Nat) (regs out : Int) : Decidable (fitP n regs out) := by unfold fitP; infer_instance
def chkE (out : Int) : Option (List Bool) → Int
  | none => 1
  | some ys => if ybAt ys out = true then 0 else 1
def chkP (xs : List Ins) (regs out : Int) : Int := if fitP xs.length regs out then chkE out (chkL regs xs (List.replicate regs.toNat false)) else 1
def zIns : Ins := .other
def rdIns (xs : List Ins) (i : Int) : Ins := xs.getD i.toNat zIns
theorem ins_at {w : World} {A : Option Addr} {n : Nat} {xs : List Ins} (h : kI.C w A n xs) (i : Int) (h0 : 0 ≤ i) (h1 : i < n) : ∃ ad v, A = some ad ∧ w.cell? (ad.add i.toNat) = some v ∧ kI.K w (rdIns xs i) [v] := by
  obtain ⟨ad, cc, eA, hl, hK, hcell⟩ := Kd.C_get h zIns i h0 h1
  obtain ⟨v, rfl⟩ : ∃ v, cc = [v] := by
    match cc, (show cc.length = 1 from hl) with
    | [v], _ => exact ⟨v, rfl⟩
  have h2 := hcell 0 _ rfl
  rw [show i.toNat * kI.sz + 0 = i.toNat from Nat.mul_one _] at h2
  exact ⟨ad, v, eA, h2, hK⟩
theorem chk_step (regs : Int) (xs : List Ins) (ys : List Bool) (i : Int) (h0 : 0 ≤ i) (h1 : i < xs.length) : chkL regs (xs.drop i.toNat) ys = if insOk ys (rdIns xs i) = true ∧ 0 ≤ insTo (rdIns xs i) ∧ insTo (rdIns xs i) < regs then chkL regs (xs.drop (i + 1).toNat) (ys.set (insTo (rdIns xs i)).toNat true) else none := by
  have e : (i + 1).toNat = i.toNat + 1 := by omega
  have hl : i.toNat < xs.length := by omega
  have hr : rdIns xs i = xs[i.toNat] := by unfold rdIns; rw [List.getD_eq_getElem?_getD, List.getElem?_eq_getElem hl]; rfl
  rw [e, List.drop_eq_getElem_cons hl, hr]
  rfl
theorem info4 : (Tryd.prog.info? 4).map (fun i => (i.zero, i.size, i.bytes)) = some (some (.bool false), 1, 1) := by kernel_rfl
theorem rdIns_mem {xs : List Ins} {i : Int} (h0 : 0 ≤ i) (h1 : i < xs.length) : rdIns xs i ∈ xs := by
  have hl : i.toNat < xs.length := by omega
  unfold rdIns
  rw [List.getD_eq_getElem?_getD, List.getElem?_eq_getElem hl]
  exact List.getElem_mem _

set_option maxRecDepth 20000 in
set_option maxHeartbeats 1000000 in
theorem check_calls (xs : List Ins) (A : Option Addr) (c : Nat) (regs out : Int) (w : World) (hl : xs.length ≤ c) (hX : kI.C w A xs.length xs) (hf : ∀ x ∈ xs, insFit x) (hT : Tabs w) :
    Calls Tryd.prog 31 #[.agg #[.slice A xs.length c, .int .i64 regs, .int .i64 out]] w fun e w' => e = .returned (.int .i64 (chkP xs regs out)) ∧ Below w.heap.size w w' := by
  have HX := Aside0.mk hX; clear hX
  have HT := Aside0.mk hT; clear hT
  have HF := Aside0.mk hf; clear hf
  have HB0 : Aside0 (Below w.heap.size w (w.alloc (.cells #[.slice A xs.length c, .int .i64 regs, .int .i64 out] 32))) := ⟨below_alloc (Below.refl _ _) _⟩
  by_cases c1 : regs < 1
  · have HP : Aside0 (chkP xs regs out = 1) := ⟨if_neg (fun h => h.1 c1)⟩
    have b1 := decide_eq_true c1
    have C1 := Lib.hid c1; clear c1
    go_enter Tryd.func31, Tryd.ntmps31
    go_wp2_with fail
    go_ret
    exact ⟨by rw [HP.out]; rfl, HB0.out⟩
  have b1 := decide_eq_false c1
  by_cases c2 : 64 < regs
  · have HP : Aside0 (chkP xs regs out = 1) := ⟨if_neg (fun h => h.2.1 c2)⟩
    have b2 := decide_eq_true c2
    have C1 := Lib.hid c1; clear c1
    have C2 := Lib.hid c2; clear c2
    go_enter Tryd.func31, Tryd.ntmps31
    go_wp2_with fail
    go_ret
    exact ⟨by rw [HP.out]; rfl, HB0.out⟩
  have b2 := decide_eq_false c2
  by_cases c3 : (xs.length : Int) < 1
  · have HP : Aside0 (chkP xs regs out = 1) := ⟨if_neg (fun h => h.2.2.1 c3)⟩
    have b3 := decide_eq_true c3
    have C1 := Lib.hid c1; clear c1
    have C2 := Lib.hid c2; clear c2
    have C3 := Lib.hid c3; clear c3
    go_enter Tryd.func31, Tryd.ntmps31
    go_wp2_with fail
    go_ret
    exact ⟨by rw [HP.out]; rfl, HB0.out⟩
  have b3 := decide_eq_false c3
  by_cases c4 : 128 < (xs.length : Int)
  · have HP : Aside0 (chkP xs regs out = 1) := ⟨if_neg (fun h => h.2.2.2.1 c4)⟩
    have b4 := decide_eq_true c4
    have C1 := Lib.hid c1; clear c1
    have C2 := Lib.hid c2; clear c2
    have C3 := Lib.hid c3; clear c3
    have C4 := Lib.hid c4; clear c4
    go_enter Tryd.func31, Tryd.ntmps31
    go_wp2_with fail
    go_ret
    exact ⟨by rw [HP.out]; rfl, HB0.out⟩
  have b4 := decide_eq_false c4
  by_cases c5 : out < 0
  · have HP : Aside0 (chkP xs regs out = 1) := ⟨if_neg (fun h => h.2.2.2.2.1 c5)⟩
    have b5 := decide_eq_true c5
    have C1 := Lib.hid c1; clear c1
    have C2 := Lib.hid c2; clear c2
    have C3 := Lib.hid c3; clear c3
    have C4 := Lib.hid c4; clear c4
    have C5 := Lib.hid c5; clear c5
    go_enter Tryd.func31, Tryd.ntmps31
    go_wp2_with fail
    go_ret
    exact ⟨by rw [HP.out]; rfl, HB0.out⟩
  have b5 := decide_eq_false c5
  by_cases c6 : regs ≤ out
  · have HP : Aside0 (chkP xs regs out = 1) := ⟨if_neg (fun h => h.2.2.2.2.2 c6)⟩
    have b6 := decide_eq_true c6
    have C1 := Lib.hid c1; clear c1
    have C2 := Lib.hid c2; clear c2
    have C3 := Lib.hid c3; clear c3
    have C4 := Lib.hid c4; clear c4
    have C5 := Lib.hid c5; clear c5
    have C6 := Lib.hid c6; clear c6
    go_enter Tryd.func31, Tryd.ntmps31
    go_wp2_with fail
    go_ret
    exact ⟨by rw [HP.out]; rfl, HB0.out⟩
  have b6 := decide_eq_false c6
  obtain ⟨m, hm⟩ := Int.eq_ofNat_of_zero_le (show 0 ≤ regs by omega)
  subst hm
  have HP : Aside0 (chkP xs (m : Int) out = chkE out (chkL (m : Int) xs (List.replicate m false))) := ⟨if_pos ⟨c1, c2, c3, c4, c5, c6⟩⟩
  have R1 : Aside0 (1 ≤ m ∧ m ≤ 64) := ⟨by omega⟩
  have R2 : Aside0 (0 ≤ out ∧ out < m) := ⟨by omega⟩
  have R3 : Aside0 (xs.length ≤ 128) := ⟨by omega⟩
  have q0 : (0 ≤ out) = True := eq_true (by omega)
  have q1 : (out < (m : Int)) = True := eq_true (by omega)
  have C1 := Lib.hid c1; clear c1
  have C2 := Lib.hid c2; clear c2
  have C3 := Lib.hid c3; clear c3
  have C4 := Lib.hid c4; clear c4
  have C5 := Lib.hid c5; clear c5
  have C6 := Lib.hid c6; clear c6
  go_enter Tryd.func31, Tryd.ntmps31
  go_wp2_with (first | ((with_reducible refine gate_dst (N := 42) rfl ?_); refine Kd.R_make Kd.bool _ 4 rfl (N := 42) rfl 119 _ _ rfl (m : Int) rfl rfl Tryd.underlying119 (.bool false) 1 info4 rfl (by decide) (by omega) false (ok := fun _ => True) (okp := fun _ => True) rfl (fun _ hk => hk) trivial (by have := R1.out; omega) (by have := R1.out; rw [Int.toNat_natCast]; omega) (Below.refl _ _) (Nat.le_refl _) ?_; intro v42 w1 ho hb hg_ hnew_; clear hg_ hnew_; rw [Int.toNat_natCast] at ho; have hf1 := Kd.R_form ho (by rw [List.length_replicate]; exact R1.out.1); obtain ⟨g, cap, hv, hg, _, _⟩ := hf1; rw [List.length_replicate] at hv; subst hv; have K1 : Aside0 (w1.heap[w.heap.size]? = some (.cells #[.slice A xs.length c, .int .i64 m, .int .i64 out] 32 (0, 0))) := ⟨blk_below (blk_new w _) hb⟩; have HB1 : Aside0 (Below w.heap.size w w1) := ⟨HB0.out.trans (below_base hb (by rw [alloc_size]; omega))⟩; have hg2 : w.heap.size + 1 ≤ g := (Nat.le_trans (Nat.le_of_eq (alloc_size w _).symm) hg); have HG := Aside0.mk hg2; have HO : Aside0 (Kd.bool.R 4 w1 (w.heap.size + 1) (fun _ => True) (.slice (some ⟨g, 0, none⟩) m cap) (List.replicate m false)) := ⟨Kd.R_lower ho (by rw [alloc_size]; omega)⟩; clear ho hb hg hg2; have c10 : w1.cell? ⟨w.heap.size, 0, none⟩ = some (.slice A xs.length c) := (blk_cell K1.out 0).trans rfl; have c11 : w1.cell? ⟨w.heap.size, 1, none⟩ = some (.int .i64 m) := (blk_cell K1.out 1).trans rfl; have c12 : w1.cell? ⟨w.heap.size, 2, none⟩ = some (.int .i64 out) := (blk_cell K1.out 2).trans rfl))
  go_loopw [5, 6, 7, 46] (fun _ _ _ v46 w' => ∃ (i : Int) (ys : List Bool), v46 = .int .i64 i ∧ 0 ≤ i ∧ i ≤ xs.length ∧ Aside0 (w'.heap[w.heap.size]? = some (.cells #[.slice A xs.length c, .int .i64 m, .int .i64 out] 32 (0, 0))) ∧ Aside0 (Kd.bool.R 4 w' (w.heap.size + 1) (fun _ => True) (.slice (some ⟨g, 0, none⟩) m cap) ys) ∧ Aside0 (ys.length = m) ∧ Aside0 (chkE out (chkL (m : Int) (xs.drop i.toNat) ys) = chkP xs (m : Int) out) ∧ Aside0 (Below w.heap.size w w')) (fun _ _ _ v46 _ => xs.length - (intOf v46).toNat)
  case atStart => exact ⟨0, List.replicate m false, rfl, Int.le_refl _, by omega, K1, HO, ⟨List.length_replicate⟩, ⟨HP.out.symm⟩, HB1⟩
  case round =>
    clear c10 c11 c12
    obtain ⟨i, ys, rfl, h0, h1, K2, HY, HL, HE, HB⟩ := hrel
    have c10 : wr.cell? ⟨w.heap.size, 0, none⟩ = some (.slice A xs.length c) := (blk_cell K2.out 0).trans rfl
    have c11 : wr.cell? ⟨w.heap.size, 1, none⟩ = some (.int .i64 m) := (blk_cell K2.out 1).trans rfl
    have c12 : wr.cell? ⟨w.heap.size, 2, none⟩ = some (.int .i64 out) := (blk_cell K2.out 2).trans rfl
    have HC : Aside0 (Kd.bool.C wr (some ⟨g, 0, none⟩) ys.length ys) := ⟨(Kd.R_reads' HY.out).2.2⟩
    by_cases h2 : i < xs.length
    · have b7 : decide (i < (xs.length : Int)) = true := decide_eq_true h2
      obtain ⟨ad, v, eA, e0, hK⟩ := ins_at HX.out i h0 h2
      cases eA
      have hst := Aside0.mk (chk_step (m : Int) xs ys i h0 h2)
      have hfx := Aside0.mk (HF.out _ (rdIns_mem h0 h2))
      have HI := Aside0.mk (show 0 ≤ i ∧ i < xs.length from ⟨h0, h2⟩)
      replace e0 := pw_cell_below HB.out e0
      have hcall := to_calls (rdIns xs i) v ys (some ⟨g, 0, none⟩) cap wr (kI.K_below HB.out hK) hfx.out HC.out (HT.out.below HB.out)
      rw [HL.out] at hcall
      generalize rdIns xs i = x at *
      have HCALL := Aside0.mk hcall; clear hcall hK
      replace h0 := eq_true h0
      replace h2 := eq_true h2
      go_wp2_with fail
      refine (HCALL.out).mono ?_
      clear HCALL
      rintro e w2 ⟨rfl, hb2⟩
      have K3 : Aside0 (w2.heap[w.heap.size]? = _) := ⟨blk_below K2.out hb2⟩
      have c20 : w2.cell? ⟨w.heap.size, 0, none⟩ = some (.slice (some ad) xs.length c) := (blk_cell K3.out 0).trans rfl
      have c21 : w2.cell? ⟨w.heap.size, 1, none⟩ = some (.int .i64 m) := (blk_cell K3.out 1).trans rfl
      have c22 : w2.cell? ⟨w.heap.size, 2, none⟩ = some (.int .i64 out) := (blk_cell K3.out 2).trans rfl
      have HY2 : Aside0 (Kd.bool.R 4 w2 (w.heap.size + 1) (fun _ => True) (.slice (some ⟨g, 0, none⟩) m cap) ys) := ⟨Kd.R_below HY.out hb2⟩
      have HB2 : Aside0 (Below w.heap.size w w2) := ⟨HB.out.trans (below_base hb2 HB.out.size)⟩
      clear c10 c11 c12 e0 hb2
      generalize insOk ys x = ok at *
      generalize insTo x = r at *
      by_cases d1 : ok = true
      · subst d1
        by_cases d2 : r < 0
        · have HE1 : Aside0 (chkP xs (m : Int) out = 1) := ⟨by rw [← HE.out, hst.out, if_neg (fun h => by omega)]; rfl⟩
          have b8 := decide_eq_true d2
          have D2 := Lib.hid d2; clear d2
          go_wp2_with fail
          go_ret
          exact ⟨by rw [HE1.out]; rfl, HB2.out⟩
        have b8 := decide_eq_false d2
        by_cases d3 : (m : Int) ≤ r
        · have HE1 : Aside0 (chkP xs (m : Int) out = 1) := ⟨by rw [← HE.out, hst.out, if_neg (fun h => by omega)]; rfl⟩
          have b9 := decide_eq_true d3
          have D2 := Lib.hid d2; clear d2
          have D3 := Lib.hid d3; clear d3
          go_wp2_with fail
          go_ret
          exact ⟨by rw [HE1.out]; rfl, HB2.out⟩
        have b9 := decide_eq_false d3
        have HE1 : Aside0 (chkE out (chkL (m : Int) (xs.drop (i + 1).toNat) (ys.set r.toNat true)) = chkP xs (m : Int) out) := ⟨by rw [← HE.out, hst.out, if_pos ⟨rfl, by omega, by omega⟩]⟩
        have p0 : (0 ≤ r) = True := eq_true (by omega)
        have p1 : (r < (m : Int)) = True := eq_true (by omega)
        have HR := Aside0.mk (show 0 ≤ r ∧ r < m from ⟨by omega, by omega⟩)
        have D2 := Lib.hid d2; clear d2
        have D3 := Lib.hid d3; clear d3
        have hcz := Kd.R_cell (h1 := fun _ => rfl) false (by rw [HL.out]; exact HY2.out) r HR.out.1 (by rw [HL.out]; exact HR.out.2)
        have hcz1 := hcz.1
        have hcz2 := hcz.2
        clear hcz
        have hput := Kd.R_put (h1 := fun _ => rfl) (by rw [HL.out]; exact HY2.out) r true
        rw [HL.out] at hput
        have HPUT := Aside0.mk hput.1
        have HPG := Aside0.mk hput.2
        clear hput
        go_wp2_with fail
        have hw : wrap64 (i + 1) = i + 1 := by unfold wrap64; have := HI.out; have := R3.out; omega
        refine ⟨⟨i + 1, ys.set r.toNat true, by rw [hw], by have := HI.out; omega, by have := HI.out; omega, ⟨?_⟩, HPUT, ⟨?_⟩, HE1, ⟨below_set HB2.out (by have := HG.out; omega)⟩⟩, ?_⟩
        · exact blk_far K3.out (show w.heap.size ≠ g by have := HG.out; omega) _
        · rw [List.length_set]; exact HL.out
        · rw [hw]
          have := HI.out
          simp [intOf]
          omega
      · have d1' : ok = false := by simpa using d1
        have HE1 : Aside0 (chkP xs (m : Int) out = 1) := ⟨by rw [← HE.out, hst.out, if_neg (fun h => d1 h.1)]; rfl⟩
        subst d1'
        clear d1
        go_wp2_with fail
        go_ret
        exact ⟨by rw [HE1.out]; rfl, HB2.out⟩
    · have b7 : decide (i < (xs.length : Int)) = false := decide_eq_false h2
      have HE1 : Aside0 (chkE out (some ys) = chkP xs (m : Int) out) := ⟨by rw [← HE.out, List.drop_of_length_le (by omega)]; rfl⟩
      have hcz := bool_at HC.out out R2.out.1 (by rw [HL.out]; exact R2.out.2)
      obtain ⟨ad, eA, e0⟩ := hcz
      cases eA
      rw [add_plain] at e0
      have HI := Lib.hid h2; clear h2
      generalize hyb : ybAt ys out = yb at *
      rcases Bool.eq_false_or_eq_true yb with rfl | rfl
      · have HE2 : Aside0 (chkP xs (m : Int) out = 0) := ⟨HE1.out.symm.trans (if_pos hyb)⟩
        clear hyb
        go_wp2_with fail
        go_ret
        exact ⟨by rw [HE2.out]; rfl, HB.out⟩
      · have HE2 : Aside0 (chkP xs (m : Int) out = 1) := ⟨HE1.out.symm.trans (if_neg (by rw [hyb]; exact Bool.false_ne_true))⟩
        clear hyb
        go_wp2_with fail
        go_ret
        exact ⟨by rw [HE2.out]; rfl, HB.out⟩
end Go.Proofs.YtbbembhfnapadaaDoor
