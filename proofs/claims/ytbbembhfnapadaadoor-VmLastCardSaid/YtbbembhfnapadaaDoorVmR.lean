/- The walk of VmLast. -/
import Derived.Test.YtbbembhfnapadaaDoorVmQ
namespace Go.Proofs.YtbbembhfnapadaaDoor
open Go.RowKit Go.Proofs.YtbbembhfnapadaaDoorW.PrintWords Go.Proofs.YtbbembhfnapadaaDoorW.PrintLast Go.Proofs.YtbbembhfnapadaaDoorW.PrintMore PVmPlays Pl
set_option linter.unusedVariables false
set_option linter.unusedSimpArgs false

/-- Elements of which something is known in a world that has been. -/
def kF (w0 : World) : Kd S37 where
  sz := 6
  E := []
  K := fun _ x cs => k37.K w0 x cs
  M := fun _ _ _ x cs => k37.K w0 x cs
  K_len := fun h => k37.K_len h
  K_one := fun h => k37.K_one h
  K_below := fun _ h => h
  K_of_M := fun h => h
  M_mono := fun _ h => h
  M_bound := fun h => h
  M_move := fun _ h => h
  M_lower := fun _ h => h
theorem box_reads {α : Type} {R : α → List Value → Prop} {W : World} {g t : Nat} {x : α} {cs : List Value} (h : W.heap[g]? = some (.cells cs.toArray t (0, 0))) (hR : R x cs) : ReadsRow R cs.length W (some ⟨g, 0, none⟩) 1 [x] := by
  refine ⟨rfl, by decide, fun _ => ⟨_, rfl, fun j p hj => ?_⟩⟩
  match j, hj with
  | 0, hj =>
    obtain rfl : x = p := Option.some.inj hj
    refine ⟨cs, rfl, hR, fun i u hu => ?_⟩
    rw [add_plain, Nat.zero_mul, Nat.zero_add, blk_cell h]
    simpa using hu
  | j + 1, hj => simp at hj
theorem lit_K (w : World) (regs : Int) : k37.K w (litS regs 9) [.int .i64 1, .int .i64 regs, .int .i64 0, .int .i64 9, .string ⟨#[]⟩, .slice none 0 0] :=
  k37_mk w (litS regs 9) (Nat.le_refl _) ⟨rfl, Nat.zero_le _, fun h => absurd h (Nat.lt_irrefl _)⟩
theorem info37 : (Tryd.prog.info? 37).map (fun i => (i.zero, i.size, i.bytes)) = some (some (.agg #[.int .i64 0, .int .i64 0, .int .i64 0, .int .i64 0, .string ⟨#[]⟩, .slice none 0 0]), 6, 72) := by kernel_rfl
set_option maxRecDepth 100000 in
set_option maxHeartbeats 1000000 in
theorem VmLast_walk (xs : List S37) (A : Option Addr) (c : Nat) (regs out : Int) (bs : List S39) (B : Option Addr) (d : Nat) (w : World) (hl : xs.length ≤ c) (hX : Kd.C k37 w A xs.length xs) (hf : Fits xs) (hB : k39.C w B bs.length bs) (hd : bs.length ≤ d) (hbl : bs.length * 24 ≤ 140737488351232) (hT : Tabs w) :
    Calls Tryd.prog 5 #[.agg #[.slice A xs.length c, .int .i64 regs, .int .i64 out], .slice B bs.length d] w fun e w' => e = .returned (.bool true) ∧ Below w.heap.size w w' := by
  have HX := Aside0.mk hX; clear hX
  have HBS := Aside0.mk hB; clear hB
  have HT := Aside0.mk hT; clear hT
  have HF := Aside0.mk hf; clear hf
  have hu24 := Tryd.underlying24
  obtain ⟨zs, hzs⟩ : ∃ zs, zs = xs.map insOf := ⟨_, rfl⟩
  have HZ := Aside0.mk hzs
  have HFI : Aside0 (∀ y ∈ zs, insFit y) := ⟨by rw [hzs]; exact HF.out.ins⟩
  clear hzs
  have HB0 : Aside0 (Below w.heap.size w (w.alloc (.cells #[.slice A xs.length c, .int .i64 regs, .int .i64 out] 24))) := ⟨below_alloc (Below.refl _ _) _⟩
  go_enter Tryd.func5, Tryd.ntmps5
  go_wp2_with fail
  refine (awake24_calls _ (HT.out.below HB0.out)).mono ?_
  rintro e w1 ⟨rfl, hb1⟩
  have K1 : Aside0 (w1.heap[w.heap.size]? = some (.cells #[.slice A xs.length c, .int .i64 regs, .int .i64 out] 24 (0, 0))) := ⟨blk_below (blk_new w _) hb1⟩
  have HBw1 : Aside0 (Below w.heap.size w w1) := ⟨HB0.out.trans (below_base hb1 (by rw [alloc_size]; omega))⟩
  clear hb1
  have c10 : w1.cell? ⟨w.heap.size, 0, none⟩ = some (.slice A xs.length c) := (blk_cell K1.out 0).trans rfl
  have c11 : w1.cell? ⟨w.heap.size, 1, none⟩ = some (.int .i64 regs) := (blk_cell K1.out 1).trans rfl
  have c12 : w1.cell? ⟨w.heap.size, 2, none⟩ = some (.int .i64 out) := (blk_cell K1.out 2).trans rfl
  go_wp2_with fail
  refine (values_calls xs A c regs out w1 hl (Kd.C_below HX.out HBw1.out) HF.out.len HF.out.args).mono ?_
  rintro e w2a ⟨v2a, rfl, hv2a, hb2a⟩
  rw [← HZ.out] at hv2a
  obtain ⟨Z2, z2, rfl, l2a, r2a⟩ := Kd.R_reads hv2a
  have HR2a := Aside0.mk r2a; have HL2a := Aside0.mk l2a; clear r2a l2a hv2a
  have HB2a : Aside0 (Below w.heap.size w w2a) := ⟨HBw1.out.trans (below_base hb2a HBw1.out.size)⟩
  have HP2a := Aside0.mk hb2a; clear hb2a
  go_wp2_with fail
  refine (copied_calls bs B d w2a (Kd.C_below HBS.out HB2a.out) hd hbl).mono ?_
  rintro e w2b ⟨v2b, rfl, hv2b, hb2b⟩
  obtain ⟨Y2, y2, rfl, l2b, r2b⟩ := Kd.R_reads hv2b
  have HR2b := Aside0.mk r2b; have HL2b := Aside0.mk l2b; clear r2b l2b hv2b
  have HB2b : Aside0 (Below w.heap.size w w2b) := ⟨HB2a.out.trans (below_base hb2b HB2a.out.size)⟩
  have HP2b := Aside0.mk hb2b
  have HS2b := Aside0.mk (Kd.C_below HR2a.out hb2b); clear hb2b
  go_wp2_with fail
  have hc2 := vtrace_calls zs Z2 z2 regs out bs Y2 y2 w2b HL2a.out HS2b.out HFI.out HR2b.out HL2b.out (by omega) (HT.out.below HB2b.out)
  refine hc2.mono ?_
  clear hc2
  rintro e w2c ⟨v2c, rfl, hv2c, hb2c⟩
  have HB2c : Aside0 (Below w.heap.size w w2c) := ⟨HB2b.out.trans (below_base hb2c HB2b.out.size)⟩
  have HP2c := Aside0.mk hb2c; clear hb2c
  clear c10 c11 c12
  have K2 : Aside0 (w2c.heap[w.heap.size]? = some (.cells #[.slice A xs.length c, .int .i64 regs, .int .i64 out] 24 (0, 0))) := ⟨blk_below K1.out (HP2a.out.trans (below_base (HP2b.out.trans (below_base HP2c.out HP2b.out.size)) HP2a.out.size))⟩
  have HBw2c := HB2c
  have c10 : w2c.cell? ⟨w.heap.size, 0, none⟩ = some (.slice A xs.length c) := (blk_cell K2.out 0).trans rfl
  have c11 : w2c.cell? ⟨w.heap.size, 1, none⟩ = some (.int .i64 regs) := (blk_cell K2.out 1).trans rfl
  have c12 : w2c.cell? ⟨w.heap.size, 2, none⟩ = some (.int .i64 out) := (blk_cell K2.out 2).trans rfl
  obtain ⟨AT, cT, hvT⟩ := Kd.R_slice hv2c
  subst hvT
  obtain ⟨tl, te, htr⟩ : ∃ tl te, traceP zs regs out bs = (tl, te) := ⟨_, _, rfl⟩
  rw [htr] at hv2c ⊢
  have HV2 : Aside0 ((Kd.int .i64).R 2 w2c w2b.heap.size (fun _ => True) (.slice AT tl.length cT) tl) := ⟨hv2c⟩
  have HTR := Aside0.mk htr
  clear hv2c htr
  obtain ⟨rv, re, hrr⟩ : ∃ rv re, runP zs regs out bs = (rv, re) := ⟨_, _, rfl⟩
  have HRR := Aside0.mk hrr; clear hrr
  go_wp2_with fail
  refine (values_calls xs A c regs out w2c hl (Kd.C_below HX.out HBw2c.out) HF.out.len HF.out.args).mono ?_
  rintro e w3a ⟨v3a, rfl, hv3a, hb3a⟩
  rw [← HZ.out] at hv3a
  obtain ⟨Z3, z3, rfl, l3a, r3a⟩ := Kd.R_reads hv3a
  have HR3a := Aside0.mk r3a; have HL3a := Aside0.mk l3a; clear r3a l3a hv3a
  have HB3a : Aside0 (Below w.heap.size w w3a) := ⟨HBw2c.out.trans (below_base hb3a HBw2c.out.size)⟩
  have HP3a := Aside0.mk hb3a; clear hb3a
  go_wp2_with fail
  refine (copied_calls bs B d w3a (Kd.C_below HBS.out HB3a.out) hd hbl).mono ?_
  rintro e w3b ⟨v3b, rfl, hv3b, hb3b⟩
  obtain ⟨Y3, y3, rfl, l3b, r3b⟩ := Kd.R_reads hv3b
  have HR3b := Aside0.mk r3b; have HL3b := Aside0.mk l3b; clear r3b l3b hv3b
  have HB3b : Aside0 (Below w.heap.size w w3b) := ⟨HB3a.out.trans (below_base hb3b HB3a.out.size)⟩
  have HP3b := Aside0.mk hb3b
  have HS3b := Aside0.mk (Kd.C_below HR3a.out hb3b); clear hb3b
  go_wp2_with fail
  have hc3 := vrun_calls zs Z3 z3 regs out bs Y3 y3 w3b HL3a.out HS3b.out HFI.out HR3b.out HL3b.out (by omega) (HT.out.below HB3b.out)
  rw [HRR.out] at hc3
  refine hc3.mono ?_
  clear hc3
  rintro e w3c ⟨rfl, hb3c⟩
  have HB3c : Aside0 (Below w.heap.size w w3c) := ⟨HB3b.out.trans (below_base hb3c HB3b.out.size)⟩
  have HP3c := Aside0.mk hb3c; clear hb3c
  clear c10 c11 c12
  have K3 : Aside0 (w3c.heap[w.heap.size]? = some (.cells #[.slice A xs.length c, .int .i64 regs, .int .i64 out] 24 (0, 0))) := ⟨blk_below K2.out (HP3a.out.trans (below_base (HP3b.out.trans (below_base HP3c.out HP3b.out.size)) HP3a.out.size))⟩
  have c10 : w3c.cell? ⟨w.heap.size, 0, none⟩ = some (.slice A xs.length c) := (blk_cell K3.out 0).trans rfl
  have c11 : w3c.cell? ⟨w.heap.size, 1, none⟩ = some (.int .i64 regs) := (blk_cell K3.out 1).trans rfl
  have c12 : w3c.cell? ⟨w.heap.size, 2, none⟩ = some (.int .i64 out) := (blk_cell K3.out 2).trans rfl
  have HPC : Aside0 (Below w2c.heap.size w2c w3c) := ⟨HP3a.out.trans (below_base (HP3b.out.trans (below_base HP3c.out HP3b.out.size)) HP3a.out.size)⟩
  have HV3 : Aside0 ((Kd.int .i64).R 2 w3c w2b.heap.size (fun _ => True) (.slice AT tl.length cT) tl) := ⟨Kd.R_below HV2.out HPC.out⟩
  clear HV2
  by_cases hte : te = 0
  · have hgood := trace_good xs regs out bs (by rw [← HZ.out, HTR.out]; exact hte)
    rw [← HZ.out, HTR.out, HRR.out] at hgood
    obtain ⟨j, v, hrun, htl, hlast, hj, hv, h128, hr1, hr64, hshort, hlong⟩ := hgood
    obtain ⟨rfl, rfl⟩ := Prod.mk.inj hrun
    subst hte
    have htl' : tl.length = xs.length := htl
    rw [htl'] at HV3 ⊢
    have HTL := Aside0.mk htl'
    have HV := Aside0.mk hv
    have HSH := Aside0.mk hshort; have HLO := Aside0.mk hlong; have HLAST := Aside0.mk hlast
    have HN : Aside0 (j < xs.length ∧ xs.length ≤ 128 ∧ 1 ≤ regs ∧ regs ≤ 64) := ⟨hj, h128, hr1, hr64⟩
    clear hrun htl htl' hlast hj hv h128 hr1 hr64 hshort hlong
    have hle : lastN xs out xs.length = (j : Int) := HLAST.out
    go_wp2_with fail
    go_loopw [9, 10] (fun v9 v10 w' => ∃ i : Nat, v10 = .int .i64 i ∧ i ≤ xs.length ∧ v9 = .int .i64 (lastN xs out i) ∧ Aside0 (Below w3c.heap.size w3c w')) (fun _ v10 _ => xs.length - (intOf v10).toNat)
    case atStart => exact ⟨0, rfl, Nat.zero_le _, rfl, ⟨Below.refl _ _⟩⟩
    case round =>
      clear c10 c11 c12 hle
      obtain ⟨i, rfl, h1, rfl, HBI⟩ := hrel
      have HBW : Aside0 (Below w.heap.size w wr) := ⟨HB3c.out.trans (below_base HBI.out HB3c.out.size)⟩
      have K4 : Aside0 (wr.heap[w.heap.size]? = some (.cells #[.slice A xs.length c, .int .i64 regs, .int .i64 out] 24 (0, 0))) := ⟨blk_below K3.out HBI.out⟩
      have c10 : wr.cell? ⟨w.heap.size, 0, none⟩ = some (.slice A xs.length c) := (blk_cell K4.out 0).trans rfl
      have c11 : wr.cell? ⟨w.heap.size, 1, none⟩ = some (.int .i64 regs) := (blk_cell K4.out 1).trans rfl
      have c12 : wr.cell? ⟨w.heap.size, 2, none⟩ = some (.int .i64 out) := (blk_cell K4.out 2).trans rfl
      by_cases h2 : i < xs.length
      · have b2 : decide ((i : Int) < (xs.length : Int)) = true := decide_eq_true (by omega)
        obtain ⟨ad, A5, c5, eA, e0, e1, e2, e3, e4, e5, l5, g5⟩ := at_T37 HX.out (i : Int) (by omega) (by omega)
        cases eA
        replace e1 := pw_cell_below HBW.out e1
        rw [Int.toNat_natCast] at e1
        clear e0 e2 e3 e4 e5 l5 g5
        have HI := Aside0.mk h2
        have HST : Aside0 (lastN xs out (i + 1) = if (rd_T37 xs i).f1 = out then (i : Int) else lastN xs out i) := ⟨rfl⟩
        have p0 : (0 ≤ (i : Int)) = True := eq_true (by omega)
        have p1 : ((i : Int) < (xs.length : Int)) = True := eq_true (by omega)
        clear h2
        by_cases k0 : (rd_T37 xs i).f1 = out
        · have HS2 : Aside0 (lastN xs out (i + 1) = (i : Int)) := ⟨by rw [HST.out, if_pos k0]⟩
          have g0 : ((rd_T37 xs i).f1 == out) = true := by simp [k0]
          have HK0 := Lib.hid k0; clear k0
          go_wp2_with fail
          go_quiet (fail)
          go_wp2_with fail
          have hw : wrap64 ((i : Int) + 1) = ((i + 1 : Nat) : Int) := by unfold wrap64; have := HI.out; have := HN.out; omega
          refine ⟨⟨i + 1, by rw [hw], by have := HI.out; omega, by rw [HS2.out], ⟨pw_below_drewN HBI.out _⟩⟩, ?_⟩
          rw [hw]
          have := HI.out
          simp [intOf]
          omega
        · have HS2 : Aside0 (lastN xs out (i + 1) = lastN xs out i) := ⟨by rw [HST.out, if_neg k0]⟩
          have g0 : ((rd_T37 xs i).f1 == out) = false := by simp [k0]
          have HK0 := Lib.hid k0; clear k0
          go_wp2_with fail
          go_quiet (fail)
          go_wp2_with fail
          have hw : wrap64 ((i : Int) + 1) = ((i + 1 : Nat) : Int) := by unfold wrap64; have := HI.out; have := HN.out; omega
          refine ⟨⟨i + 1, by rw [hw], by have := HI.out; omega, by rw [HS2.out], ⟨pw_below_drewN HBI.out _⟩⟩, ?_⟩
          rw [hw]
          have := HI.out
          simp [intOf]
          omega
      · have b2 : decide ((i : Int) < (xs.length : Int)) = false := decide_eq_false (by omega)
        have hi : i = xs.length := by omega
        subst hi
        rw [HLAST.out]
        clear h2 h1
        have HVW : Aside0 ((Kd.int .i64).C wr AT tl.length tl) := ⟨Kd.C_below ((Kd.R_reads' HV3.out).2.2) HBI.out⟩
        obtain ⟨aT, eT, x0⟩ := int_at HVW.out (j : Int) (by omega) (by rw [HTL.out]; have := HN.out.1; omega)
        cases eT
        rw [Int.toNat_natCast] at x0
        have q0 : (0 ≤ (j : Int)) = True := eq_true (by omega)
        have q1 : ((j : Int) < (xs.length : Int)) = True := eq_true (by have := HN.out.1; omega)
        have q2 : decide ((j : Int) < 0) = false := decide_eq_false (by omega)
        have q3 : (rv != rd tl (j : Int)) = false := by rw [HV.out]; simp
        have hsl : ∀ W : World, (Instr.slice 22 (.slice A xs.length c) none (some (.int .i64 ((j : Int) + 1))) none).run Tryd.prog W = .ok (.slice A (j + 1) c) W := by
          intro W
          have hel : Tryd.prog.elem 22 = 37 := by simp [Program.elem, Tryd.underlying22]
          have ha : (A.map fun x => x.add 0) = A := by cases A <;> simp [Addr.add]
          rw [run_slice_h W 22 A xs.length c (show Tryd.prog.underlying 22 = some (.slice (Tryd.prog.elem 22)) by rw [hel]; exact Tryd.underlying22) .i64 ((j : Int) + 1) (by omega) (by have := HN.out.1; omega), hel]
          obtain ⟨i, hi, hz⟩ := Option.map_eq_some_iff.1 info37
          simp only [Prod.mk.injEq] at hz
          have ht : ((j : Int) + 1).toNat = j + 1 := by omega
          simp [sizeOf, typeInfo, hi, hz.2.1, sliced, Result.andThen, ha, ht]
        have hw : wrap64 ((j : Int) + 1) = (j : Int) + 1 := by unfold wrap64; have := HN.out.1; have := HN.out.2.1; omega
        have lt0 : w.heap.size < wr.heap.size := blk_lt K4.out
        go_wp2_with fail
        clear c10 c11 c12 x0 q0 q1 q2 q3 hsl lt0 hw b2
        obtain ⟨sx, hsx⟩ : ∃ sx, sx = xs.take (j + 1) := ⟨_, rfl⟩
        have hsl : sx.length = j + 1 := by rw [hsx, List.length_take]; have := HN.out.1; omega
        obtain ⟨zs2, hz2⟩ : ∃ zs2, zs2 = sx.map insOf := ⟨_, rfl⟩
        have HZ2 := Aside0.mk hz2
        have HF2 : Aside0 (Fits sx) := ⟨⟨by have := HF.out.len; have := HN.out.1; omega, fun x hx => HF.out.args x (List.mem_of_mem_take (by rw [← hsx]; exact hx)), fun x hx => HF.out.name x (List.mem_of_mem_take (by rw [← hsx]; exact hx))⟩⟩
        have HFI2 : Aside0 (∀ y ∈ zs2, insFit y) := ⟨by rw [hz2]; exact HF2.out.ins⟩
        have HSH2 : Aside0 (runP zs2 regs out bs = (rv, 0)) := ⟨by rw [hz2, hsx]; exact HSH.out⟩
        have HXS : Aside0 (Kd.C k37 w A sx.length sx) := ⟨by rw [hsx]; exact Kd.C_take HX.out (by have := HN.out.1; omega)⟩
        have hsc : sx.length ≤ c := by have := HN.out.1; omega
        rw [← hsl]
        have HBw5 := Aside0.mk (below_alloc HBW.out (.cells #[.slice A sx.length c, .int .i64 regs, .int .i64 out] 24))
        have K5 := Aside0.mk (blk_alloc K4.out (.cells #[.slice A sx.length c, .int .i64 regs, .int .i64 out] 24))
        have HC5 : Aside0 ((wr.alloc (.cells #[.slice A sx.length c, .int .i64 regs, .int .i64 out] 24)).heap[wr.heap.size]? = some (.cells #[.slice A sx.length c, .int .i64 regs, .int .i64 out] 24 (0, 0))) := ⟨blk_new _ _⟩
        generalize wr.alloc (.cells #[.slice A sx.length c, .int .i64 regs, .int .i64 out] 24) = w5 at *
        clear hsx hz2
        refine (values_calls sx A c regs out w5 hsc (Kd.C_below HXS.out HBw5.out) HF2.out.len HF2.out.args).mono ?_
        rintro e w5a ⟨v5a, rfl, hv5a, hb5a⟩
        rw [← HZ2.out] at hv5a
        obtain ⟨Z5, z5, rfl, l5a, r5a⟩ := Kd.R_reads hv5a
        have HR5a := Aside0.mk r5a; have HL5a := Aside0.mk l5a; clear r5a l5a hv5a
        have HB5a : Aside0 (Below w.heap.size w w5a) := ⟨HBw5.out.trans (below_base hb5a HBw5.out.size)⟩
        have HP5a := Aside0.mk hb5a; clear hb5a
        go_wp2_with fail
        refine (copied_calls bs B d w5a (Kd.C_below HBS.out HB5a.out) hd hbl).mono ?_
        rintro e w5b ⟨v5b, rfl, hv5b, hb5b⟩
        obtain ⟨Y5, y5, rfl, l5b, r5b⟩ := Kd.R_reads hv5b
        have HR5b := Aside0.mk r5b; have HL5b := Aside0.mk l5b; clear r5b l5b hv5b
        have HB5b : Aside0 (Below w.heap.size w w5b) := ⟨HB5a.out.trans (below_base hb5b HB5a.out.size)⟩
        have HP5b := Aside0.mk hb5b
        have HS5b := Aside0.mk (Kd.C_below HR5a.out hb5b); clear hb5b
        go_wp2_with fail
        have hc5 := vrun_calls zs2 Z5 z5 regs out bs Y5 y5 w5b HL5a.out HS5b.out HFI2.out HR5b.out HL5b.out (by omega) (HT.out.below HB5b.out)
        rw [HSH2.out] at hc5
        refine hc5.mono ?_
        clear hc5
        rintro e w5c ⟨rfl, hb5c⟩
        have HB5c : Aside0 (Below w.heap.size w w5c) := ⟨HB5b.out.trans (below_base hb5c HB5b.out.size)⟩
        have HP5c := Aside0.mk hb5c; clear hb5c
        clear hsl hsc
        have K6 : Aside0 (w5c.heap[w.heap.size]? = some (.cells #[.slice A xs.length c, .int .i64 regs, .int .i64 out] 24 (0, 0))) := ⟨blk_below K5.out (HP5a.out.trans (below_base (HP5b.out.trans (below_base HP5c.out HP5b.out.size)) HP5a.out.size))⟩
        have c10 : w5c.cell? ⟨w.heap.size, 0, none⟩ = some (.slice A xs.length c) := (blk_cell K6.out 0).trans rfl
        have c11 : w5c.cell? ⟨w.heap.size, 1, none⟩ = some (.int .i64 regs) := (blk_cell K6.out 1).trans rfl
        have c12 : w5c.cell? ⟨w.heap.size, 2, none⟩ = some (.int .i64 out) := (blk_cell K6.out 2).trans rfl
        have n1 : (rv != rv) = false := by simp
        by_cases d1 : 64 ≤ regs
        · have b1 : decide (64 ≤ regs) = true := decide_eq_true d1
          have D1 := Lib.hid d1; clear d1
          go_wp2_with fail
          go_ret
          exact ⟨rfl, HB5c.out⟩
        have b1 : decide (64 ≤ regs) = false := decide_eq_false d1
        by_cases d2 : 128 ≤ (xs.length : Int)
        · have b3 : decide (128 ≤ (xs.length : Int)) = true := decide_eq_true d2
          have D1 := Lib.hid d1; clear d1
          have D2 := Lib.hid d2; clear d2
          go_wp2_with fail
          go_ret
          exact ⟨rfl, HB5c.out⟩
        have b3 : decide (128 ≤ (xs.length : Int)) = false := decide_eq_false d2
        have HLO2 : Aside0 (runP ((xs ++ [litS regs 9]).map insOf) (regs + 1) out bs = (rv, 0)) := ⟨HLO.out (by omega) (by omega)⟩
        have D1 := Lib.hid d1; clear d1
        have D2 := Lib.hid d2; clear d2
        have hw2 : wrap64 (regs + 1) = regs + 1 := by unfold wrap64; have := HN.out; omega
        have lt0 : w.heap.size < w5c.heap.size := blk_lt K6.out
        go_upto_region 26 with (fail)
        refine wp_forget (fun W' => Below w.heap.size w W' ∧ W'.heap[w.heap.size]? = some (.cells #[.slice A xs.length c, .int .i64 regs, .int .i64 out] 24 (0, 0)) ∧ W'.heap[w5c.heap.size]? = some (.cells #[.slice A xs.length c, .int .i64 (regs + 1), .int .i64 out] 24 (0, 0)) ∧ w.heap.size < w5c.heap.size) ⟨below_alloc HB5c.out _, blk_alloc K6.out _, blk_new _ _, lt0⟩ ?_
        generalize w5c.heap.size = g14 at *
        clear c10 c11 c12 lt0
        rintro w6 ⟨hb6, hk6, hk14, lt0⟩
        have HBw6 := Aside0.mk hb6; have K7 := Aside0.mk hk6; have K14 := Aside0.mk hk14
        have HLT : Aside0 (w.heap.size < g14 ∧ g14 < w6.heap.size) := ⟨lt0, blk_lt hk14⟩
        clear hb6 hk6 hk14 lt0
        have c10 : w6.cell? ⟨w.heap.size, 0, none⟩ = some (.slice A xs.length c) := (blk_cell K7.out 0).trans rfl
        have c11 : w6.cell? ⟨w.heap.size, 1, none⟩ = some (.int .i64 regs) := (blk_cell K7.out 1).trans rfl
        have HBc := Aside0.mk (below_drew (Below.refl w6.heap.size w6))
        refine start_ (n := 11) (S := fun w' => w'.cell? ⟨w.heap.size, 0, none⟩ = some (.slice A xs.length c) ∧ w'.cell? ⟨w.heap.size, 1, none⟩ = some (.int .i64 regs)) (ds := [8, 10]) #[false, false, false, false, false, false, false, false, false, false, false] (by kernel_rfl) rfl rfl ⟨c10, c11⟩ (fun hHeld => ?_)
        refine pure_ (i := 1) (N := some 121) (v := ?_) (a' := ?_) #[false, true, false, false, false, false, false, false, false, false, false] rfl rfl (by kernel_rfl) (fun _ _ _ h => h) (Or.inl ⟨by rfl, ?_⟩) ?_ ?_
        rotate_left
        · intro w'
          go_simp
          with_reducible rfl
        rotate_left
        · simp only [Act.put, List.setIfInBounds_toArray, List.set_cons_zero, List.set_cons_succ, i64_w, i32_w]
          rfl
        refine pure_ (i := 4) (N := some 124) (v := ?_) (a' := ?_) #[false, true, false, false, true, false, false, false, false, false, false] rfl rfl (by kernel_rfl) (fun _ _ _ h => h) (Or.inl ⟨by rfl, ?_⟩) ?_ ?_
        rotate_left
        · intro w'
          go_simp
          with_reducible rfl
        rotate_left
        · simp only [Act.put, List.setIfInBounds_toArray, List.set_cons_zero, List.set_cons_succ, i64_w, i32_w]
          rfl
        refine take_ (i := 2) (N := some 122) (v := ?_) (a' := ?_) #[false, true, true, false, true, false, false, false, false, false, false] rfl rfl (by kernel_rfl) (fun _ _ _ h => h) (Or.inl ⟨by rfl, ?_⟩) hHeld ?_ ?_
        rotate_left
        · rintro w' ⟨s0, s1⟩
          go_simp
          with_reducible rfl
        rotate_left
        · simp only [Act.put, List.setIfInBounds_toArray, List.set_cons_zero, List.set_cons_succ, i64_w, i32_w]
          rfl
        refine take_ (i := 5) (N := some 125) (v := ?_) (a' := ?_) #[false, true, true, false, true, true, false, false, false, false, false] rfl rfl (by kernel_rfl) (fun _ _ _ h => h) (Or.inl ⟨by rfl, ?_⟩) hHeld ?_ ?_
        rotate_left
        · rintro w' ⟨s0, s1⟩
          go_simp
          with_reducible rfl
        rotate_left
        · simp only [Act.put, List.setIfInBounds_toArray, List.set_cons_zero, List.set_cons_succ, i64_w, i32_w]
          rfl
        refine pure_ (i := 6) (N := some 126) (v := ?_) (a' := ?_) #[false, true, true, false, true, true, true, false, false, false, false] rfl rfl (by kernel_rfl) (fun _ _ _ h => h) (Or.inl ⟨by rfl, ?_⟩) ?_ ?_
        rotate_left
        · intro w'
          go_simp
          with_reducible rfl
        rotate_left
        · simp only [Act.put, List.setIfInBounds_toArray, List.set_cons_zero, List.set_cons_succ, i64_w, i32_w]
          rfl
        refine join_ (σ := Value × Value × Nat) 3 #[true, true, true, true, true, true, true, true, false, false, false] (fun s_ => [(120, s_.1), (123, s_.2.1), (127, .slice (some ⟨s_.2.2, 0, none⟩) 1 1)]) (fun s_ w' => (w'.cell? ⟨w.heap.size, 0, none⟩ = some (.slice A xs.length c) ∧ w'.cell? ⟨w.heap.size, 1, none⟩ = some (.int .i64 regs)) ∧ (kF w).R 37 w' w6.heap.size (fun _ => True) s_.2.1 xs ∧ w'.heap[s_.2.2]? = some (.cells #[.int .i64 1, .int .i64 regs, .int .i64 0, .int .i64 9, .string ⟨#[]⟩, .slice none 0 0] 37 (0, 0)) ∧ Below w6.heap.size w6 w') ?_ ?_
        rotate_left
        · intro hCont
          refine two_ (i := 0) (j := 7) (Ni := some 120) (Nj := some 127) #[true, true, true, false, true, true, true, false, false, false, false] #[false, true, true, false, true, true, true, true, false, false, false] rfl rfl rfl rfl (by kernel_rfl) (by decide) (by decide) (fun K hK => ?_) (fun K hK => ?_)
          · skip
            refine Kd.R_lit_step (kF w) _ 37 ?hg (N := 120) ?hd (xs := ([] : List S37)) (inner := []) (ok := fun _ => True) (okp := fun _ => True) ?hr ?hp (fun _ hk => hk) trivial (Below.refl _ _) (Nat.le_refl _) (by simp) ?_
            (case hd => rfl)
            (case hg => rfl)
            (case hr => first | (go_simp; done) | (go_simp; rfl))
            (case hp => exact (Reps.none _ _))
            intro v0 W0 ho0 hb0 hg0 hn0
            have HV0 : Aside0 ((kF w).R 37 W0 w6.heap.size (fun _ => True) v0 []) := ⟨Kd.R_lower ho0 HBc.out.size⟩
            have HBc := Aside0.mk (HBc.out.trans (below_base hb0 HBc.out.size))
            refine hK.out _ _ ⟨(pw_cell_below hb0 hHeld.1), (pw_cell_below hb0 hHeld.2)⟩ (fun hHeld => ?_)
            clear hK K
            refine norm_ (a' := ?_) ?_ ?_
            rotate_left
            · show Act.put _ (some 120) _ = _
              simp only [Act.put, List.setIfInBounds_toArray, List.set_cons_zero, List.set_cons_succ, i64_w, i32_w]
              rfl
            refine two_ (i := 3) (j := 7) (Ni := some 123) (Nj := some 127) #[true, true, true, true, true, true, true, false, false, false, false] #[true, true, true, false, true, true, true, true, false, false, false] rfl rfl rfl rfl (by kernel_rfl) (by decide) (by decide) (fun K hK => ?_) (fun K hK => ?_)
            · skip
              have HBq := Aside0.mk (HBw6.out.trans (below_base HBc.out HBw6.out.size))
              refine Kd.R_append_rows_step (kF w) (Rr := k37.K w) (w0 := w6) w6.heap.size (by rfl) (.tmp 120) (.tmp 122) 22 37 (.agg #[.int .i64 0, .int .i64 0, .int .i64 0, .int .i64 0, .string ⟨#[]⟩, .slice none 0 0]) 72 rfl Tryd.underlying22 info37 rfl (show 0 < 6 by decide) (by omega) v0 ([] : List S37) xs _ _ _ (fun _ => True) (fun _ => False) rfl rfl ?aO ?aR (fun _ _ h => h) (fun _ h => h.elim) ?aF ?aB ?aS ?aL ?_
              (case aO => exact HV0.out)
              (case aR => exact ReadsRow.imp_ HX.out HBq.out (fun _ _ h => h))
              (case aF => exact (fun _ _ => trivial))
              (case aB => exact HBc.out)
              (case aS => exact HBc.out.size)
              (case aL => have h1 := HN.out.2.1; simp; omega)
              intro v3 W3 ho3 hb3 hg3 hat3
              have HV3 : Aside0 ((kF w).R 37 W3 w6.heap.size (fun _ => True) v3 xs) := ⟨ho3⟩
              have hne : some w.heap.size ≠ v0.ownBlock := fun e => by have h1 := Kd.R_base HV0.out _ e.symm; have h2 := HLT.out; omega
              have HBc := Aside0.mk hb3
              refine hK.out _ _ ⟨(hg3.cell hHeld.1 hne), (hg3.cell hHeld.2 hne)⟩ (fun hHeld => ?_)
              clear hK K
              refine norm_ (a' := ?_) ?_ ?_
              rotate_left
              · show Act.put _ (some 123) _ = _
                simp only [Act.put, List.setIfInBounds_toArray, List.set_cons_zero, List.set_cons_succ, i64_w, i32_w]
                rfl
              refine one_ (i := 7) (N := some 127) #[true, true, true, true, true, true, true, true, false, false, false] rfl rfl (by kernel_rfl) (by decide) (fun K hK => ?_)
              refine value_ (w1 := W3.alloc (.cells #[.int .i64 1, .int .i64 regs, .int .i64 0, .int .i64 9, .string ⟨#[]⟩, .slice none 0 0] 37)) (v := .slice (some ⟨W3.heap.size, 0, none⟩) 1 1) (by rfl) rfl ?_ ?_
              · first | (go_simp; done) | (go_simp; rfl)
              have HX7 : Aside0 ((W3.alloc (.cells #[.int .i64 1, .int .i64 regs, .int .i64 0, .int .i64 9, .string ⟨#[]⟩, .slice none 0 0] 37)).heap[W3.heap.size]? = some (.cells #[.int .i64 1, .int .i64 regs, .int .i64 0, .int .i64 9, .string ⟨#[]⟩, .slice none 0 0] 37 (0, 0))) := ⟨blk_new _ _⟩
              have HV3 := Aside0.mk (Kd.R_alloc HV3.out (.cells #[.int .i64 1, .int .i64 regs, .int .i64 0, .int .i64 9, .string ⟨#[]⟩, .slice none 0 0] 37))
              have HBc := Aside0.mk (HBc.out.alloc HBc.out.size (.cells #[.int .i64 1, .int .i64 regs, .int .i64 0, .int .i64 9, .string ⟨#[]⟩, .slice none 0 0] 37))
              refine hK.out _ _ ⟨(World.cell?_alloc_lt _ _ _ (World.block_lt_of_cell? _ _ (hHeld.1))).trans (hHeld.1), (World.cell?_alloc_lt _ _ _ (World.block_lt_of_cell? _ _ (hHeld.2))).trans (hHeld.2)⟩ (fun hHeld => ?_)
              clear hK K
              refine norm_ (a' := ?_) ?_ ?_
              rotate_left
              · show Act.put _ (some 127) _ = _
                simp only [Act.put, List.setIfInBounds_toArray, List.set_cons_zero, List.set_cons_succ, i64_w, i32_w]
                rfl
              exact norm_ (by simp only [putAll, Act.put, List.setIfInBounds_toArray, List.set_cons_zero, List.set_cons_succ]) (hCont (v0, v3, W3.heap.size) _ ⟨hHeld, HV3.out, HX7.out, HBc.out⟩)
            · skip
              refine value_ (w1 := W0.alloc (.cells #[.int .i64 1, .int .i64 regs, .int .i64 0, .int .i64 9, .string ⟨#[]⟩, .slice none 0 0] 37)) (v := .slice (some ⟨W0.heap.size, 0, none⟩) 1 1) (by rfl) rfl ?_ ?_
              · first | (go_simp; done) | (go_simp; rfl)
              have HX7 : Aside0 ((W0.alloc (.cells #[.int .i64 1, .int .i64 regs, .int .i64 0, .int .i64 9, .string ⟨#[]⟩, .slice none 0 0] 37)).heap[W0.heap.size]? = some (.cells #[.int .i64 1, .int .i64 regs, .int .i64 0, .int .i64 9, .string ⟨#[]⟩, .slice none 0 0] 37 (0, 0))) := ⟨blk_new _ _⟩
              have HN7 : Aside0 (some W0.heap.size ≠ v0.ownBlock) := ⟨fun e => by have h9 := Kd.R_lt HV0.out _ e.symm; exact absurd h9 (Nat.lt_irrefl _)⟩
              have HV0 := Aside0.mk (Kd.R_alloc HV0.out (.cells #[.int .i64 1, .int .i64 regs, .int .i64 0, .int .i64 9, .string ⟨#[]⟩, .slice none 0 0] 37))
              have HBc := Aside0.mk (HBc.out.alloc HBc.out.size (.cells #[.int .i64 1, .int .i64 regs, .int .i64 0, .int .i64 9, .string ⟨#[]⟩, .slice none 0 0] 37))
              refine hK.out _ _ ⟨(World.cell?_alloc_lt _ _ _ (World.block_lt_of_cell? _ _ (hHeld.1))).trans (hHeld.1), (World.cell?_alloc_lt _ _ _ (World.block_lt_of_cell? _ _ (hHeld.2))).trans (hHeld.2)⟩ (fun hHeld => ?_)
              clear hK K
              refine norm_ (a' := ?_) ?_ ?_
              rotate_left
              · show Act.put _ (some 127) _ = _
                simp only [Act.put, List.setIfInBounds_toArray, List.set_cons_zero, List.set_cons_succ, i64_w, i32_w]
                rfl
              refine one_ (i := 3) (N := some 123) #[true, true, true, true, true, true, true, true, false, false, false] rfl rfl (by kernel_rfl) (by decide) (fun K hK => ?_)
              have HBq := Aside0.mk (HBw6.out.trans (below_base HBc.out HBw6.out.size))
              refine Kd.R_append_rows_step (kF w) (Rr := k37.K w) (w0 := w6) w6.heap.size (by rfl) (.tmp 120) (.tmp 122) 22 37 (.agg #[.int .i64 0, .int .i64 0, .int .i64 0, .int .i64 0, .string ⟨#[]⟩, .slice none 0 0]) 72 rfl Tryd.underlying22 info37 rfl (show 0 < 6 by decide) (by omega) v0 ([] : List S37) xs _ _ _ (fun _ => True) (fun _ => False) rfl rfl ?aO ?aR (fun _ _ h => h) (fun _ h => h.elim) ?aF ?aB ?aS ?aL ?_
              (case aO => exact HV0.out)
              (case aR => exact ReadsRow.imp_ HX.out HBq.out (fun _ _ h => h))
              (case aF => exact (fun _ _ => trivial))
              (case aB => exact HBc.out)
              (case aS => exact HBc.out.size)
              (case aL => have h1 := HN.out.2.1; simp; omega)
              intro v3 W3 ho3 hb3 hg3 hat3
              have HV3 : Aside0 ((kF w).R 37 W3 w6.heap.size (fun _ => True) v3 xs) := ⟨ho3⟩
              have hne : some w.heap.size ≠ v0.ownBlock := fun e => by have h1 := Kd.R_base HV0.out _ e.symm; have h2 := HLT.out; omega
              have HX7 := Aside0.mk (blk_grown HX7.out hg3 HN7.out)
              have HBc := Aside0.mk hb3
              refine hK.out _ _ ⟨(hg3.cell hHeld.1 hne), (hg3.cell hHeld.2 hne)⟩ (fun hHeld => ?_)
              clear hK K
              refine norm_ (a' := ?_) ?_ ?_
              rotate_left
              · show Act.put _ (some 123) _ = _
                simp only [Act.put, List.setIfInBounds_toArray, List.set_cons_zero, List.set_cons_succ, i64_w, i32_w]
                rfl
              exact norm_ (by simp only [putAll, Act.put, List.setIfInBounds_toArray, List.set_cons_zero, List.set_cons_succ]) (hCont (v0, v3, W0.heap.size) _ ⟨hHeld, HV3.out, HX7.out, HBc.out⟩)
          · skip
            refine value_ (w1 := w6.drew.alloc (.cells #[.int .i64 1, .int .i64 regs, .int .i64 0, .int .i64 9, .string ⟨#[]⟩, .slice none 0 0] 37)) (v := .slice (some ⟨w6.drew.heap.size, 0, none⟩) 1 1) (by rfl) rfl ?_ ?_
            · first | (go_simp; done) | (go_simp; rfl)
            have HX7 : Aside0 ((w6.drew.alloc (.cells #[.int .i64 1, .int .i64 regs, .int .i64 0, .int .i64 9, .string ⟨#[]⟩, .slice none 0 0] 37)).heap[w6.drew.heap.size]? = some (.cells #[.int .i64 1, .int .i64 regs, .int .i64 0, .int .i64 9, .string ⟨#[]⟩, .slice none 0 0] 37 (0, 0))) := ⟨blk_new _ _⟩
            have HBc := Aside0.mk (HBc.out.alloc HBc.out.size (.cells #[.int .i64 1, .int .i64 regs, .int .i64 0, .int .i64 9, .string ⟨#[]⟩, .slice none 0 0] 37))
            refine hK.out _ _ ⟨(World.cell?_alloc_lt _ _ _ (World.block_lt_of_cell? _ _ (hHeld.1))).trans (hHeld.1), (World.cell?_alloc_lt _ _ _ (World.block_lt_of_cell? _ _ (hHeld.2))).trans (hHeld.2)⟩ (fun hHeld => ?_)
            clear hK K
            refine norm_ (a' := ?_) ?_ ?_
            rotate_left
            · show Act.put _ (some 127) _ = _
              simp only [Act.put, List.setIfInBounds_toArray, List.set_cons_zero, List.set_cons_succ, i64_w, i32_w]
              rfl
            refine one_ (i := 0) (N := some 120) #[true, true, true, false, true, true, true, true, false, false, false] rfl rfl (by kernel_rfl) (by decide) (fun K hK => ?_)
            refine Kd.R_lit_step (kF w) _ 37 ?hg (N := 120) ?hd (xs := ([] : List S37)) (inner := []) (ok := fun _ => True) (okp := fun _ => True) ?hr ?hp (fun _ hk => hk) trivial (Below.refl _ _) (Nat.le_refl _) (by simp) ?_
            (case hd => rfl)
            (case hg => rfl)
            (case hr => first | (go_simp; done) | (go_simp; rfl))
            (case hp => exact (Reps.none _ _))
            intro v0 W0 ho0 hb0 hg0 hn0
            have HV0 : Aside0 ((kF w).R 37 W0 w6.heap.size (fun _ => True) v0 []) := ⟨Kd.R_lower ho0 HBc.out.size⟩
            have HN7 : Aside0 (some w6.drew.heap.size ≠ v0.ownBlock) := ⟨fun e => by have h9 := Kd.R_base ho0 _ e.symm; have h8 := blk_lt HX7.out; exact absurd h9 (Nat.not_le.2 h8)⟩
            have HX7 := Aside0.mk (blk_below HX7.out hb0)
            have HBc := Aside0.mk (HBc.out.trans (below_base hb0 HBc.out.size))
            refine hK.out _ _ ⟨(pw_cell_below hb0 hHeld.1), (pw_cell_below hb0 hHeld.2)⟩ (fun hHeld => ?_)
            clear hK K
            refine norm_ (a' := ?_) ?_ ?_
            rotate_left
            · show Act.put _ (some 120) _ = _
              simp only [Act.put, List.setIfInBounds_toArray, List.set_cons_zero, List.set_cons_succ, i64_w, i32_w]
              rfl
            refine one_ (i := 3) (N := some 123) #[true, true, true, true, true, true, true, true, false, false, false] rfl rfl (by kernel_rfl) (by decide) (fun K hK => ?_)
            have HBq := Aside0.mk (HBw6.out.trans (below_base HBc.out HBw6.out.size))
            refine Kd.R_append_rows_step (kF w) (Rr := k37.K w) (w0 := w6) w6.heap.size (by rfl) (.tmp 120) (.tmp 122) 22 37 (.agg #[.int .i64 0, .int .i64 0, .int .i64 0, .int .i64 0, .string ⟨#[]⟩, .slice none 0 0]) 72 rfl Tryd.underlying22 info37 rfl (show 0 < 6 by decide) (by omega) v0 ([] : List S37) xs _ _ _ (fun _ => True) (fun _ => False) rfl rfl ?aO ?aR (fun _ _ h => h) (fun _ h => h.elim) ?aF ?aB ?aS ?aL ?_
            (case aO => exact HV0.out)
            (case aR => exact ReadsRow.imp_ HX.out HBq.out (fun _ _ h => h))
            (case aF => exact (fun _ _ => trivial))
            (case aB => exact HBc.out)
            (case aS => exact HBc.out.size)
            (case aL => have h1 := HN.out.2.1; simp; omega)
            intro v3 W3 ho3 hb3 hg3 hat3
            have HV3 : Aside0 ((kF w).R 37 W3 w6.heap.size (fun _ => True) v3 xs) := ⟨ho3⟩
            have hne : some w.heap.size ≠ v0.ownBlock := fun e => by have h1 := Kd.R_base HV0.out _ e.symm; have h2 := HLT.out; omega
            have HX7 := Aside0.mk (blk_grown HX7.out hg3 HN7.out)
            have HBc := Aside0.mk hb3
            refine hK.out _ _ ⟨(hg3.cell hHeld.1 hne), (hg3.cell hHeld.2 hne)⟩ (fun hHeld => ?_)
            clear hK K
            refine norm_ (a' := ?_) ?_ ?_
            rotate_left
            · show Act.put _ (some 123) _ = _
              simp only [Act.put, List.setIfInBounds_toArray, List.set_cons_zero, List.set_cons_succ, i64_w, i32_w]
              rfl
            exact norm_ (by simp only [putAll, Act.put, List.setIfInBounds_toArray, List.set_cons_zero, List.set_cons_succ]) (hCont (v0, v3, w6.drew.heap.size) _ ⟨hHeld, HV3.out, HX7.out, HBc.out⟩)
        rintro ⟨v0, v3, g7⟩ w7 ⟨hHeld, hv3, hx7, hb7⟩
        have HV3 := Aside0.mk hv3; have HX7 := Aside0.mk hx7; have HB7 := Aside0.mk hb7; clear hv3 hx7 hb7
        refine norm_ (a' := ?_) ?_ ?_
        rotate_left
        · simp only [putAll, Act.put, List.setIfInBounds_toArray, List.set_cons_zero, List.set_cons_succ]
          rfl
        refine last_ (i := 8) (N := some 128) #[true, true, true, true, true, true, true, true, true, false, false] rfl rfl (by kernel_rfl) (by decide) (fun K hK => ?_)
        refine Kd.R_append_rows_step (kF w) (Rr := k37.K w) (w0 := w6) w6.heap.size (by rfl) (.tmp 123) (.tmp 127) 22 37 (.agg #[.int .i64 0, .int .i64 0, .int .i64 0, .int .i64 0, .string ⟨#[]⟩, .slice none 0 0]) 72 rfl Tryd.underlying22 info37 rfl (show 0 < 6 by decide) (by omega) v3 xs [litS regs 9] _ _ _ (fun _ => True) (fun _ => False) rfl rfl ?aO ?aR (fun _ _ h => h) (fun _ h => h.elim) ?aF ?aB ?aS ?aL ?_
        (case aO => exact HV3.out)
        (case aR => exact box_reads (cs := [.int .i64 1, .int .i64 regs, .int .i64 0, .int .i64 9, .string ⟨#[]⟩, .slice none 0 0]) HX7.out (lit_K w regs))
        (case aF => exact (fun _ _ => trivial))
        (case aB => exact HB7.out)
        (case aS => exact HB7.out.size)
        (case aL => have h1 := HN.out.2.1; omega)
        intro v8 W8 ho8 hb8 hg8 hat8
        obtain ⟨A8, c8, hv8⟩ := Kd.R_slice ho8
        rw [List.length_append, List.length_singleton] at hv8
        subst hv8
        have K15 : Aside0 (W8.heap[g14]? = some (.cells #[.slice A xs.length c, .int .i64 (regs + 1), .int .i64 out] 24 (0, 0))) := ⟨(hb8.block _ HLT.out.2).trans K14.out⟩
        have c15 : W8.cell? ⟨g14, 0, none⟩ = some (.slice A xs.length c) := (blk_cell K15.out 0).trans rfl
        have z15 := blk_frozen K15.out 0
        have HO8 := Aside0.mk ho8; have HB8 := Aside0.mk hb8; clear ho8 hb8 hg8 hat8
        refine hK.out _ _ ?_
        clear hK K
        refine norm_ (a' := ?_) ?_ ?_
        rotate_left
        · show Act.put _ (some 128) _ = _
          simp only [Act.put, List.setIfInBounds_toArray, List.set_cons_zero, List.set_cons_succ, i64_w, i32_w]
          rfl
        refine pure_ (i := 9) (N := some 129) (v := ?_) (a' := ?_) #[true, true, true, true, true, true, true, true, true, true, false] rfl rfl (by kernel_rfl) (fun _ _ _ h => h) (Or.inl ⟨by rfl, ?_⟩) ?_ ?_
        rotate_left
        · intro w'
          go_simp
          with_reducible rfl
        rotate_left
        · simp only [Act.put, List.setIfInBounds_toArray, List.set_cons_zero, List.set_cons_succ, i64_w, i32_w]
          rfl
        refine last_ (i := 10) (N := none) #[true, true, true, true, true, true, true, true, true, true, true] rfl rfl (by kernel_rfl) (by decide) (fun K hK => ?_)
        refine skip_ (w1 := ?_) (by rfl) rfl ?_ ?_
        rotate_left
        · go_simp
          rfl
        refine hK.out _ _ ?_
        clear hK K
        refine done_ (by kernel_rfl) ?_
        go_upto_region 27 with (fail)
        obtain ⟨lx, hlx⟩ : ∃ lx, lx = xs ++ [litS regs 9] := ⟨_, rfl⟩
        have hll : lx.length = xs.length + 1 := by rw [hlx, List.length_append, List.length_singleton]
        have hw9 : Below w.heap.size w (W8.setCell ⟨g14, 0, none⟩ (.slice A8 (xs.length + 1) c8)) := below_set (HBw6.out.trans (below_base HB8.out HBw6.out.size)) (Nat.le_of_lt HLT.out.1)
        have hc9 : ∃ (hl9 : lx.length ≤ c8), Kd.C k37 (W8.setCell ⟨g14, 0, none⟩ (.slice A8 (xs.length + 1) c8)) A8 lx.length lx := by
          have h1 := R_set_old HO8.out ⟨g14, 0, none⟩ HLT.out.2 (.slice A8 (xs.length + 1) c8)
          rw [← hlx] at h1
          obtain ⟨A9, c9, e9, l9, r9⟩ := Kd.R_reads h1
          rw [← hll] at e9
          have e9' := e9
          simp only [Value.slice.injEq] at e9'
          obtain ⟨rfl, _, rfl⟩ := e9'
          exact ⟨l9, ReadsRow.imp_ r9 (Below.refl _ _) (fun _ _ h => k37.K_below hw9 h)⟩
        obtain ⟨hl9, hc9⟩ := hc9
        refine wp_forget (fun W' => Below w.heap.size w W' ∧ Kd.C k37 W' A8 lx.length lx ∧ W'.heap[g14]? = some (.cells #[.slice A8 (xs.length + 1) c8, .int .i64 (regs + 1), .int .i64 out] 24 (0, 0))) ⟨hw9, hc9, blk_put K15.out 0 _ rfl⟩ ?_
        clear c15 z15 c10 c11 hw9 hc9
        rintro w9 ⟨hb9, hc9, hk9⟩
        have HBw9 := Aside0.mk hb9; have HX9 := Aside0.mk hc9; have K9 := Aside0.mk hk9
        clear hb9 hc9 hk9
        have c10 : w9.cell? ⟨g14, 0, none⟩ = some (.slice A8 (xs.length + 1) c8) := (blk_cell K9.out 0).trans rfl
        have c11 : w9.cell? ⟨g14, 1, none⟩ = some (.int .i64 (regs + 1)) := (blk_cell K9.out 1).trans rfl
        have c12 : w9.cell? ⟨g14, 2, none⟩ = some (.int .i64 out) := (blk_cell K9.out 2).trans rfl
        obtain ⟨zs9, hz9⟩ : ∃ zs9, zs9 = lx.map insOf := ⟨_, rfl⟩
        have HZ9 := Aside0.mk hz9
        have HF9 : Aside0 (Fits lx) := ⟨⟨by have := HN.out.2.1; omega, fun x hx => by
            rw [hlx] at hx
            rcases List.mem_append.1 hx with hx | hx
            · exact HF.out.args x hx
            · rw [List.mem_singleton.1 hx]; exact (show 0 * 8 ≤ 140737488351232 by decide), fun x hx => by
            rw [hlx] at hx
            rcases List.mem_append.1 hx with hx | hx
            · exact HF.out.name x hx
            · rw [List.mem_singleton.1 hx]; exact (show 0 ≤ maxLen by decide)⟩⟩
        have HFI9 : Aside0 (∀ y ∈ zs9, insFit y) := ⟨by rw [hz9]; exact HF9.out.ins⟩
        have HLO9 : Aside0 (runP zs9 (regs + 1) out bs = (rv, 0)) := ⟨by rw [hz9, hlx]; exact HLO2.out⟩
        have HLX := Aside0.mk hlx
        clear hz9 hlx
        go_wp2_with fail
        rw [← hll]
        refine (values_calls lx A8 c8 (regs + 1) out w9 hl9 HX9.out HF9.out.len HF9.out.args).mono ?_
        rintro e w6a ⟨v6a, rfl, hv6a, hb6a⟩
        rw [← HZ9.out] at hv6a
        obtain ⟨Z6, z6, rfl, l6a, r6a⟩ := Kd.R_reads hv6a
        have HR6a := Aside0.mk r6a; have HL6a := Aside0.mk l6a; clear r6a l6a hv6a
        have HB6a : Aside0 (Below w.heap.size w w6a) := ⟨HBw9.out.trans (below_base hb6a HBw9.out.size)⟩
        have HP6a := Aside0.mk hb6a; clear hb6a
        go_wp2_with fail
        refine (copied_calls bs B d w6a (Kd.C_below HBS.out HB6a.out) hd hbl).mono ?_
        rintro e w6b ⟨v6b, rfl, hv6b, hb6b⟩
        obtain ⟨Y6, y6, rfl, l6b, r6b⟩ := Kd.R_reads hv6b
        have HR6b := Aside0.mk r6b; have HL6b := Aside0.mk l6b; clear r6b l6b hv6b
        have HB6b : Aside0 (Below w.heap.size w w6b) := ⟨HB6a.out.trans (below_base hb6b HB6a.out.size)⟩
        have HP6b := Aside0.mk hb6b
        have HS6b := Aside0.mk (Kd.C_below HR6a.out hb6b); clear hb6b
        go_wp2_with fail
        have hc6 := vrun_calls zs9 Z6 z6 (regs + 1) out bs Y6 y6 w6b HL6a.out HS6b.out HFI9.out HR6b.out HL6b.out (by omega) (HT.out.below HB6b.out)
        rw [HLO9.out] at hc6
        refine hc6.mono ?_
        clear hc6
        rintro e w6c ⟨rfl, hb6c⟩
        have HB6c : Aside0 (Below w.heap.size w w6c) := ⟨HB6b.out.trans (below_base hb6c HB6b.out.size)⟩
        have HP6c := Aside0.mk hb6c; clear hb6c
        go_wp2_with fail
        go_ret
        exact ⟨by simp, HB6c.out⟩
  · have hbad := trace_bad zs regs out bs (by rw [HTR.out]; exact hte)
    rw [HTR.out, HRR.out] at hbad
    obtain ⟨h1, h2, h3⟩ := hbad
    have h1' : re = te := h1
    have h2' : tl = [] := h2
    have h3' : rv = 0 := h3
    subst h1' h2' h3'
    have f1 : (re != 0) = true := by simp [hte]
    have HTE := Lib.hid hte; clear hte
    clear h1 h2 h3
    go_wp2_with fail
    go_ret
    exact ⟨by simp, HB3c.out⟩
end Go.Proofs.YtbbembhfnapadaaDoor
