/- The walks of vm.Run and vm.Trace. -/
import Derived.Test.YtbbembhfnapadaaDoorVmG
namespace Go.Proofs.YtbbembhfnapadaaDoor
open Go.RowKit Go.Proofs.YtbbembhfnapadaaDoorW.PrintWords Go.Proofs.YtbbembhfnapadaaDoorW.PrintLast Go.Proofs.YtbbembhfnapadaaDoorW.PrintMore PVmPlays Pl
set_option linter.unusedVariables false
set_option linter.unusedSimpArgs false

/-- What a program leaves, and the error. -/
def runE (out : Int) : Option (List Int × List Int) → Int × Int
  | none => (0, 12)
  | some p => (rd p.2 out, 0)
def runP (xs : List Ins) (regs out : Int) (bs : List S39) : Int × Int := if chkP xs regs out = 0 then runE out (runL bs xs (List.replicate regs.toNat 0) []) else (0, 1)
/-- What the instructions wrote, and the error. -/
def traceE : Option (List Int × List Int) → List Int × Int
  | none => ([], 12)
  | some p => (p.1, 0)
def traceP (xs : List Ins) (regs out : Int) (bs : List S39) : List Int × Int := if chkP xs regs out = 0 then traceE (runL bs xs (List.replicate regs.toNat 0) []) else ([], 1)
theorem chk_zero {xs : List Ins} {regs out : Int} (h : chkP xs regs out = 0) : fitP xs.length regs out ∧ ∃ yE, chkL regs xs (List.replicate regs.toNat false) = some yE := by
  unfold chkP at h
  by_cases hf : fitP xs.length regs out
  · rw [if_pos hf] at h
    refine ⟨hf, ?_⟩
    cases hc : chkL regs xs (List.replicate regs.toNat false) with
    | none => rw [hc] at h; cases h
    | some y => exact ⟨y, rfl⟩
  · rw [if_neg hf] at h; cases h
theorem chk_one {xs : List Ins} {regs out : Int} (h : chkP xs regs out ≠ 0) : chkP xs regs out = 1 := by
  unfold chkP at h ⊢
  by_cases hf : fitP xs.length regs out
  · rw [if_pos hf] at h ⊢
    cases hc : chkL regs xs (List.replicate regs.toNat false) with
    | none => rfl
    | some y =>
      rw [hc] at h
      by_cases hy : ybAt y out = true
      · exact absurd (if_pos hy) h
      · exact if_neg hy
  · rw [if_neg hf]

set_option maxRecDepth 20000 in
set_option maxHeartbeats 1000000 in
theorem vrun_calls (xs : List Ins) (A : Option Addr) (c : Nat) (regs out : Int) (bs : List S39) (B : Option Addr) (d : Nat) (w : World) (hl : xs.length ≤ c) (hX : kI.C w A xs.length xs) (hf : ∀ x ∈ xs, insFit x) (hB : k39.C w B bs.length bs) (hd : bs.length ≤ d) (hbs : bs.length ≤ 9223372036854775807) (hT : Tabs w) :
    Calls Tryd.prog 15 #[.agg #[.slice A xs.length c, .int .i64 regs, .int .i64 out], .slice B bs.length d] w fun e w' => e = .returned (.tuple #[.int .i64 (runP xs regs out bs).1, .int .i64 (runP xs regs out bs).2]) ∧ Below w.heap.size w w' := by
  have HX := Aside0.mk hX; clear hX
  have HF := Aside0.mk hf; clear hf
  have HBS := Aside0.mk hB; clear hB
  have HT := Aside0.mk hT; clear hT
  have hu32 := Tryd.underlying32
  have HB0 : Aside0 (Below w.heap.size w (w.alloc (.cells #[.slice A xs.length c, .int .i64 regs, .int .i64 out] 32))) := ⟨below_alloc (Below.refl _ _) _⟩
  go_enter Tryd.func15, Tryd.ntmps15
  go_wp2_with fail
  refine (check_calls xs A c regs out _ hl (Kd.C_below HX.out HB0.out) HF.out (HT.out.below HB0.out)).mono ?_
  rintro e w1 ⟨rfl, hb1⟩
  have K1 : Aside0 (w1.heap[w.heap.size]? = some (.cells #[.slice A xs.length c, .int .i64 regs, .int .i64 out] 32 (0, 0))) := ⟨blk_below (blk_new w _) hb1⟩
  have HB1 : Aside0 (Below w.heap.size w w1) := ⟨HB0.out.trans (below_base hb1 (by rw [alloc_size]; omega))⟩
  clear hb1
  have c10 : w1.cell? ⟨w.heap.size, 0, none⟩ = some (.slice A xs.length c) := (blk_cell K1.out 0).trans rfl
  have c11 : w1.cell? ⟨w.heap.size, 1, none⟩ = some (.int .i64 regs) := (blk_cell K1.out 1).trans rfl
  have c12 : w1.cell? ⟨w.heap.size, 2, none⟩ = some (.int .i64 out) := (blk_cell K1.out 2).trans rfl
  by_cases hz : chkP xs regs out = 0
  · obtain ⟨hfit, yE, hy⟩ := chk_zero hz
    unfold fitP at hfit
    have HRP : Aside0 (runP xs regs out bs = runE out (runL bs xs (List.replicate regs.toNat 0) [])) := ⟨if_pos hz⟩
    rw [hz]
    clear hz
    obtain ⟨m, hm⟩ := Int.eq_ofNat_of_zero_le (show 0 ≤ regs by omega)
    subst hm
    rw [Int.toNat_natCast] at hy HRP
    have R2 : Aside0 (0 ≤ out ∧ out < (m : Int)) := ⟨by omega⟩
    have hcall := run_calls xs A c m out bs B d yE w1 hl (Kd.C_below HX.out HB1.out) HF.out (by omega) (by omega) hy (Kd.C_below HBS.out HB1.out) hd hbs
    have HCALL := Aside0.mk hcall; clear hcall hfit hy
    go_wp2_with fail
    refine (HCALL.out).mono ?_
    clear HCALL
    rintro e w2 ⟨hb2, hh⟩
    have HB2 : Aside0 (Below w.heap.size w w2) := ⟨HB1.out.trans (below_base hb2 HB1.out.size)⟩
    replace c10 := pw_cell_below hb2 c10
    replace c11 := pw_cell_below hb2 c11
    replace c12 := pw_cell_below hb2 c12
    clear hb2
    rcases hh with ⟨hn, rfl⟩ | ⟨wl, rg, vw, vr, hs, rfl, hrl, hvw, hvr⟩
    · rw [hn] at HRP
      clear hn
      go_wp2_with fail
      go_ret2
      exact ⟨by rw [HRP.out]; rfl, HB2.out⟩
    · rw [hs] at HRP
      clear hs hvw
      obtain ⟨AV, cV, rfl, hcV, hC⟩ := Kd.R_reads hvr
      obtain ⟨ad, eA, x0⟩ := int_at hC out R2.out.1 (by rw [hrl]; exact R2.out.2)
      cases eA
      have p0 : (0 ≤ out) = True := eq_true R2.out.1
      have p1 : (out < (rg.length : Int)) = True := eq_true (by rw [hrl]; exact R2.out.2)
      clear hC hvr hrl
      go_wp2_with fail
      go_ret2
      exact ⟨by rw [HRP.out]; rfl, HB2.out⟩
  · have hone := chk_one hz
    have HRP : Aside0 (runP xs regs out bs = (0, 1)) := ⟨if_neg hz⟩
    rw [hone]
    clear hz hone
    go_wp2_with fail
    go_ret2
    exact ⟨by rw [HRP.out]; rfl, HB1.out⟩
set_option maxRecDepth 20000 in
set_option maxHeartbeats 1000000 in
theorem vtrace_calls (xs : List Ins) (A : Option Addr) (c : Nat) (regs out : Int) (bs : List S39) (B : Option Addr) (d : Nat) (w : World) (hl : xs.length ≤ c) (hX : kI.C w A xs.length xs) (hf : ∀ x ∈ xs, insFit x) (hB : k39.C w B bs.length bs) (hd : bs.length ≤ d) (hbs : bs.length ≤ 9223372036854775807) (hT : Tabs w) :
    Calls Tryd.prog 20 #[.agg #[.slice A xs.length c, .int .i64 regs, .int .i64 out], .slice B bs.length d] w fun e w' => ∃ v, e = .returned (.tuple #[v, .int .i64 (traceP xs regs out bs).2]) ∧ (Kd.int .i64).R 2 w' w.heap.size (fun _ => True) v (traceP xs regs out bs).1 ∧ Below w.heap.size w w' := by
  have HX := Aside0.mk hX; clear hX
  have HF := Aside0.mk hf; clear hf
  have HBS := Aside0.mk hB; clear hB
  have HT := Aside0.mk hT; clear hT
  have hu32 := Tryd.underlying32
  have HB0 : Aside0 (Below w.heap.size w (w.alloc (.cells #[.slice A xs.length c, .int .i64 regs, .int .i64 out] 32))) := ⟨below_alloc (Below.refl _ _) _⟩
  go_enter Tryd.func20, Tryd.ntmps20
  go_wp2_with fail
  refine (check_calls xs A c regs out _ hl (Kd.C_below HX.out HB0.out) HF.out (HT.out.below HB0.out)).mono ?_
  rintro e w1 ⟨rfl, hb1⟩
  have K1 : Aside0 (w1.heap[w.heap.size]? = some (.cells #[.slice A xs.length c, .int .i64 regs, .int .i64 out] 32 (0, 0))) := ⟨blk_below (blk_new w _) hb1⟩
  have HB1 : Aside0 (Below w.heap.size w w1) := ⟨HB0.out.trans (below_base hb1 (by rw [alloc_size]; omega))⟩
  clear hb1
  have c10 : w1.cell? ⟨w.heap.size, 0, none⟩ = some (.slice A xs.length c) := (blk_cell K1.out 0).trans rfl
  have c11 : w1.cell? ⟨w.heap.size, 1, none⟩ = some (.int .i64 regs) := (blk_cell K1.out 1).trans rfl
  have c12 : w1.cell? ⟨w.heap.size, 2, none⟩ = some (.int .i64 out) := (blk_cell K1.out 2).trans rfl
  by_cases hz : chkP xs regs out = 0
  · obtain ⟨hfit, yE, hy⟩ := chk_zero hz
    unfold fitP at hfit
    have HRP : Aside0 (traceP xs regs out bs = traceE (runL bs xs (List.replicate regs.toNat 0) [])) := ⟨if_pos hz⟩
    rw [hz]
    clear hz
    obtain ⟨m, hm⟩ := Int.eq_ofNat_of_zero_le (show 0 ≤ regs by omega)
    subst hm
    rw [Int.toNat_natCast] at hy HRP
    have hcall := run_calls xs A c m out bs B d yE w1 hl (Kd.C_below HX.out HB1.out) HF.out (by omega) (by omega) hy (Kd.C_below HBS.out HB1.out) hd hbs
    have HCALL := Aside0.mk hcall; clear hcall hfit hy
    go_wp2_with fail
    refine (HCALL.out).mono ?_
    clear HCALL
    rintro e w2 ⟨hb2, hh⟩
    have HB2 : Aside0 (Below w.heap.size w w2) := ⟨HB1.out.trans (below_base hb2 HB1.out.size)⟩
    have HS1 := Aside0.mk HB1.out.size
    clear hb2
    rcases hh with ⟨hn, rfl⟩ | ⟨wl, rg, vw, vr, hs, rfl, hrl, hvw, hvr⟩
    · rw [hn] at HRP
      clear hn
      go_wp2_with fail
      go_ret2
      refine ⟨_, by rw [HRP.out]; rfl, ?_, HB2.out⟩
      rw [HRP.out]
      exact Kd.R_nil _ _ _ _ _
    · rw [hs] at HRP
      clear hs hvr hrl
      have HV := Aside0.mk hvw; clear hvw
      go_wp2_with fail
      go_ret2
      refine ⟨_, by rw [HRP.out]; rfl, ?_, HB2.out⟩
      rw [HRP.out]
      exact Kd.R_lower HV.out HS1.out
  · have hone := chk_one hz
    have HRP : Aside0 (traceP xs regs out bs = ([], 1)) := ⟨if_neg hz⟩
    rw [hone]
    clear hz hone
    go_wp2_with fail
    go_ret2
    refine ⟨_, by rw [HRP.out]; rfl, ?_, HB1.out⟩
    rw [HRP.out]
    exact Kd.R_nil _ _ _ _ _
end Go.Proofs.YtbbembhfnapadaaDoor

/- The walks of awake, copied and VmNames. -/
namespace Go.Proofs.YtbbembhfnapadaaDoor
open Go.RowKit Go.Proofs.YtbbembhfnapadaaDoorW.PrintWords Go.Proofs.YtbbembhfnapadaaDoorW.PrintLast Go.Proofs.YtbbembhfnapadaaDoorW.PrintMore PVmPlays Pl
set_option linter.unusedVariables false
set_option linter.unusedSimpArgs false

theorem copied_calls (bs : List S39) (B : Option Addr) (d : Nat) (w : World) (hB : k39.C w B bs.length bs) (hd : bs.length ≤ d) (hl : bs.length * 24 ≤ 140737488351232) :
    Calls Tryd.prog 17 #[.slice B bs.length d] w fun e w' => ∃ v, e = .returned v ∧ Kd.R k39 39 w' w.heap.size (fun _ => True) v bs ∧ Below w.heap.size w w' := by
  refine (sorrellaw24_copied.calls B d bs bs w hB hd ?_).mono ?_
  · unfold sorrellaw24_copied.f
    simp only [Option.bind_some, List.length_nil, List.nil_append]
    exact if_pos (by omega)
  · rintro e w' h
    exact h
theorem awake_run : runP [Ins.lit 0 7] 1 0 [] = (7, 0) := by decide
set_option maxRecDepth 20000 in
theorem awake24_calls (w : World) (hT : Tabs w) : Calls Tryd.prog 14 #[] w fun e w' => e = .returned (.bool true) ∧ Below w.heap.size w w' := by
  have HT := Aside0.mk hT; clear hT
  have HA := Aside0.mk awake_run
  go_enter Tryd.func14, Tryd.ntmps14
  go_wp2_with (first | ((with_reducible refine gate_dst (N := 6) rfl ?_); refine Kd.R_lit kI _ 90 ?hg (N := 6) ?hd (xs := [Ins.lit 0 7]) (inner := [.iface 94 (.agg #[.int .i64 0, .int .i64 7])]) (ok := fun _ => True) (okp := fun _ => True) ?hr ?hp (fun _ hk => hk) trivial (Below.refl _ _) (Nat.le_refl _) (by simp) ?_; (case hd => rfl); (case hg => rfl); (case hr => first | (go_simp; done) | (go_simp; rfl)); (case hp => exact (Reps.one rfl (Reps.none _ _))); intro v6 w1 ho hb hg_ hnew_; clear hg_ hnew_; have HO := Aside0.mk ho; have HB := Aside0.mk hb; clear ho hb; obtain ⟨A6, c6, h6, l6, r6⟩ := Kd.R_reads HO.out; subst h6; have HR6 := Aside0.mk r6; have HL6 := Aside0.mk l6; clear r6 l6))
  refine (vrun_calls [Ins.lit 0 7] A6 c6 1 0 [] none 0 w1 HL6.out HR6.out (fun x hx => by rw [List.mem_singleton.1 hx]; exact trivial) ⟨rfl, Nat.zero_le _, fun h => absurd h (Nat.lt_irrefl _)⟩ (Nat.le_refl _) (by decide) (HT.out.below HB.out)).mono ?_
  rintro e w2 ⟨rfl, hb2⟩
  rw [HA.out]
  have HB2 : Aside0 (Below w.heap.size w w2) := ⟨HB.out.trans (below_base hb2 HB.out.size)⟩
  clear hb2
  go_wp2_with fail
  go_ret
  exact ⟨rfl, HB2.out⟩
end Go.Proofs.YtbbembhfnapadaaDoor
