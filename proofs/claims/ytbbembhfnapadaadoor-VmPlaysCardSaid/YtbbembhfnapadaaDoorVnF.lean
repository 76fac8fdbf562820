/- The walk of VmPlays. -/
import Derived.Test.YtbbembhfnapadaaDoorVnE
import Derived.Test.YtbbembhfnapadaaDoorVmO
namespace Go.Proofs.YtbbembhfnapadaaDoor
open Go.RowKit Go.Proofs.YtbbembhfnapadaaDoorW.PrintWords Go.Proofs.YtbbembhfnapadaaDoorW.PrintLast Go.Proofs.YtbbembhfnapadaaDoorW.PrintMore PVmPlays Pl
set_option linter.unusedVariables false
set_option linter.unusedSimpArgs false

theorem nums_l0 (l : List Int) (hl : l.length ≤ 4611686018427387904) : ∀ (m i k : Nat), i + m = l.length → m < k → sorrellaw24_nums.l0 k l l i = some true
  | 0, i, k, hi, hk => by
    obtain ⟨k, rfl⟩ : ∃ m, k = m + 1 := ⟨k - 1, by omega⟩
    rw [sorrellaw24_nums.l0, if_neg (by omega)]
  | m + 1, i, k, hi, hk => by
    obtain ⟨k, rfl⟩ : ∃ m, k = m + 1 := ⟨k - 1, by omega⟩
    have ih := nums_l0 l hl m (i + 1) k (by omega) (by omega)
    have hw : wrap64 ((i : Int) + 1) = ((i + 1 : Nat) : Int) := by unfold wrap64; omega
    rw [sorrellaw24_nums.l0, if_pos (by omega), if_pos (by omega), if_pos (by omega), if_pos rfl, hw]
    exact ih
theorem nums_same (l : List Int) (hl : l.length ≤ 4611686018427387904) : sorrellaw24_nums.f (l.length + 1) l l = some true := by
  unfold sorrellaw24_nums.f
  rw [if_pos rfl]
  exact nums_l0 l hl l.length 0 _ (by omega) (by omega)
theorem nums_calls (l : List Int) (A0 A1 : Option Addr) (c0 c1 : Nat) (w : World) (h0 : (Kd.int .i64).C w A0 l.length l) (hc0 : l.length ≤ c0) (h1 : (Kd.int .i64).C w A1 l.length l) (hc1 : l.length ≤ c1) (hl : l.length ≤ 4611686018427387904) :
    Calls Tryd.prog 22 #[.slice A0 l.length c0, .slice A1 l.length c1] w fun e w' => e = .returned (.bool true) ∧ Drawn0 w w' := sorrellaw24_nums.calls _ A0 c0 l A1 c1 l true w h0 hc0 h1 hc1 (nums_same l hl)
/-- The numbers of a program that came in are numbers of 64 bits. -/
def Nums (xs : List S37) : Prop := ∀ x ∈ xs, I64 x.f3
theorem Nums.ins {xs : List S37} (h : Nums xs) : ∀ y ∈ xs.map insOf, insNum y := by
  intro y hy
  obtain ⟨x, hx, rfl⟩ := List.mem_map.1 hy
  unfold insOf
  by_cases h1 : x.f0 = 1
  · rw [if_pos h1]; exact h x hx
  rw [if_neg h1]
  by_cases h2 : x.f0 = 2
  · rw [if_pos h2]; trivial
  rw [if_neg h2]
  by_cases h3 : x.f0 = 3
  · rw [if_pos h3]; trivial
  rw [if_neg h3]; trivial
theorem trace_len (zs : List Ins) (regs out : Int) (bs : List S39) : (traceP zs regs out bs).1.length ≤ zs.length := by
  unfold traceP
  by_cases hc : chkP zs regs out = 0
  · rw [if_pos hc]
    cases hr : runL bs zs (List.replicate regs.toNat 0) [] with
    | none => exact Nat.zero_le _
    | some p =>
      obtain ⟨wl, rg⟩ := p
      obtain ⟨t, h1, h2⟩ := runL_more_out bs zs _ _ wl rg hr
      show wl.length ≤ zs.length
      rw [h1, List.nil_append, h2]
      exact Nat.le_refl _
  · rw [if_neg hc]; exact Nat.zero_le _

set_option maxRecDepth 100000 in
set_option maxHeartbeats 1000000 in
theorem VmPlays_walk (xs : List S37) (A : Option Addr) (c : Nat) (regs out : Int) (bs : List S39) (B : Option Addr) (d : Nat) (w : World) (hl : xs.length ≤ c) (hX : Kd.C k37 w A xs.length xs) (hf : Fits xs) (hnm : Nums xs) (hB : k39.C w B bs.length bs) (hd : bs.length ≤ d) (hbl : bs.length * 24 ≤ 140737488351232) (hbn : ∀ b ∈ bs, I64 b.f1) (hT : Tabs w) :
    Calls Tryd.prog 4 #[.agg #[.slice A xs.length c, .int .i64 regs, .int .i64 out], .slice B bs.length d] w fun e w' => e = .returned (.bool true) ∧ Below w.heap.size w w' := by
  have HX := Aside0.mk hX; clear hX
  have HBS := Aside0.mk hB; clear hB
  have HT := Aside0.mk hT; clear hT
  have HF := Aside0.mk hf; clear hf
  have HBN := Aside0.mk hbn; clear hbn
  have hu24 := Tryd.underlying24
  obtain ⟨zs, hzs⟩ : ∃ zs, zs = xs.map insOf := ⟨_, rfl⟩
  have HZ := Aside0.mk hzs
  have HFI : Aside0 (∀ y ∈ zs, insFit y) := ⟨by rw [hzs]; exact HF.out.ins⟩
  have HNI : Aside0 (∀ y ∈ zs, insNum y) := ⟨by rw [hzs]; exact hnm.ins⟩
  have HZL : Aside0 (zs.length * 72 ≤ 140737488351232) := ⟨by rw [hzs, List.length_map]; exact HF.out.len⟩
  clear hzs hnm
  obtain ⟨rv, re, hrr⟩ : ∃ rv re, runP zs regs out bs = (rv, re) := ⟨_, _, rfl⟩
  have HRR := Aside0.mk hrr; clear hrr
  have HB0 : Aside0 (Below w.heap.size w (w.alloc (.cells #[.slice A xs.length c, .int .i64 regs, .int .i64 out] 24))) := ⟨below_alloc (Below.refl _ _) _⟩
  go_enter Tryd.func4, Tryd.ntmps4
  go_wp2_with fail
  refine (awake24_calls _ (HT.out.below HB0.out)).mono ?_
  rintro e w1 ⟨rfl, hb1⟩
  have K1 : Aside0 (w1.heap[w.heap.size]? = some (.cells #[.slice A xs.length c, .int .i64 regs, .int .i64 out] 24 (0, 0))) := ⟨blk_below (blk_new w _) hb1⟩
  have HBw1 : Aside0 (Below w.heap.size w w1) := ⟨HB0.out.trans (below_base hb1 (by rw [alloc_size]; omega))⟩
  clear hb1
  have c10 : w1.cell? ⟨w.heap.size, 0, none⟩ = some (.slice A xs.length c) := (blk_cell K1.out 0).trans rfl
  have c11 : w1.cell? ⟨w.heap.size, 1, none⟩ = some (.int .i64 regs) := (blk_cell K1.out 1).trans rfl
  have c12 : w1.cell? ⟨w.heap.size, 2, none⟩ = some (.int .i64 out) := (blk_cell K1.out 2).trans rfl
  go_wp2_with fail
  refine (values_calls xs A c regs out w1 hl (Kd.C_below HX.out HBw1.out) HF.out.len HF.out.args).mono ?_
  rintro e w2a ⟨v2a, rfl, hv2a, hb2a⟩
  rw [← HZ.out] at hv2a
  obtain ⟨Z2, z2, rfl, l2a, r2a⟩ := Kd.R_reads hv2a
  have HR2a := Aside0.mk r2a; have HL2a := Aside0.mk l2a; clear r2a l2a hv2a
  have HB2a : Aside0 (Below w.heap.size w w2a) := ⟨HBw1.out.trans (below_base hb2a HBw1.out.size)⟩
  have HP2a := Aside0.mk hb2a; clear hb2a
  go_wp2_with fail
  refine (numbers_calls zs Z2 z2 regs out w2a HL2a.out HR2a.out HZL.out).mono ?_
  rintro e w3 ⟨v3, rfl, hv3, hb3⟩
  obtain ⟨P3, q3, hv, l3, r3⟩ := Kd.R_reads hv3
  rw [List.length_map] at hv l3 r3
  subst hv
  have HPC : Aside0 (Kd.C k37 w3 P3 zs.length (zs.map numIns)) := ⟨kF_C r3 hb3⟩
  have HPL := Aside0.mk l3
  have HB3 : Aside0 (Below w.heap.size w w3) := ⟨HB2a.out.trans (below_base hb3 HB2a.out.size)⟩
  have K3 : Aside0 (w3.heap[w.heap.size]? = some (.cells #[.slice A xs.length c, .int .i64 regs, .int .i64 out] 24 (0, 0))) := ⟨blk_below (blk_below K1.out HP2a.out) hb3⟩
  clear hv3 hb3 l3 r3 c10 c11 c12
  go_upto_region 4 with (fail)
  refine wp_forget (fun W' => Below w3.heap.size w3 W' ∧ W'.heap[w3.heap.size]? = some (.cells #[.slice P3 zs.length q3, .int .i64 regs, .int .i64 out] 24 (0, 0))) ⟨below_alloc (Below.refl _ _) _, blk_new _ _⟩ ?_
  rintro w4 ⟨hb4, hk4⟩
  have HKP := Aside0.mk hk4
  have HP4 := Aside0.mk hb4
  have HBw4 : Aside0 (Below w.heap.size w w4) := ⟨HB3.out.trans (below_base hb4 HB3.out.size)⟩
  have K4 : Aside0 (w4.heap[w.heap.size]? = some (.cells #[.slice A xs.length c, .int .i64 regs, .int .i64 out] 24 (0, 0))) := ⟨blk_below K3.out hb4⟩
  clear hb4 hk4
  have c10 : w4.cell? ⟨w.heap.size, 0, none⟩ = some (.slice A xs.length c) := (blk_cell K4.out 0).trans rfl
  have c11 : w4.cell? ⟨w.heap.size, 1, none⟩ = some (.int .i64 regs) := (blk_cell K4.out 1).trans rfl
  have c12 : w4.cell? ⟨w.heap.size, 2, none⟩ = some (.int .i64 out) := (blk_cell K4.out 2).trans rfl
  go_wp2_with fail
  refine (values_calls xs A c regs out w4 hl (Kd.C_below HX.out HBw4.out) HF.out.len HF.out.args).mono ?_
  rintro e w4a ⟨v4a, rfl, hv4a, hb4a⟩
  rw [← HZ.out] at hv4a
  obtain ⟨Z4, z4, rfl, l4a, r4a⟩ := Kd.R_reads hv4a
  have HR4a := Aside0.mk r4a; have HL4a := Aside0.mk l4a; clear r4a l4a hv4a
  have HB4a : Aside0 (Below w.heap.size w w4a) := ⟨HBw4.out.trans (below_base hb4a HBw4.out.size)⟩
  have HP4a := Aside0.mk hb4a; clear hb4a
  go_wp2_with fail
  refine (copied_calls bs B d w4a (Kd.C_below HBS.out HB4a.out) hd hbl).mono ?_
  rintro e w4b ⟨v4b, rfl, hv4b, hb4b⟩
  obtain ⟨Y4, y4, rfl, l4b, r4b⟩ := Kd.R_reads hv4b
  have HR4b := Aside0.mk r4b; have HL4b := Aside0.mk l4b; clear r4b l4b hv4b
  have HB4b : Aside0 (Below w.heap.size w w4b) := ⟨HB4a.out.trans (below_base hb4b HB4a.out.size)⟩
  have HP4b := Aside0.mk hb4b
  have HS4b := Aside0.mk (Kd.C_below HR4a.out hb4b); clear hb4b
  go_wp2_with fail
  have hc4 := vrun_calls zs Z4 z4 regs out bs Y4 y4 w4b HL4a.out HS4b.out HFI.out HR4b.out HL4b.out (by omega) (HT.out.below HB4b.out)
  rw [HRR.out] at hc4
  refine hc4.mono ?_
  clear hc4
  rintro e w4c ⟨rfl, hb4c⟩
  have HB4c : Aside0 (Below w.heap.size w w4c) := ⟨HB4b.out.trans (below_base hb4c HB4b.out.size)⟩
  have HP4c := Aside0.mk hb4c; clear hb4c
  have HQ4 : Aside0 (Below w4.heap.size w4 w4c) := ⟨HP4a.out.trans (below_base (HP4b.out.trans (below_base HP4c.out HP4b.out.size)) HP4a.out.size)⟩
  have KP4 : Aside0 (w4c.heap[w3.heap.size]? = some (.cells #[.slice P3 zs.length q3, .int .i64 regs, .int .i64 out] 24 (0, 0))) := ⟨blk_below HKP.out HQ4.out⟩
  have K5 : Aside0 (w4c.heap[w.heap.size]? = some (.cells #[.slice A xs.length c, .int .i64 regs, .int .i64 out] 24 (0, 0))) := ⟨blk_below K4.out HQ4.out⟩
  have HPC4 : Aside0 (Kd.C k37 w4c P3 zs.length (zs.map numIns)) := ⟨Kd.C_below HPC.out (HP4.out.trans (below_base HQ4.out HP4.out.size))⟩
  clear c10 c11 c12
  have g10 : w4c.cell? ⟨w3.heap.size, 0, none⟩ = some (.slice P3 zs.length q3) := (blk_cell KP4.out 0).trans rfl
  have g11 : w4c.cell? ⟨w3.heap.size, 1, none⟩ = some (.int .i64 regs) := (blk_cell KP4.out 1).trans rfl
  have g12 : w4c.cell? ⟨w3.heap.size, 2, none⟩ = some (.int .i64 out) := (blk_cell KP4.out 2).trans rfl
  go_wp2_with fail
  have hc5 := refrun_calls zs P3 q3 regs out bs B d w4c HPL.out HPC4.out HFI.out HNI.out (Kd.C_below HBS.out HB4c.out) hd (by omega) HBN.out
  rw [HRR.out] at hc5
  refine hc5.mono ?_
  clear hc5
  rintro e w5 ⟨rfl, hb5⟩
  have HBw5 : Aside0 (Below w.heap.size w w5) := ⟨HB4c.out.trans (below_base hb5 HB4c.out.size)⟩
  have KP5 : Aside0 (w5.heap[w3.heap.size]? = some (.cells #[.slice P3 zs.length q3, .int .i64 regs, .int .i64 out] 24 (0, 0))) := ⟨blk_below KP4.out hb5⟩
  have K6 : Aside0 (w5.heap[w.heap.size]? = some (.cells #[.slice A xs.length c, .int .i64 regs, .int .i64 out] 24 (0, 0))) := ⟨blk_below K5.out hb5⟩
  have HPC5 : Aside0 (Kd.C k37 w5 P3 zs.length (zs.map numIns)) := ⟨Kd.C_below HPC4.out hb5⟩
  clear hb5 g10 g11 g12
  have c10 : w5.cell? ⟨w.heap.size, 0, none⟩ = some (.slice A xs.length c) := (blk_cell K6.out 0).trans rfl
  have c11 : w5.cell? ⟨w.heap.size, 1, none⟩ = some (.int .i64 regs) := (blk_cell K6.out 1).trans rfl
  have c12 : w5.cell? ⟨w.heap.size, 2, none⟩ = some (.int .i64 out) := (blk_cell K6.out 2).trans rfl
  go_wp2_with fail
  refine (values_calls xs A c regs out w5 hl (Kd.C_below HX.out HBw5.out) HF.out.len HF.out.args).mono ?_
  rintro e w6a ⟨v6a, rfl, hv6a, hb6a⟩
  rw [← HZ.out] at hv6a
  obtain ⟨Z6, z6, rfl, l6a, r6a⟩ := Kd.R_reads hv6a
  have HR6a := Aside0.mk r6a; have HL6a := Aside0.mk l6a; clear r6a l6a hv6a
  have HB6a : Aside0 (Below w.heap.size w w6a) := ⟨HBw5.out.trans (below_base hb6a HBw5.out.size)⟩
  have HP6a := Aside0.mk hb6a; clear hb6a
  go_wp2_with fail
  refine (copied_calls bs B d w6a (Kd.C_below HBS.out HB6a.out) hd hbl).mono ?_
  rintro e w6b ⟨v6b, rfl, hv6b, hb6b⟩
  obtain ⟨Y6, y6, rfl, l6b, r6b⟩ := Kd.R_reads hv6b
  have HR6b := Aside0.mk r6b; have HL6b := Aside0.mk l6b; clear r6b l6b hv6b
  have HB6b : Aside0 (Below w.heap.size w w6b) := ⟨HB6a.out.trans (below_base hb6b HB6a.out.size)⟩
  have HP6b := Aside0.mk hb6b
  have HS6b := Aside0.mk (Kd.C_below HR6a.out hb6b); clear hb6b
  go_wp2_with fail
  have hc6 := vtrace_calls zs Z6 z6 regs out bs Y6 y6 w6b HL6a.out HS6b.out HFI.out HR6b.out HL6b.out (by omega) (HT.out.below HB6b.out)
  refine hc6.mono ?_
  clear hc6
  rintro e w6c ⟨v6c, rfl, hv6c, hb6c⟩
  have HB6c : Aside0 (Below w.heap.size w w6c) := ⟨HB6b.out.trans (below_base hb6c HB6b.out.size)⟩
  have HP6c := Aside0.mk hb6c; clear hb6c
  have HQ6 : Aside0 (Below w5.heap.size w5 w6c) := ⟨HP6a.out.trans (below_base (HP6b.out.trans (below_base HP6c.out HP6b.out.size)) HP6a.out.size)⟩
  have KP6 : Aside0 (w6c.heap[w3.heap.size]? = some (.cells #[.slice P3 zs.length q3, .int .i64 regs, .int .i64 out] 24 (0, 0))) := ⟨blk_below KP5.out HQ6.out⟩
  have HPC6 : Aside0 (Kd.C k37 w6c P3 zs.length (zs.map numIns)) := ⟨Kd.C_below HPC5.out HQ6.out⟩
  clear c10 c11 c12
  have htl := trace_len zs regs out bs
  obtain ⟨tl, te, htr⟩ : ∃ tl te, traceP zs regs out bs = (tl, te) := ⟨_, _, rfl⟩
  rw [htr] at hv6c htl ⊢
  obtain ⟨AT, cT, hvT, lT, rT⟩ := Kd.R_reads hv6c
  dsimp only at hvT lT rT htl
  subst hvT
  have HTR := Aside0.mk htr
  have HTL : Aside0 (tl.length ≤ 4611686018427387904) := ⟨by have := HZL.out; omega⟩
  have HTC := Aside0.mk rT; have HTK := Aside0.mk lT
  clear hv6c htr rT lT htl
  have g10 : w6c.cell? ⟨w3.heap.size, 0, none⟩ = some (.slice P3 zs.length q3) := (blk_cell KP6.out 0).trans rfl
  have g11 : w6c.cell? ⟨w3.heap.size, 1, none⟩ = some (.int .i64 regs) := (blk_cell KP6.out 1).trans rfl
  have g12 : w6c.cell? ⟨w3.heap.size, 2, none⟩ = some (.int .i64 out) := (blk_cell KP6.out 2).trans rfl
  go_wp2_with fail
  refine (reftrace_calls zs P3 q3 regs out bs B d w6c HPL.out HPC6.out HFI.out HNI.out (Kd.C_below HBS.out HB6c.out) hd (by omega) HBN.out).mono ?_
  rintro e w7 ⟨hb7, hh⟩
  have HB7 : Aside0 (Below w.heap.size w w7) := ⟨HB6c.out.trans (below_base hb7 HB6c.out.size)⟩
  have HTC7 : Aside0 ((Kd.int .i64).C w7 AT tl.length tl) := ⟨Kd.C_below HTC.out hb7⟩
  clear hb7 g10 g11 g12
  rcases hh with ⟨hc, rfl⟩ | ⟨hc, hr, rfl⟩ | ⟨wl, rg, vw, vr, hc, hr, rfl, hlen, hvw, hvr⟩
  · have htr := HTR.out
    unfold traceP at htr
    rw [if_neg (by omega)] at htr
    obtain ⟨rfl, rfl⟩ := Prod.mk.inj htr
    clear htr hc
    go_wp2_with fail
    refine (nums_calls [] AT none cT 0 w7 HTC7.out HTK.out (nilC w7) (Nat.le_refl _) HTL.out).mono ?_
    rintro e w8 ⟨rfl, hd8⟩
    have HB8 : Aside0 (Below w.heap.size w w8) := ⟨HB7.out.trans (below_base hd8.below HB7.out.size)⟩
    go_wp2_with fail
    go_ret
    exact ⟨by simp, HB8.out⟩
  · have htr := HTR.out
    unfold traceP at htr
    rw [if_pos hc, hr] at htr
    obtain ⟨rfl, rfl⟩ := Prod.mk.inj htr
    clear htr hc hr
    go_wp2_with fail
    refine (nums_calls [] AT none cT 0 w7 HTC7.out HTK.out (nilC w7) (Nat.le_refl _) HTL.out).mono ?_
    rintro e w8 ⟨rfl, hd8⟩
    have HB8 : Aside0 (Below w.heap.size w w8) := ⟨HB7.out.trans (below_base hd8.below HB7.out.size)⟩
    go_wp2_with fail
    go_ret
    exact ⟨by simp, HB8.out⟩
  · have htr := HTR.out
    unfold traceP at htr
    rw [if_pos hc, hr] at htr
    obtain ⟨rfl, rfl⟩ := Prod.mk.inj htr
    clear htr hc hr hlen hvr
    obtain ⟨A8, c8, hv8, l8, r8⟩ := Kd.R_reads hvw
    subst hv8
    have HR8 := Aside0.mk r8; have HL8 := Aside0.mk l8
    clear hvw r8 l8
    go_wp2_with fail
    refine (nums_calls wl AT A8 cT c8 w7 HTC7.out HTK.out HR8.out HL8.out HTL.out).mono ?_
    rintro e w8 ⟨rfl, hd8⟩
    have HB8 : Aside0 (Below w.heap.size w w8) := ⟨HB7.out.trans (below_base hd8.below HB7.out.size)⟩
    go_wp2_with fail
    go_ret
    exact ⟨by simp, HB8.out⟩
end Go.Proofs.YtbbembhfnapadaaDoor

/- A program that came in, and that its numbers are of 64 bits. -/
namespace Go.Proofs.YtbbembhfnapadaaDoor
open Go.RowKit Go.Proofs.YtbbembhfnapadaaDoorW.PrintWords Go.Proofs.YtbbembhfnapadaaDoorW.PrintLast Go.Proofs.YtbbembhfnapadaaDoorW.PrintMore PVmPlays Go.ChangeShapes Go.WideShapes
set_option linter.unusedVariables false

theorem wf_i64 {a : Int} (h : (Lit.int .i64 a).wf = true) : I64 a := by
  unfold I64
  simpa [Lit.wf, IntKind.min, IntKind.max, IntKind.signed, IntKind.bits] using h
section
variable {H : Type} {enc : TypeId × Value → H} {w : World} {base : Nat} {spare : Nat → Bool} {held : Bool}
theorem opens37n : Opens enc Tryd.prog w base spare held 37 k37 (fun x => x.f4.size ≤ maxLen ∧ x.f5.length * Tryd.prog.bytesOf 3 ≤ reachBytes ∧ I64 x.f3) := by
  refine ⟨by kernel_rfl, fun fuel cs x h => ?_⟩
  obtain ⟨hl, hf⟩ := opens_fields Tryd.underlying37 (by kernel_rfl) (by kernel_rfl) h
  obtain ⟨v0, y0, n0, e0, t0, w0⟩ := hf 0 _ rfl
  obtain ⟨v1, y1, n1, e1, t1, w1⟩ := hf 1 _ rfl
  obtain ⟨v2, y2, n2, e2, t2, w2⟩ := hf 2 _ rfl
  obtain ⟨v3, y3, n3, e3, t3, w3⟩ := hf 3 _ rfl
  obtain ⟨v4, y4, n4, e4, t4, w4⟩ := hf 4 _ rfl
  obtain ⟨v5, y5, n5, e5, t5, w5⟩ := hf 5 _ rfl
  obtain ⟨a0, k0, g0⟩ := opens3.opens _ _ _ t0
  obtain ⟨a1, k1, g1⟩ := opens3.opens _ _ _ t1
  obtain ⟨a2, k2, g2⟩ := opens3.opens _ _ _ t2
  obtain ⟨a3, k3, g3⟩ := opens2.opens _ _ _ t3
  obtain ⟨a4, k4, g4⟩ := opens9.opens _ _ _ t4
  obtain ⟨a5, k5, g5⟩ := opens35.opens _ _ _ t5
  obtain rfl : v0 = .int .i64 a0 := List.cons.inj k0 |>.1
  obtain rfl : v1 = .int .i64 a1 := List.cons.inj k1 |>.1
  obtain rfl : v2 = .int .i64 a2 := List.cons.inj k2 |>.1
  obtain rfl : v3 = .int .i64 a3 := List.cons.inj k3 |>.1
  obtain rfl : v4 = .string a4 := List.cons.inj k4 |>.1
  obtain ⟨A5, c5, k5, l5, r5⟩ := k5
  obtain rfl : v5 = .slice A5 a5.length c5 := List.cons.inj k5 |>.1
  obtain rfl : cs = [.int .i64 a0, .int .i64 a1, .int .i64 a2, .int .i64 a3, .string a4, .slice A5 a5.length c5] := by
    match cs, hl with
    | [c0, c1, c2, c3, c4, c5], _ => simp_all
  exact ⟨⟨a0, a1, a2, a3, a4, a5⟩, k37_mk w ⟨a0, a1, a2, a3, a4, a5⟩ l5 r5, fun hn => ⟨(g4 (w4 hn)).2, (g5 (w5 hn)).1, wf_i64 (g3 (w3 hn))⟩⟩
theorem opens22n : Opens enc Tryd.prog w base spare held 22 (Kd.slice 37 k37) (fun xs => xs.length * Tryd.prog.bytesOf 37 ≤ reachBytes ∧ ∀ x ∈ xs, x.f4.size ≤ maxLen ∧ x.f5.length * Tryd.prog.bytesOf 3 ≤ reachBytes ∧ I64 x.f3) := opens_slice 37 (by kernel_rfl) Tryd.underlying22 opens37n
set_option maxRecDepth 100000 in
/-- A program that came in. -/
theorem open_coden {r : Reach} {b0 : Nat} {v : Value} {d : DataW H} {p : List MemPlace} (hv : Value.okWide Tryd.prog w r b0 24 v) (h : DataW.Trod enc Tryd.prog w base spare held 24 v d p) (hn : ∀ n ∈ d.weights Tryd.prog 24, n ≤ reachBytes) :
    ∃ (xs : List S37) (A : Option Addr) (c : Nat) (regs out : Int), v = .agg #[.slice A xs.length c, .int .i64 regs, .int .i64 out] ∧ xs.length ≤ c ∧ Kd.C k37 w A xs.length xs ∧ Fits xs ∧ Nums xs := by
  obtain ⟨v0, v1, v2, y0, y1, y2, n, rfl, rfl, rfl, t0, t1, t2⟩ := Go.Joins.open_agg3 Tryd.underlying24 (by kernel_rfl) (by kernel_rfl) hv h
  obtain ⟨xs, ⟨A, c, k0, hl, hC⟩, g0⟩ := opens22n.opens _ _ _ t0
  obtain ⟨regs, k1, g1⟩ := opens3.opens _ _ _ t1
  obtain ⟨out, k2, g2⟩ := opens3.opens _ _ _ t2
  obtain rfl : v0 = .slice A xs.length c := List.cons.inj k0 |>.1
  obtain rfl : v1 = .int .i64 regs := List.cons.inj k1 |>.1
  obtain rfl : v2 = .int .i64 out := List.cons.inj k2 |>.1
  have e : (DataW.agg [y0.1, y1.1, y2.1]).weights Tryd.prog 24 = DataW.weightsEach Tryd.prog [22, 3, 3] [y0.1, y1.1, y2.1] := by simp [DataW.weights, Tryd.underlying24]
  rw [e] at hn
  have hg := g0 (fun n h => hn n (weights_each (j := 0) rfl rfl n h))
  rw [bytes3, bytes37] at hg
  exact ⟨xs, A, c, regs, out, rfl, hl, hC, ⟨hg.1, fun x hx => (hg.2 x hx).2.1, fun x hx => (hg.2 x hx).1⟩, fun x hx => (hg.2 x hx).2.2⟩
end
end Go.Proofs.YtbbembhfnapadaaDoor
