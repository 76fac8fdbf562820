/- The walk of VmNames. -/
import Derived.Test.YtbbembhfnapadaaDoorVmH
namespace Go.Proofs.YtbbembhfnapadaaDoor
open Go.RowKit Go.Proofs.YtbbembhfnapadaaDoorW.PrintWords Go.Proofs.YtbbembhfnapadaaDoorW.PrintLast Go.Proofs.YtbbembhfnapadaaDoorW.PrintMore PVmPlays Pl
set_option linter.unusedVariables false
set_option linter.unusedSimpArgs false

/-- Does an instruction's name stand there? -/
def isVar (name : ByteArray) (x : S37) : Bool := x.f0 == 2 && x.f4.toList == name.toList
theorem insVal_more (bs : List S39) (b : S39) (regs : List Int) (x : S37) (h : isVar b.f0 x = false) : insVal (bs ++ [b]) regs (insOf x) = insVal bs regs (insOf x) := by
  unfold insOf
  by_cases h1 : x.f0 = 1
  · rw [if_pos h1]; rfl
  rw [if_neg h1]
  by_cases h2 : x.f0 = 2
  · rw [if_pos h2]
    unfold isVar at h
    rw [show (x.f0 == 2) = true by simp [h2], Bool.true_and] at h
    show (getP (bs ++ [b]) x.f4, (0 : Int)) = (getP bs x.f4, 0)
    rw [getP_snoc, if_neg (fun e => by rw [e] at h; simp at h)]
  rw [if_neg h2]
  by_cases h3 : x.f0 = 3
  · rw [if_pos h3]; rfl
  rw [if_neg h3]; rfl
theorem runL_more (bs : List S39) (b : S39) : ∀ (xs : List S37) (regs wl : List Int), (∀ x ∈ xs, isVar b.f0 x = false) → runL (bs ++ [b]) (xs.map insOf) regs wl = runL bs (xs.map insOf) regs wl
  | [], _, _, _ => rfl
  | x :: xs, regs, wl, h => by
    rw [List.map_cons]
    unfold runL
    rw [insVal_more bs b regs x (h x List.mem_cons_self)]
    rw [runL_more bs b xs _ _ (fun y hy => h y (List.mem_cons_of_mem _ hy))]
theorem runP_more (bs : List S39) (b : S39) (xs : List S37) (regs out : Int) (h : ∀ x ∈ xs, isVar b.f0 x = false) : runP (xs.map insOf) regs out (bs ++ [b]) = runP (xs.map insOf) regs out bs := by
  unfold runP
  rw [runL_more bs b xs _ _ h]

/-- What comes in is small enough. -/
structure Fits (xs : List S37) : Prop where
  len : xs.length * 72 ≤ 140737488351232
  args : ∀ x ∈ xs, x.f5.length * 8 ≤ 140737488351232
  name : ∀ x ∈ xs, x.f4.size ≤ maxLen
theorem Fits.ins {xs : List S37} (h : Fits xs) : ∀ y ∈ xs.map insOf, insFit y := by
  intro y hy
  obtain ⟨x, hx, rfl⟩ := List.mem_map.1 hy
  unfold insOf
  by_cases h1 : x.f0 = 1
  · rw [if_pos h1]; trivial
  rw [if_neg h1]
  by_cases h2 : x.f0 = 2
  · rw [if_pos h2]; exact h.name x hx
  rw [if_neg h2]
  by_cases h3 : x.f0 = 3
  · rw [if_pos h3]
    have := h.args x hx
    show x.f5.length ≤ 140737488351232
    omega
  rw [if_neg h3]; trivial

set_option maxRecDepth 20000 in
set_option maxHeartbeats 400000 in
theorem VmNames_walk (xs : List S37) (A : Option Addr) (c : Nat) (regs out : Int) (bs : List S39) (B : Option Addr) (d : Nat) (name : ByteArray) (n : Int) (w : World) (hl : xs.length ≤ c) (hX : Kd.C k37 w A xs.length xs) (hf : Fits xs) (hB : k39.C w B bs.length bs) (hd : bs.length ≤ d) (hbl : bs.length * 24 ≤ 140737488351232) (hT : Tabs w) :
    Calls Tryd.prog 3 #[.agg #[.slice A xs.length c, .int .i64 regs, .int .i64 out], .slice B bs.length d, .string name, .int .i64 n] w fun e w' => e = .returned (.bool true) ∧ Below w.heap.size w w' := by
  have HX := Aside0.mk hX; clear hX
  have HBS := Aside0.mk hB; clear hB
  have HT := Aside0.mk hT; clear hT
  have HF := Aside0.mk hf; clear hf
  have hu24 := Tryd.underlying24
  obtain ⟨zs, hzs⟩ : ∃ zs, zs = xs.map insOf := ⟨_, rfl⟩
  have HZ := Aside0.mk hzs
  have HFI : Aside0 (∀ y ∈ zs, insFit y) := ⟨by rw [hzs]; exact HF.out.ins⟩
  clear hzs
  have HB0 : Aside0 (Below w.heap.size w (w.alloc (.cells #[.slice A xs.length c, .int .i64 regs, .int .i64 out] 24))) := ⟨below_alloc (Below.refl _ _) _⟩
  go_enter Tryd.func3, Tryd.ntmps3
  go_wp2_with fail
  refine (awake24_calls _ (HT.out.below HB0.out)).mono ?_
  rintro e w1 ⟨rfl, hb1⟩
  have K1 : Aside0 (w1.heap[w.heap.size]? = some (.cells #[.slice A xs.length c, .int .i64 regs, .int .i64 out] 24 (0, 0))) := ⟨blk_below (blk_new w _) hb1⟩
  have HB1 : Aside0 (Below w.heap.size w w1) := ⟨HB0.out.trans (below_base hb1 (by rw [alloc_size]; omega))⟩
  clear hb1
  have c10 : w1.cell? ⟨w.heap.size, 0, none⟩ = some (.slice A xs.length c) := (blk_cell K1.out 0).trans rfl
  have c11 : w1.cell? ⟨w.heap.size, 1, none⟩ = some (.int .i64 regs) := (blk_cell K1.out 1).trans rfl
  have c12 : w1.cell? ⟨w.heap.size, 2, none⟩ = some (.int .i64 out) := (blk_cell K1.out 2).trans rfl
  go_wp2_with fail
  refine (values_calls xs A c regs out w1 hl (Kd.C_below HX.out HB1.out) HF.out.len HF.out.args).mono ?_
  rintro e w2 ⟨v2, rfl, hv2, hb2⟩
  rw [← HZ.out] at hv2
  obtain ⟨A2, c2, rfl, l2, r2⟩ := Kd.R_reads hv2
  have HR2 := Aside0.mk r2; have HL2 := Aside0.mk l2; clear r2 l2 hv2
  have HB2 : Aside0 (Below w.heap.size w w2) := ⟨HB1.out.trans (below_base hb2 HB1.out.size)⟩
  replace c10 := pw_cell_below hb2 c10
  replace c11 := pw_cell_below hb2 c11
  replace c12 := pw_cell_below hb2 c12
  have K2 : Aside0 (w2.heap[w.heap.size]? = _) := ⟨blk_below K1.out hb2⟩
  clear hb2
  go_wp2_with fail
  refine (copied_calls bs B d w2 (Kd.C_below HBS.out HB2.out) hd hbl).mono ?_
  rintro e w3 ⟨v3, rfl, hv3, hb3⟩
  obtain ⟨A3, c3, rfl, l3, r3⟩ := Kd.R_reads hv3
  have HR3 := Aside0.mk r3; have HL3 := Aside0.mk l3; clear r3 l3 hv3
  have HB3 : Aside0 (Below w.heap.size w w3) := ⟨HB2.out.trans (below_base hb3 HB2.out.size)⟩
  have HR2' := Aside0.mk (Kd.C_below HR2.out hb3)
  replace c10 := pw_cell_below hb3 c10
  replace c11 := pw_cell_below hb3 c11
  replace c12 := pw_cell_below hb3 c12
  have K3 : Aside0 (w3.heap[w.heap.size]? = _) := ⟨blk_below K2.out hb3⟩
  clear hb3
  go_wp2_with fail
  refine (vrun_calls zs A2 c2 regs out bs A3 c3 w3 HL2.out HR2'.out HFI.out HR3.out HL3.out (by omega) (HT.out.below HB3.out)).mono ?_
  rintro e w4 ⟨rfl, hb4⟩
  have HB4 : Aside0 (Below w.heap.size w w4) := ⟨HB3.out.trans (below_base hb4 HB3.out.size)⟩
  have K4 : Aside0 (w4.heap[w.heap.size]? = some (.cells #[.slice A xs.length c, .int .i64 regs, .int .i64 out] 24 (0, 0))) := ⟨blk_below K3.out hb4⟩
  clear hb4 c10 c11 c12
  have c10 : w4.cell? ⟨w.heap.size, 0, none⟩ = some (.slice A xs.length c) := (blk_cell K4.out 0).trans rfl
  have c11 : w4.cell? ⟨w.heap.size, 1, none⟩ = some (.int .i64 regs) := (blk_cell K4.out 1).trans rfl
  have c12 : w4.cell? ⟨w.heap.size, 2, none⟩ = some (.int .i64 out) := (blk_cell K4.out 2).trans rfl
  obtain ⟨rv, re, hR⟩ : ∃ rv re, runP zs regs out bs = (rv, re) := ⟨_, _, rfl⟩
  rw [hR]
  have HR := Aside0.mk hR
  clear hR
  go_wp2_with fail
  go_loopw [11] (fun v11 w' => ∃ i : Int, v11 = .int .i64 i ∧ 0 ≤ i ∧ i ≤ xs.length ∧ Aside0 (∀ x ∈ xs.take i.toNat, isVar name x = false) ∧ w' = w4) (fun v11 _ => xs.length - (intOf v11).toNat)
  case atStart => exact ⟨0, rfl, Int.le_refl _, by omega, ⟨fun x hx => by simp at hx⟩, rfl⟩
  case round =>
    obtain ⟨i, rfl, h0, h1, HN, rfl⟩ := hrel
    by_cases h2 : i < xs.length
    · have b2 : decide (i < (xs.length : Int)) = true := decide_eq_true h2
      obtain ⟨ad, A5, c5, eA, e0, e1, e2, e3, e4, e5, l5, g5⟩ := at_T37 HX.out i h0 h2
      cases eA
      replace e0 := pw_cell_below HB4.out e0
      replace e4 := pw_cell_below HB4.out e4
      clear e1 e2 e3 e5 l5 g5
      have HI := Aside0.mk (show 0 ≤ i ∧ i < xs.length from ⟨h0, h2⟩)
      have HQ : Aside0 (isVar name (rd_T37 xs i) = ((rd_T37 xs i).f0 == 2 && (rd_T37 xs i).f4.toList == name.toList)) := ⟨rfl⟩
      replace h0 := eq_true h0
      replace h2 := eq_true h2
      by_cases k0 : (rd_T37 xs i).f0 = 2
      · have g0 : ((rd_T37 xs i).f0 == 2) = true := by simp [k0]
        have HK0 := Lib.hid k0; clear k0
        by_cases k1 : (rd_T37 xs i).f4.toList = name.toList
        · have g1 : ((rd_T37 xs i).f4.toList == name.toList) = true := by simp [k1]
          have HK1 := Lib.hid k1; clear k1
          go_wp2_with fail
          go_ret
          exact ⟨rfl, HB4.out⟩
        · have g1 : ((rd_T37 xs i).f4.toList == name.toList) = false := by simp [k1]
          have HQ2 : Aside0 (isVar name (rd_T37 xs i) = false) := ⟨by rw [HQ.out, g1, Bool.and_false]⟩
          have HK1 := Lib.hid k1; clear k1
          go_wp2_with fail
          have hw : wrap64 (i + 1) = i + 1 := by unfold wrap64; have := HI.out; have := HF.out.len; omega
          refine ⟨⟨i + 1, by rw [hw], by have := HI.out; omega, by have := HI.out; omega, ⟨fun x hx => ?_⟩, trivial⟩, ?_⟩
          · have hst := take_step id xs z37 i HI.out.1 HI.out.2
            simp only [List.map_id_fun, id_eq] at hst
            rw [← hst] at hx
            rcases List.mem_append.1 hx with hx | hx
            · exact HN.out x hx
            · rw [List.mem_singleton.1 hx]; exact HQ2.out
          · rw [hw]
            have := HI.out
            simp [intOf]
            omega
      · have g0 : ((rd_T37 xs i).f0 == 2) = false := by simp [k0]
        have HQ2 : Aside0 (isVar name (rd_T37 xs i) = false) := ⟨by rw [HQ.out, g0, Bool.false_and]⟩
        have HK0 := Lib.hid k0; clear k0
        go_wp2_with fail
        have hw : wrap64 (i + 1) = i + 1 := by unfold wrap64; have := HI.out; have := HF.out.len; omega
        refine ⟨⟨i + 1, by rw [hw], by have := HI.out; omega, by have := HI.out; omega, ⟨fun x hx => ?_⟩, trivial⟩, ?_⟩
        · have hst := take_step id xs z37 i HI.out.1 HI.out.2
          simp only [List.map_id_fun, id_eq] at hst
          rw [← hst] at hx
          rcases List.mem_append.1 hx with hx | hx
          · exact HN.out x hx
          · rw [List.mem_singleton.1 hx]; exact HQ2.out
        · rw [hw]
          have := HI.out
          simp [intOf]
          omega
    · have b2 : decide (i < (xs.length : Int)) = false := decide_eq_false h2
      have HALL : Aside0 (∀ x ∈ xs, isVar name x = false) := ⟨by have h := HN.out; rwa [List.take_of_length_le (by omega)] at h⟩
      have HI := Lib.hid h2; clear h2
      go_wp2_with fail
      refine (values_calls xs A c regs out wr hl (Kd.C_below HX.out HB4.out) HF.out.len HF.out.args).mono ?_
      rintro e w5 ⟨v5, rfl, hv5, hb5⟩
      rw [← HZ.out] at hv5
      obtain ⟨A5, c5, rfl, l5, r5⟩ := Kd.R_reads hv5
      have HR5 := Aside0.mk r5; have HL5 := Aside0.mk l5; clear r5 l5 hv5
      have HB5 : Aside0 (Below w.heap.size w w5) := ⟨HB4.out.trans (below_base hb5 HB4.out.size)⟩
      clear hb5 c10 c11 c12
      go_wp2_with fail
      refine (copied_calls bs B d w5 (Kd.C_below HBS.out HB5.out) hd hbl).mono ?_
      rintro e w6 ⟨v6, rfl, hv6, hb6⟩
      obtain ⟨A6, c6, hv⟩ := Kd.R_slice hv6
      subst hv
      have HV6 : Aside0 (Kd.R k39 39 w6 w5.heap.size (fun _ => True) (.slice A6 bs.length c6) bs) := ⟨hv6⟩
      have HB6 : Aside0 (Below w.heap.size w w6) := ⟨HB5.out.trans (below_base hb6 HB5.out.size)⟩
      have HR6 := Aside0.mk (Kd.C_below HR5.out hb6)
      have HS6 := Aside0.mk hb6.size
      have HB56 := Aside0.mk hb6
      clear hb6 hv6
      have HLN : Aside0 ((bs.length + 1) * 24 ≤ 140737488355328) := ⟨by omega⟩
      go_wp2_with (first | ((with_reducible refine gate_builtin (b := .append) (xs := #[.tmp 52, .tmp 56]) rfl ?_); at_builtin; refine Kd.R_append k39 (w0 := w6) w5.heap.size rfl (.tmp 52) (.tmp 56) 25 39 (.agg #[(.string ⟨#[]⟩), (.int .i64 0)]) 24 rfl Tryd.underlying25 info39 rfl (by decide) (by omega) (.slice A6 bs.length c6) bs ⟨name, n⟩ [.string name, .int .i64 n] (fun _ => True) (fun _ => False) rfl rfl (k39_mkM _ _ _ ⟨name, n⟩) (fun _ h => h.elim) (fun _ _ => trivial) HV6.out (Below.refl _ _) HS6.out HLN.out ?_; intro v57 w7 ho57 hb57 hg57 hat57; clear hat57; obtain ⟨A7, c7, h7, l7, r7⟩ := Kd.R_reads ho57; subst h7; have HR7 := Aside0.mk r7; have HL7 := Aside0.mk l7; have HG7 := Aside0.mk hg57; have HB57 := Aside0.mk hb57; clear r7 l7 ho57 hb57 hg57))
      have hmore : runP zs regs out (bs ++ [⟨name, n⟩]) = (rv, re) := by
        rw [HZ.out, runP_more bs ⟨name, n⟩ xs regs out HALL.out, ← HZ.out]
        exact HR.out
      have HB7 : Aside0 (Below w.heap.size w w7) := ⟨HB6.out.trans (below_base HB57.out HB5.out.size)⟩
      have hcall := vrun_calls zs A5 c5 regs out (bs ++ [⟨name, n⟩]) A7 c7 w7 HL5.out (Kd.C_below HR5.out (HB56.out.trans HB57.out)) HFI.out HR7.out HL7.out (by rw [List.length_append, List.length_singleton]; omega) (HT.out.below HB7.out)
      rw [hmore, List.length_append, List.length_singleton] at hcall
      refine hcall.mono ?_
      clear hcall hmore
      rintro e w8 ⟨rfl, hb8⟩
      have HB8 : Aside0 (Below w.heap.size w w8) := ⟨HB7.out.trans (below_base hb8 HB7.out.size)⟩
      clear hb8
      go_wp2_with fail
      go_ret
      exact ⟨by simp, HB8.out⟩
end Go.Proofs.YtbbembhfnapadaaDoor
