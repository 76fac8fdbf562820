/- The walk of VmKeeps. -/
import Derived.Test.YtbbembhfnapadaaDoorVnI
import Derived.Test.YtbbembhfnapadaaDoorVmP
import Derived.Test.YtbbembhfnapadaaDoorPVmPlaysx5
namespace Go.Proofs.YtbbembhfnapadaaDoor
open Go.RowKit Go.Proofs.YtbbembhfnapadaaDoorW.PrintWords Go.Proofs.YtbbembhfnapadaaDoorW.PrintLast Go.Proofs.YtbbembhfnapadaaDoorW.PrintMore PVmPlays Pl
set_option linter.unusedVariables false
set_option linter.unusedSimpArgs false

theorem C_prefix {α : Type} {d : Kd α} {w : World} {A : Option Addr} {n : Nat} {xs ys : List α} (h : d.C w A n (xs ++ ys)) (hl : xs.length ≤ n) : d.C w A xs.length xs := by
  obtain ⟨h1, h2, h3⟩ := h
  refine ⟨rfl, Nat.le_trans hl h2, fun h => ?_⟩
  obtain ⟨ad, e, hc⟩ := h3 (by omega)
  refine ⟨ad, e, fun j p hj => hc j p ?_⟩
  have hjl : j < xs.length := by
    rcases Nat.lt_or_ge j xs.length with h | h
    · exact h
    · rw [List.getElem?_eq_none h] at hj; cases hj
  rw [List.getElem?_append_left hjl]
  exact hj
theorem rd39_last (bs : List S39) (b : S39) : rd_T39 (bs ++ [b]) (bs.length : Int) = b := by
  unfold rd_T39
  rw [Int.toNat_natCast, List.getD_eq_getElem?_getD, List.getElem?_append_right (Nat.le_refl _), Nat.sub_self]
  rfl
theorem Ow_of_R {base : Nat} {ok : Nat → Prop} {w : World} {v : Value} {l : List Int} (h : (Kd.int .i64).R 2 w base ok v l) : Ow w 2 v (l.map (Value.int .i64)) := by
  have h1 := Kd.own_of_R (enc := Value.int .i64) (h1 := fun _ => rfl) h
  unfold Ow
  rw [List.length_map]
  exact own_weaken h1 (Nat.zero_le _)
theorem num_fit (zs : List Ins) (h : ∀ y ∈ zs, insFit y) : ∀ x ∈ zs.map numIns, x.f5.length ≤ 140737488351232 := by
  intro x hx
  obtain ⟨y, hy, rfl⟩ := List.mem_map.1 hx
  have hf := h y hy
  cases y with
  | dox r op args => exact hf
  | lit r n => exact Nat.zero_le _
  | var r s => exact Nat.zero_le _
  | other => exact Nat.zero_le _
theorem nums_l0 (l : List Int) (hl : l.length ≤ 4611686018427387904) : ∀ (m i k : Nat), i + m = l.length → m < k → sorrellaw24_nums.l0 k l l i = some true
  | 0, i, k, hi, hk => by
    obtain ⟨k, rfl⟩ : ∃ m, k = m + 1 := ⟨k - 1, by omega⟩
    rw [sorrellaw24_nums.l0, if_neg (by omega)]
  | m + 1, i, k, hi, hk => by
    obtain ⟨k, rfl⟩ : ∃ m, k = m + 1 := ⟨k - 1, by omega⟩
    have ih := nums_l0 l hl m (i + 1) k (by omega) (by omega)
    have hw : wrap64 ((i : Int) + 1) = ((i + 1 : Nat) : Int) := by unfold wrap64; omega
    rw [sorrellaw24_nums.l0, if_pos (by omega), if_pos (by omega), if_pos (by omega), if_pos rfl, hw]
    exact ih
theorem nums_same (l : List Int) (hl : l.length ≤ 4611686018427387904) : sorrellaw24_nums.f (l.length + 1) l l = some true := by
  unfold sorrellaw24_nums.f
  rw [if_pos rfl]
  exact nums_l0 l hl l.length 0 _ (by omega) (by omega)
theorem nums_calls (l : List Int) (A0 A1 : Option Addr) (c0 c1 : Nat) (w : World) (h0 : (Kd.int .i64).C w A0 l.length l) (hc0 : l.length ≤ c0) (h1 : (Kd.int .i64).C w A1 l.length l) (hc1 : l.length ≤ c1) (hl : l.length ≤ 4611686018427387904) :
    Calls Tryd.prog 22 #[.slice A0 l.length c0, .slice A1 l.length c1] w fun e w' => e = .returned (.bool true) ∧ Drawn0 w w' := sorrellaw24_nums.calls _ A0 c0 l A1 c1 l true w h0 hc0 h1 hc1 (nums_same l hl)
theorem trace_len (zs : List Ins) (regs out : Int) (bs : List S39) : (traceP zs regs out bs).1.length ≤ zs.length := by
  unfold traceP
  by_cases hc : chkP zs regs out = 0
  · rw [if_pos hc]
    cases hr : runL bs zs (List.replicate regs.toNat 0) [] with
    | none => exact Nat.zero_le _
    | some p =>
      obtain ⟨wl, rg⟩ := p
      obtain ⟨t, h1, h2⟩ := runL_more_out bs zs _ _ wl rg hr
      show wl.length ≤ zs.length
      rw [h1, List.nil_append, h2]
      exact Nat.le_refl _
  · rw [if_neg hc]; exact Nat.zero_le _

/-- Two lists of memory of their own. -/
theorem apt_two {w : World} {B p base0 base1 : Nat} {ok0 ok1 : Nat → Prop} {v0 v1 : Value} {l0 l1 : List Int} (h0 : (Kd.int .i64).R 2 w base0 ok0 v0 l0) (h1 : (Kd.int .i64).R 2 w base1 ok1 v1 l1) (hb0 : B ≤ base0) (hb1 : B ≤ base1) (hlt : ∀ k, v0.ownBlock = some k → k < base1) (hp : w.heap[p]? = some (.cells #[v0, v1] 43 (0, 0))) (hB : B ≤ w.heap.size) (hl : l0.length + l1.length ≤ 8796093022184) :
    ∃ V L X, Apt w B p 2 #[v0, v1] V L ∧ P1 w w B p 2 #[v0, v1] V L X := by
  have o0 := Ow_of_R h0
  have o1 := Ow_of_R h1
  refine ⟨fun k => if k = 0 then v0 else v1, fun k => if k = 0 then l0.length else l1.length, fun k => if k = 0 then l0.map (Value.int .i64) else l1.map (Value.int .i64), ⟨hp, ?_, ?_, ?_, ?_, ?_, by decide, hB⟩, ⟨?_, ?_, hp, Below.refl _ _, rfl⟩⟩
  · intro k hk
    match k, hk with
    | 0, _ => rfl
    | 1, _ => rfl
  · intro k j hk hj hne b hb hb2
    match k, j, hk, hj, hne with
    | 0, 1, _, _, _ =>
      have e1 := hlt b hb
      have e2 := Kd.R_base h1 b hb2
      omega
    | 1, 0, _, _, _ =>
      have e1 := hlt b hb2
      have e2 := Kd.R_base h1 b hb
      omega
    | 0, 0, _, _, h => exact h rfl
    | 1, 1, _, _, h => exact h rfl
  · intro k hk b hb
    match k, hk with
    | 0, _ => have := Kd.R_base h0 b hb; omega
    | 1, _ => have := Kd.R_base h1 b hb; omega
  · intro k hk b hb
    match k, hk with
    | 0, _ => exact Ow_lt o0 b hb
    | 1, _ => exact Ow_lt o1 b hb
  · show 0 + l0.length + l1.length + 12 * 2 ≤ 8796093022208
    omega
  · intro k hk
    match k, hk with
    | 0, _ => exact o0
    | 1, _ => exact o1
  · intro k hk
    match k, hk with
    | 0, _ => exact List.length_map _
    | 1, _ => exact List.length_map _

set_option maxRecDepth 100000 in
set_option maxHeartbeats 2000000 in
theorem VmKeeps_walk (xs : List S37) (A : Option Addr) (c : Nat) (regs out : Int) (bs : List S39) (B : Option Addr) (d : Nat) (w : World) (hl : xs.length ≤ c) (hX : Kd.C k37 w A xs.length xs) (hf : Fits xs) (hB : k39.C w B bs.length bs) (hd : bs.length ≤ d) (hbl : bs.length * 24 ≤ 140737488351232) (hT : Tabs w) :
    Calls Tryd.prog 6 #[.agg #[.slice A xs.length c, .int .i64 regs, .int .i64 out], .slice B bs.length d] w fun e w' => e = .returned (.bool true) ∧ Below w.heap.size w w' := by
  have HX := Aside0.mk hX; clear hX
  have HBS := Aside0.mk hB; clear hB
  have HT := Aside0.mk hT; clear hT
  have HF := Aside0.mk hf; clear hf
  have HBL := Aside0.mk hbl
  have hu24 := Tryd.underlying24
  have hu32 := Tryd.underlying32
  have hu39 := Tryd.underlying39
  have hu58 := Tryd.underlying58
  obtain ⟨zs, hzs⟩ : ∃ zs, zs = xs.map insOf := ⟨_, rfl⟩
  have HZ := Aside0.mk hzs
  have HFI : Aside0 (∀ y ∈ zs, insFit y) := ⟨by rw [hzs]; exact HF.out.ins⟩
  have HZL : Aside0 (zs.length * 72 ≤ 140737488351232) := ⟨by rw [hzs, List.length_map]; exact HF.out.len⟩
  clear hzs
  have HB0 : Aside0 (Below w.heap.size w (w.alloc (.cells #[.slice A xs.length c, .int .i64 regs, .int .i64 out] 24))) := ⟨below_alloc (Below.refl _ _) _⟩
  go_enter Tryd.func6, Tryd.ntmps6
  go_wp2_with fail
  refine (awake24_calls _ (HT.out.below HB0.out)).mono ?_
  rintro e w1 ⟨rfl, hb1⟩
  have Kw1 : Aside0 (w1.heap[w.heap.size]? = some (.cells #[.slice A xs.length c, .int .i64 regs, .int .i64 out] 24 (0, 0))) := ⟨blk_below (blk_new w _) hb1⟩
  have HBw1 : Aside0 (Below w.heap.size w w1) := ⟨HB0.out.trans (below_base hb1 (by rw [alloc_size]; omega))⟩
  clear hb1
  have c10 : w1.cell? ⟨w.heap.size, 0, none⟩ = some (.slice A xs.length c) := (blk_cell Kw1.out 0).trans rfl
  have c11 : w1.cell? ⟨w.heap.size, 1, none⟩ = some (.int .i64 regs) := (blk_cell Kw1.out 1).trans rfl
  have c12 : w1.cell? ⟨w.heap.size, 2, none⟩ = some (.int .i64 out) := (blk_cell Kw1.out 2).trans rfl
  go_wp2_with fail
  refine (values_calls xs A c regs out w1 hl (Kd.C_below HX.out HBw1.out) HF.out.len HF.out.args).mono ?_
  rintro e w2 ⟨v2, rfl, hv2, hb2⟩
  rw [← HZ.out] at hv2
  obtain ⟨Z2, z2, rfl, l2, r2⟩ := Kd.R_reads hv2
  have HR2 := Aside0.mk r2; have HL2 := Aside0.mk l2; clear r2 l2 hv2 c10 c11 c12
  have HBw2 : Aside0 (Below w.heap.size w w2) := ⟨HBw1.out.trans (below_base hb2 HBw1.out.size)⟩
  have Kw2 : Aside0 (w2.heap[w.heap.size]? = some (.cells #[.slice A xs.length c, .int .i64 regs, .int .i64 out] 24 (0, 0))) := ⟨blk_below Kw1.out hb2⟩
  clear hb2
  go_upto_region 4 with (fail)
  obtain ⟨gI, hgI⟩ : ∃ gI, gI = w2.heap.size := ⟨_, rfl⟩
  refine wp_forget (fun W' => Below w2.heap.size w2 W' ∧ W'.heap[w2.heap.size]? = some (.cells #[.slice Z2 zs.length z2, .int .i64 regs, .int .i64 out] 32 (0, 0))) ⟨below_alloc (Below.refl _ _) _, blk_new _ _⟩ ?_
  rintro w3 ⟨hb3, hk3⟩
  rw [← hgI] at hk3 ⊢
  have KIw3 := Aside0.mk hk3
  have HRIw3 : Aside0 (kI.C w3 Z2 zs.length zs) := ⟨Kd.C_below HR2.out hb3⟩
  have HBw3 : Aside0 (Below w.heap.size w w3) := ⟨HBw2.out.trans (below_base hb3 HBw2.out.size)⟩
  have Kw3 : Aside0 (w3.heap[w.heap.size]? = some (.cells #[.slice A xs.length c, .int .i64 regs, .int .i64 out] 24 (0, 0))) := ⟨blk_below Kw2.out hb3⟩
  clear hb3 hk3 hgI
  go_wp2_with fail
  refine (copied_calls bs B d w3 (Kd.C_below HBS.out HBw3.out) hd hbl).mono ?_
  rintro e w4 ⟨v4, rfl, hv4, hb4⟩
  obtain ⟨A4, c4, hv⟩ := Kd.R_slice hv4
  subst hv
  have HV4 : Aside0 (Kd.R k39 39 w4 w3.heap.size (fun _ => True) (.slice A4 bs.length c4) bs) := ⟨hv4⟩
  have KIw4 : Aside0 (w4.heap[gI]? = some (.cells #[.slice Z2 zs.length z2, .int .i64 regs, .int .i64 out] 32 (0, 0))) := ⟨blk_below KIw3.out hb4⟩
  have HRIw4 : Aside0 (kI.C w4 Z2 zs.length zs) := ⟨Kd.C_below HRIw3.out hb4⟩
  have HS4 := Aside0.mk hb4.size
  have HB34 := Aside0.mk hb4
  have HBw4 : Aside0 (Below w.heap.size w w4) := ⟨HBw3.out.trans (below_base hb4 HBw3.out.size)⟩
  have Kw4 : Aside0 (w4.heap[w.heap.size]? = some (.cells #[.slice A xs.length c, .int .i64 regs, .int .i64 out] 24 (0, 0))) := ⟨blk_below Kw3.out hb4⟩
  have HLT : Aside0 (gI < w3.heap.size ∧ w.heap.size < w3.heap.size) := ⟨blk_lt KIw3.out, blk_lt Kw3.out⟩
  clear hb4 hv4
  have HLN : Aside0 ((bs.length + 1) * 24 ≤ 140737488355328) := ⟨by omega⟩
  go_wp2_with (first | ((with_reducible refine gate_builtin (b := .append) (xs := #[.tmp 19, .tmp 21]) rfl ?_); at_builtin; refine Kd.R_append k39 (w0 := w4) w3.heap.size rfl (.tmp 19) (.tmp 21) 25 39 (.agg #[(.string ⟨#[]⟩), (.int .i64 0)]) 24 rfl Tryd.underlying25 info39 rfl (by decide) (by omega) (.slice A4 bs.length c4) bs ⟨⟨#[35]⟩, 71⟩ [.string ⟨#[35]⟩, .int .i64 71] (fun _ => True) (fun _ => False) rfl rfl (k39_mkM _ _ _ ⟨⟨#[35]⟩, 71⟩) (fun _ h => h.elim) (fun _ _ => trivial) HV4.out (Below.refl _ _) HS4.out HLN.out ?_; intro v22 w5 ho22 hb22 hg22 hat22; clear hat22 hg22; obtain ⟨A5, c5, h5, l5, r5⟩ := Kd.R_reads ho22; rw [List.length_append, List.length_singleton] at h5 l5 r5; subst h5; obtain ⟨aF, eF, x0, x1⟩ := at_T39 r5 (bs.length : Int) (Int.natCast_nonneg _) (by omega); rw [rd39_last, Int.toNat_natCast] at x1; cases eF; have HREw5 : Aside0 (Kd.C k39 w5 (some aF) bs.length bs) := ⟨C_prefix r5 (Nat.le_succ _)⟩; have HXFw5 : Aside0 (w5.cell? ⟨(aF.add (bs.length * 2)).block, (aF.add (bs.length * 2)).off + 1, none⟩ = some (.int .i64 71)) := ⟨x1⟩; have HRIw5 : Aside0 (kI.C w5 Z2 zs.length zs) := ⟨Kd.C_below HRIw3.out (HB34.out.trans hb22)⟩; have Kw5 : Aside0 (w5.heap[w.heap.size]? = some (.cells #[.slice A xs.length c, .int .i64 regs, .int .i64 out] 24 (0, 0))) := ⟨(hb22.block _ HLT.out.2).trans Kw4.out⟩; have KIw5 : Aside0 (w5.heap[gI]? = some (.cells #[.slice Z2 zs.length z2, .int .i64 regs, .int .i64 out] 32 (0, 0))) := ⟨(hb22.block _ HLT.out.1).trans KIw4.out⟩; have HBw5 : Aside0 (Below w.heap.size w w5) := ⟨HBw4.out.trans (below_base hb22 HBw3.out.size)⟩; have HL5 : Aside0 (bs.length ≤ c5) := ⟨Nat.le_trans (Nat.le_succ _) l5⟩; have hq : ((bs.length : Int) ≤ (c5 : Int)) = True := eq_true (Int.ofNat_le.2 (Nat.le_trans (Nat.le_succ _) l5)); clear ho22 hb22 x0 x1 r5 l5; have g10 : w5.cell? ⟨gI, 0, none⟩ = some (.slice Z2 zs.length z2) := (blk_cell KIw5.out 0).trans rfl; have g11 : w5.cell? ⟨gI, 1, none⟩ = some (.int .i64 regs) := (blk_cell KIw5.out 1).trans rfl; have g12 : w5.cell? ⟨gI, 2, none⟩ = some (.int .i64 out) := (blk_cell KIw5.out 2).trans rfl))
  obtain ⟨tl, te, htr⟩ : ∃ tl te, traceP zs regs out bs = (tl, te) := ⟨_, _, rfl⟩
  have hct := vtrace_calls zs Z2 z2 regs out bs (some aF) c5 w5 HL2.out HRIw5.out HFI.out HREw5.out HL5.out (by omega) (HT.out.below HBw5.out)
  have htl := trace_len zs regs out bs
  rw [htr] at hct htl
  dsimp only at hct htl
  have HTL : Aside0 (tl.length ≤ zs.length) := ⟨htl⟩
  have HTR := Aside0.mk htr
  clear htr htl
  refine hct.mono ?_
  clear hct
  rintro e w6 ⟨v6, rfl, hv6, hb6⟩
  obtain ⟨AT, cT, hvT, lT, rT⟩ := Kd.R_reads hv6
  subst hvT
  have HV6 := Aside0.mk hv6; have HTK := Aside0.mk lT; have HTC6 := Aside0.mk rT
  have HP6 := Aside0.mk hb6
  have HBw6 : Aside0 (Below w.heap.size w w6) := ⟨HBw5.out.trans (below_base hb6 HBw5.out.size)⟩
  have Kw6 : Aside0 (w6.heap[w.heap.size]? = some (.cells #[.slice A xs.length c, .int .i64 regs, .int .i64 out] 24 (0, 0))) := ⟨blk_below Kw5.out hb6⟩
  have KIw6 : Aside0 (w6.heap[gI]? = some (.cells #[.slice Z2 zs.length z2, .int .i64 regs, .int .i64 out] 32 (0, 0))) := ⟨blk_below KIw5.out hb6⟩
  have HRIw6 : Aside0 (kI.C w6 Z2 zs.length zs) := ⟨Kd.C_below HRIw5.out hb6⟩
  have HREw6 : Aside0 (Kd.C k39 w6 (some aF) bs.length bs) := ⟨Kd.C_below HREw5.out hb6⟩
  have HXFw6 : Aside0 (w6.cell? ⟨(aF.add (bs.length * 2)).block, (aF.add (bs.length * 2)).off + 1, none⟩ = some (.int .i64 71)) := ⟨pw_cell_below hb6 HXFw5.out⟩
  clear hv6 lT rT hb6 g10 g11 g12
  have g10 : w6.cell? ⟨gI, 0, none⟩ = some (.slice Z2 zs.length z2) := (blk_cell KIw6.out 0).trans rfl
  have g11 : w6.cell? ⟨gI, 1, none⟩ = some (.int .i64 regs) := (blk_cell KIw6.out 1).trans rfl
  have g12 : w6.cell? ⟨gI, 2, none⟩ = some (.int .i64 out) := (blk_cell KIw6.out 2).trans rfl
  go_wp2_with fail
  refine (vrun_calls zs Z2 z2 regs out bs (some aF) c5 w6 HL2.out HRIw6.out HFI.out HREw6.out HL5.out (by omega) (HT.out.below HBw6.out)).mono ?_
  rintro e w7 ⟨rfl, hb7⟩
  have HP7 := Aside0.mk hb7
  have HBw7 : Aside0 (Below w.heap.size w w7) := ⟨HBw6.out.trans (below_base hb7 HBw6.out.size)⟩
  have Kw7 : Aside0 (w7.heap[w.heap.size]? = some (.cells #[.slice A xs.length c, .int .i64 regs, .int .i64 out] 24 (0, 0))) := ⟨blk_below Kw6.out hb7⟩
  have KIw7 : Aside0 (w7.heap[gI]? = some (.cells #[.slice Z2 zs.length z2, .int .i64 regs, .int .i64 out] 32 (0, 0))) := ⟨blk_below KIw6.out hb7⟩
  have HRIw7 : Aside0 (kI.C w7 Z2 zs.length zs) := ⟨Kd.C_below HRIw6.out hb7⟩
  have HREw7 : Aside0 (Kd.C k39 w7 (some aF) bs.length bs) := ⟨Kd.C_below HREw6.out hb7⟩
  have HXFw7 : Aside0 (w7.cell? ⟨(aF.add (bs.length * 2)).block, (aF.add (bs.length * 2)).off + 1, none⟩ = some (.int .i64 71)) := ⟨pw_cell_below hb7 HXFw6.out⟩
  clear hb7 g10 g11 g12
  have g10 : w7.cell? ⟨gI, 0, none⟩ = some (.slice Z2 zs.length z2) := (blk_cell KIw7.out 0).trans rfl
  have g11 : w7.cell? ⟨gI, 1, none⟩ = some (.int .i64 regs) := (blk_cell KIw7.out 1).trans rfl
  have g12 : w7.cell? ⟨gI, 2, none⟩ = some (.int .i64 out) := (blk_cell KIw7.out 2).trans rfl
  go_wp2_with fail
  have hct := vtrace_calls zs Z2 z2 regs out bs (some aF) c5 w7 HL2.out HRIw7.out HFI.out HREw7.out HL5.out (by omega) (HT.out.below HBw7.out)
  rw [HTR.out] at hct
  dsimp only at hct
  refine hct.mono ?_
  clear hct
  rintro e w8 ⟨v8, rfl, hv8, hb8⟩
  obtain ⟨AU, cU, hvU, lU, rU⟩ := Kd.R_reads hv8
  subst hvU
  have HV8 := Aside0.mk hv8; have HUK := Aside0.mk lU; have HUC8 := Aside0.mk rU
  have HP8 := Aside0.mk hb8
  have HBw8 : Aside0 (Below w.heap.size w w8) := ⟨HBw7.out.trans (below_base hb8 HBw7.out.size)⟩
  have Kw8 : Aside0 (w8.heap[w.heap.size]? = some (.cells #[.slice A xs.length c, .int .i64 regs, .int .i64 out] 24 (0, 0))) := ⟨blk_below Kw7.out hb8⟩
  have KIw8 : Aside0 (w8.heap[gI]? = some (.cells #[.slice Z2 zs.length z2, .int .i64 regs, .int .i64 out] 32 (0, 0))) := ⟨blk_below KIw7.out hb8⟩
  have HRIw8 : Aside0 (kI.C w8 Z2 zs.length zs) := ⟨Kd.C_below HRIw7.out hb8⟩
  have HREw8 : Aside0 (Kd.C k39 w8 (some aF) bs.length bs) := ⟨Kd.C_below HREw7.out hb8⟩
  have HXFw8 : Aside0 (w8.cell? ⟨(aF.add (bs.length * 2)).block, (aF.add (bs.length * 2)).off + 1, none⟩ = some (.int .i64 71)) := ⟨pw_cell_below hb8 HXFw7.out⟩
  have HTC8 : Aside0 ((Kd.int .i64).C w8 AT tl.length tl) := ⟨Kd.C_below HTC6.out (HP7.out.trans (below_base hb8 HP7.out.size))⟩
  clear hv8 lU rU hb8 g10 g11 g12
  have g10 : w8.cell? ⟨gI, 0, none⟩ = some (.slice Z2 zs.length z2) := (blk_cell KIw8.out 0).trans rfl
  have g11 : w8.cell? ⟨gI, 1, none⟩ = some (.int .i64 regs) := (blk_cell KIw8.out 1).trans rfl
  have g12 : w8.cell? ⟨gI, 2, none⟩ = some (.int .i64 out) := (blk_cell KIw8.out 2).trans rfl
  have c10 : w8.cell? ⟨w.heap.size, 0, none⟩ = some (.slice A xs.length c) := (blk_cell Kw8.out 0).trans rfl
  have c11 : w8.cell? ⟨w.heap.size, 1, none⟩ = some (.int .i64 regs) := (blk_cell Kw8.out 1).trans rfl
  have c12 : w8.cell? ⟨w.heap.size, 2, none⟩ = some (.int .i64 out) := (blk_cell Kw8.out 2).trans rfl
  have xF : w8.cell? ⟨(aF.add (bs.length * 2)).block, (aF.add (bs.length * 2)).off + 1, none⟩ = some (.int .i64 71) := HXFw8.out
  have hte : (te != te) = false := by simp
  have hlt1 : ((bs.length : Int) < (bs.length : Int) + 1) = True := eq_true (by omega)
  have HN62 : Aside0 (tl.length ≤ 4611686018427387904) := ⟨by have := HZL.out; have := HTL.out; omega⟩
  go_upto_region 9 with (fail)
  refine start_ (n := 27) (S := fun w' => w'.cell? ⟨gI, 0, none⟩ = some (.slice Z2 zs.length z2) ∧ w'.cell? ⟨gI, 1, none⟩ = some (.int .i64 regs) ∧ w'.cell? ⟨gI, 2, none⟩ = some (.int .i64 out) ∧ w'.cell? ⟨w.heap.size, 0, none⟩ = some (.slice A xs.length c) ∧ w'.cell? ⟨w.heap.size, 1, none⟩ = some (.int .i64 regs) ∧ w'.cell? ⟨w.heap.size, 2, none⟩ = some (.int .i64 out) ∧ w'.cell? ⟨(aF.add (bs.length * 2)).block, (aF.add (bs.length * 2)).off + 1, none⟩ = some (.int .i64 71)) (ds := []) #[false, false, false, false, false, false, false, false, false, false, false, false, false, false, false, false, false, false, false, false, false, false, false, false, false, false, false] (by kernel_rfl) rfl rfl ⟨g10, g11, g12, c10, c11, c12, xF⟩ (fun hHeld => ?_)
  refine pure_ (i := 0) (N := some 42) (v := ?_) (a' := ?_) #[true, false, false, false, false, false, false, false, false, false, false, false, false, false, false, false, false, false, false, false, false, false, false, false, false, false, false] rfl rfl (by kernel_rfl) (fun _ _ _ h => h) (Or.inl ⟨by rfl, ?_⟩) ?_ ?_
  rotate_left
  · intro w'
    go_simp
    with_reducible rfl
  rotate_left
  · simp only [Act.put, List.setIfInBounds_toArray, List.set_cons_zero, List.set_cons_succ, i64_w, i32_w]
    rfl
  refine pure_ (i := 1) (N := some 43) (v := ?_) (a' := ?_) #[true, true, false, false, false, false, false, false, false, false, false, false, false, false, false, false, false, false, false, false, false, false, false, false, false, false, false] rfl rfl (by kernel_rfl) (fun _ _ _ h => h) (Or.inl ⟨by rfl, ?_⟩) ?_ ?_
  rotate_left
  · intro w'
    go_simp
    with_reducible rfl
  rotate_left
  · simp only [Act.put, List.setIfInBounds_toArray, List.set_cons_zero, List.set_cons_succ, i64_w, i32_w]
    rfl
  refine pure_ (i := 2) (N := some 44) (v := ?_) (a' := ?_) #[true, true, true, false, false, false, false, false, false, false, false, false, false, false, false, false, false, false, false, false, false, false, false, false, false, false, false] rfl rfl (by kernel_rfl) (fun _ _ _ h => h) (Or.inl ⟨by rfl, ?_⟩) ?_ ?_
  rotate_left
  · intro w'
    go_simp
    with_reducible rfl
  rotate_left
  · simp only [Act.put, List.setIfInBounds_toArray, List.set_cons_zero, List.set_cons_succ, i64_w, i32_w]
    rfl
  refine pure_ (i := 3) (N := some 45) (v := ?_) (a' := ?_) #[true, true, true, true, false, false, false, false, false, false, false, false, false, false, false, false, false, false, false, false, false, false, false, false, false, false, false] rfl rfl (by kernel_rfl) (fun _ _ _ h => h) (Or.inl ⟨by rfl, ?_⟩) ?_ ?_
  rotate_left
  · intro w'
    go_simp
    with_reducible rfl
  rotate_left
  · simp only [Act.put, List.setIfInBounds_toArray, List.set_cons_zero, List.set_cons_succ, i64_w, i32_w]
    rfl
  refine pure_ (i := 4) (N := some 46) (v := ?_) (a' := ?_) #[true, true, true, true, true, false, false, false, false, false, false, false, false, false, false, false, false, false, false, false, false, false, false, false, false, false, false] rfl rfl (by kernel_rfl) (fun _ _ _ h => h) (Or.inl ⟨by rfl, ?_⟩) ?_ ?_
  rotate_left
  · intro w'
    go_simp
    with_reducible rfl
  rotate_left
  · simp only [Act.put, List.setIfInBounds_toArray, List.set_cons_zero, List.set_cons_succ, i64_w, i32_w]
    rfl
  refine pure_ (i := 5) (N := some 47) (v := ?_) (a' := ?_) #[true, true, true, true, true, true, false, false, false, false, false, false, false, false, false, false, false, false, false, false, false, false, false, false, false, false, false] rfl rfl (by kernel_rfl) (fun _ _ _ h => h) (Or.inl ⟨by rfl, ?_⟩) ?_ ?_
  rotate_left
  · intro w'
    go_simp
    with_reducible rfl
  rotate_left
  · simp only [Act.put, List.setIfInBounds_toArray, List.set_cons_zero, List.set_cons_succ, i64_w, i32_w]
    rfl
  refine one_ (i := 6) (N := some 48) #[true, true, true, true, true, true, true, false, false, false, false, false, false, false, false, false, false, false, false, false, false, false, false, false, false, false, false] rfl rfl (by kernel_rfl) (by decide) (fun K hK => ?_)
  refine goes_ Tryd.func22 (by kernel_rfl) rfl #[.slice AT tl.length cT, .slice AU tl.length cU] (by rfl) rfl rfl (by (try simp only [List.map_toArray, List.map_cons, List.map_nil]); first | done | rfl) ?_
  with_reducible refine (nums_calls tl AT AU cT cU _ (Kd.C_below HTC8.out (below_drew (Below.refl _ _))) HTK.out (Kd.C_below HUC8.out (below_drew (Below.refl _ _))) HUK.out HN62.out).mono ?_
  rintro e w9 ⟨rfl, hd9⟩
  refine ⟨_, rfl, ?_⟩
  have hb9 : Below w8.heap.size w8 w9 := (below_drew (Below.refl _ _)).trans hd9.below
  have HP9 := Aside0.mk hb9
  refine hK.out _ _ ⟨(pw_cell_below hd9.below hHeld.1), (pw_cell_below hd9.below hHeld.2.1), (pw_cell_below hd9.below hHeld.2.2.1), (pw_cell_below hd9.below hHeld.2.2.2.1), (pw_cell_below hd9.below hHeld.2.2.2.2.1), (pw_cell_below hd9.below hHeld.2.2.2.2.2.1), (pw_cell_below hd9.below hHeld.2.2.2.2.2.2)⟩ (fun hHeld => ?_)
  clear hK K
  refine norm_ (a' := ?_) ?_ ?_
  rotate_left
  · show Act.put _ (some 48) _ = _
    simp only [Act.put, List.setIfInBounds_toArray, List.set_cons_zero, List.set_cons_succ, i64_w, i32_w]
    rfl
  refine pure_ (i := 7) (N := some 49) (v := ?_) (a' := ?_) #[true, true, true, true, true, true, true, true, false, false, false, false, false, false, false, false, false, false, false, false, false, false, false, false, false, false, false] rfl rfl (by kernel_rfl) (fun _ _ _ h => h) (Or.inl ⟨by rfl, ?_⟩) ?_ ?_
  rotate_left
  · intro w'
    go_simp
    with_reducible rfl
  rotate_left
  · simp only [Act.put, List.setIfInBounds_toArray, List.set_cons_zero, List.set_cons_succ, i64_w, i32_w]
    rfl
  refine pure_ (i := 8) (N := some 50) (v := ?_) (a' := ?_) #[true, true, true, true, true, true, true, true, true, false, false, false, false, false, false, false, false, false, false, false, false, false, false, false, false, false, false] rfl rfl (by kernel_rfl) (fun _ _ _ h => h) (Or.inl ⟨by rfl, ?_⟩) ?_ ?_
  rotate_left
  · intro w'
    go_simp
    with_reducible rfl
  rotate_left
  · simp only [Act.put, List.setIfInBounds_toArray, List.set_cons_zero, List.set_cons_succ, i64_w, i32_w]
    rfl
  refine pure_ (i := 9) (N := some 51) (v := ?_) (a' := ?_) #[true, true, true, true, true, true, true, true, true, true, false, false, false, false, false, false, false, false, false, false, false, false, false, false, false, false, false] rfl rfl (by kernel_rfl) (fun _ _ _ h => h) (Or.inl ⟨by rfl, ?_⟩) ?_ ?_
  rotate_left
  · intro w'
    go_simp
    with_reducible rfl
  rotate_left
  · simp only [Act.put, List.setIfInBounds_toArray, List.set_cons_zero, List.set_cons_succ, i64_w, i32_w]
    rfl
  refine take_ (i := 10) (N := some 52) (v := ?_) (a' := ?_) #[true, true, true, true, true, true, true, true, true, true, true, false, false, false, false, false, false, false, false, false, false, false, false, false, false, false, false] rfl rfl (by kernel_rfl) (fun _ _ _ h => h) (Or.inl ⟨by rfl, ?_⟩) hHeld ?_ ?_
  rotate_left
  · rintro w' ⟨s0, s1, s2, s3, s4, s5, s6⟩
    go_simp
    with_reducible rfl
  rotate_left
  · simp only [Act.put, List.setIfInBounds_toArray, List.set_cons_zero, List.set_cons_succ, i64_w, i32_w]
    rfl
  refine take_ (i := 12) (N := some 54) (v := ?_) (a' := ?_) #[true, true, true, true, true, true, true, true, true, true, true, false, true, false, false, false, false, false, false, false, false, false, false, false, false, false, false] rfl rfl (by kernel_rfl) (fun _ _ _ h => h) (Or.inl ⟨by rfl, ?_⟩) hHeld ?_ ?_
  rotate_left
  · rintro w' ⟨s0, s1, s2, s3, s4, s5, s6⟩
    go_simp
    with_reducible rfl
  rotate_left
  · simp only [Act.put, List.setIfInBounds_toArray, List.set_cons_zero, List.set_cons_succ, i64_w, i32_w]
    rfl
  refine one_ (i := 11) (N := some 53) #[true, true, true, true, true, true, true, true, true, true, true, true, true, false, false, false, false, false, false, false, false, false, false, false, false, false, false] rfl rfl (by kernel_rfl) (by decide) (fun K hK => ?_)
  refine goes_ Tryd.func18 (by kernel_rfl) rfl #[.agg #[.slice Z2 zs.length z2, .int .i64 regs, .int .i64 out]] (by rfl) rfl rfl (by (try simp only [List.map_toArray, List.map_cons, List.map_nil]); first | done | rfl) ?_
  with_reducible refine (numbers_calls zs Z2 z2 regs out w9 HL2.out (Kd.C_below HRIw8.out HP9.out) HZL.out).mono ?_
  rintro e w10 ⟨v10, rfl, hv10, hb10⟩
  obtain ⟨P3, q3, hv, l3, r3⟩ := Kd.R_reads hv10
  rw [List.length_map] at hv l3 r3
  subst hv
  refine ⟨_, rfl, ?_⟩
  have HPC := Aside0.mk (kF_C r3 hb10)
  have HP10 : Aside0 (Below w8.heap.size w8 w10) := ⟨HP9.out.trans (below_base hb10 HP9.out.size)⟩
  have HB10 : Aside0 (Below w.heap.size w w10) := ⟨HBw8.out.trans (below_base HP10.out HBw8.out.size)⟩
  clear hv10 r3 l3
  refine hK.out _ _ ⟨(pw_cell_below hb10 hHeld.1), (pw_cell_below hb10 hHeld.2.1), (pw_cell_below hb10 hHeld.2.2.1), (pw_cell_below hb10 hHeld.2.2.2.1), (pw_cell_below hb10 hHeld.2.2.2.2.1), (pw_cell_below hb10 hHeld.2.2.2.2.2.1), (pw_cell_below hb10 hHeld.2.2.2.2.2.2)⟩ (fun hHeld => ?_)
  clear hK K
  refine norm_ (a' := ?_) ?_ ?_
  rotate_left
  · show Act.put _ (some 53) _ = _
    simp only [Act.put, List.setIfInBounds_toArray, List.set_cons_zero, List.set_cons_succ, i64_w, i32_w]
    rfl
  refine one_ (i := 13) (N := some 55) #[true, true, true, true, true, true, true, true, true, true, true, true, true, true, false, false, false, false, false, false, false, false, false, false, false, false, false] rfl rfl (by kernel_rfl) (by decide) (fun K hK => ?_)
  refine goes_ Tryd.func16 (by kernel_rfl) rfl #[.agg #[.slice A xs.length c, .int .i64 regs, .int .i64 out]] (by rfl) rfl rfl (by (try simp only [List.map_toArray, List.map_cons, List.map_nil]); first | done | rfl) ?_
  with_reducible refine (values_calls xs A c regs out w10 hl (Kd.C_below HX.out HB10.out) HF.out.len HF.out.args).mono ?_
  rintro e w11 ⟨v11, rfl, hv11, hb11⟩
  rw [← HZ.out] at hv11
  obtain ⟨Z3, z3, rfl, l11, r11⟩ := Kd.R_reads hv11
  refine ⟨_, rfl, ?_⟩
  have HRI11 := Aside0.mk r11; have HL11 := Aside0.mk l11
  have HP11 := Aside0.mk hb11
  clear hv11 r11 l11
  refine hK.out _ _ ⟨(pw_cell_below hb11 hHeld.1), (pw_cell_below hb11 hHeld.2.1), (pw_cell_below hb11 hHeld.2.2.1), (pw_cell_below hb11 hHeld.2.2.2.1), (pw_cell_below hb11 hHeld.2.2.2.2.1), (pw_cell_below hb11 hHeld.2.2.2.2.2.1), (pw_cell_below hb11 hHeld.2.2.2.2.2.2)⟩ (fun hHeld => ?_)
  clear hK K
  refine norm_ (a' := ?_) ?_ ?_
  rotate_left
  · show Act.put _ (some 55) _ = _
    simp only [Act.put, List.setIfInBounds_toArray, List.set_cons_zero, List.set_cons_succ, i64_w, i32_w]
    rfl
  refine one_ (i := 14) (N := some 56) #[true, true, true, true, true, true, true, true, true, true, true, true, true, true, true, false, false, false, false, false, false, false, false, false, false, false, false] rfl rfl (by kernel_rfl) (by decide) (fun K hK => ?_)
  refine goes_ Tryd.func18 (by kernel_rfl) rfl #[.agg #[.slice Z3 zs.length z3, .int .i64 regs, .int .i64 out]] (by rfl) rfl rfl (by (try simp only [List.map_toArray, List.map_cons, List.map_nil]); first | done | rfl) ?_
  with_reducible refine (numbers_calls zs Z3 z3 regs out w11 HL11.out HRI11.out HZL.out).mono ?_
  rintro e w12 ⟨v12, rfl, hv12, hb12⟩
  obtain ⟨P4, q4, hv, l4, r4⟩ := Kd.R_reads hv12
  rw [List.length_map] at hv l4 r4
  subst hv
  refine ⟨_, rfl, ?_⟩
  have HPD := Aside0.mk (kF_C r4 hb12)
  have HP12 : Aside0 (Below w10.heap.size w10 w12) := ⟨HP11.out.trans (below_base hb12 HP11.out.size)⟩
  clear hv12 r4 l4
  refine hK.out _ _ ⟨(pw_cell_below hb12 hHeld.1), (pw_cell_below hb12 hHeld.2.1), (pw_cell_below hb12 hHeld.2.2.1), (pw_cell_below hb12 hHeld.2.2.2.1), (pw_cell_below hb12 hHeld.2.2.2.2.1), (pw_cell_below hb12 hHeld.2.2.2.2.2.1), (pw_cell_below hb12 hHeld.2.2.2.2.2.2)⟩ (fun hHeld => ?_)
  clear hK K
  refine norm_ (a' := ?_) ?_ ?_
  rotate_left
  · show Act.put _ (some 56) _ = _
    simp only [Act.put, List.setIfInBounds_toArray, List.set_cons_zero, List.set_cons_succ, i64_w, i32_w]
    rfl
  refine one_ (i := 15) (N := some 57) #[true, true, true, true, true, true, true, true, true, true, true, true, true, true, true, true, false, false, false, false, false, false, false, false, false, false, false] rfl rfl (by kernel_rfl) (by decide) (fun K hK => ?_)
  refine goes_ Tryd.func23 (by kernel_rfl) rfl #[.agg #[.slice P3 zs.length q3, .int .i64 regs, .int .i64 out], .agg #[.slice P4 zs.length q4, .int .i64 regs, .int .i64 out]] (by rfl) rfl rfl (by (try simp only [List.map_toArray, List.map_cons, List.map_nil]); first | done | rfl) ?_
  have hsm := refsame_calls (zs.map numIns) P3 P4 q3 q4 regs out w12 (by rw [List.length_map]; exact Kd.C_below HPC.out HP12.out) (by rw [List.length_map]; exact HPD.out) (by rw [List.length_map]; have := HZL.out; omega) (num_fit zs HFI.out)
  rw [List.length_map] at hsm
  with_reducible refine (hsm).mono ?_
  rintro e w13 ⟨rfl, hb13⟩
  refine ⟨_, rfl, ?_⟩
  have HP13 : Aside0 (Below w8.heap.size w8 w13) := ⟨HP10.out.trans (below_base (HP12.out.trans (below_base hb13 HP12.out.size)) HP10.out.size)⟩
  refine hK.out _ _ ⟨(pw_cell_below hb13 hHeld.1), (pw_cell_below hb13 hHeld.2.1), (pw_cell_below hb13 hHeld.2.2.1), (pw_cell_below hb13 hHeld.2.2.2.1), (pw_cell_below hb13 hHeld.2.2.2.2.1), (pw_cell_below hb13 hHeld.2.2.2.2.2.1), (pw_cell_below hb13 hHeld.2.2.2.2.2.2)⟩ (fun hHeld => ?_)
  clear hK K
  refine norm_ (a' := ?_) ?_ ?_
  rotate_left
  · show Act.put _ (some 57) _ = _
    simp only [Act.put, List.setIfInBounds_toArray, List.set_cons_zero, List.set_cons_succ, i64_w, i32_w]
    rfl
  refine pure_ (i := 16) (N := some 58) (v := ?_) (a' := ?_) #[true, true, true, true, true, true, true, true, true, true, true, true, true, true, true, true, true, false, false, false, false, false, false, false, false, false, false] rfl rfl (by kernel_rfl) (fun _ _ _ h => h) (Or.inl ⟨by rfl, ?_⟩) ?_ ?_
  rotate_left
  · intro w'
    go_simp
    with_reducible rfl
  rotate_left
  · simp only [Act.put, List.setIfInBounds_toArray, List.set_cons_zero, List.set_cons_succ, i64_w, i32_w]
    rfl
  refine pure_ (i := 17) (N := some 59) (v := ?_) (a' := ?_) #[true, true, true, true, true, true, true, true, true, true, true, true, true, true, true, true, true, true, false, false, false, false, false, false, false, false, false] rfl rfl (by kernel_rfl) (fun _ _ _ h => h) (Or.inl ⟨by rfl, ?_⟩) ?_ ?_
  rotate_left
  · intro w'
    go_simp
    with_reducible rfl
  rotate_left
  · simp only [Act.put, List.setIfInBounds_toArray, List.set_cons_zero, List.set_cons_succ, i64_w, i32_w]
    rfl
  refine pure_ (i := 18) (N := some 60) (v := ?_) (a' := ?_) #[true, true, true, true, true, true, true, true, true, true, true, true, true, true, true, true, true, true, true, false, false, false, false, false, false, false, false] rfl rfl (by kernel_rfl) (fun _ _ _ h => h) (Or.inl ⟨by rfl, ?_⟩) ?_ ?_
  rotate_left
  · intro w'
    go_simp
    with_reducible rfl
  rotate_left
  · simp only [Act.put, List.setIfInBounds_toArray, List.set_cons_zero, List.set_cons_succ, i64_w, i32_w]
    rfl
  refine pure_ (i := 19) (N := some 61) (v := ?_) (a' := ?_) #[true, true, true, true, true, true, true, true, true, true, true, true, true, true, true, true, true, true, true, true, false, false, false, false, false, false, false] rfl rfl (by kernel_rfl) (fun _ _ _ h => h) (Or.inl ⟨by rfl, ?_⟩) ?_ ?_
  rotate_left
  · intro w'
    go_simp
    with_reducible rfl
  rotate_left
  · simp only [Act.put, List.setIfInBounds_toArray, List.set_cons_zero, List.set_cons_succ, i64_w, i32_w]
    rfl
  refine pure_ (i := 20) (N := some 62) (v := ?_) (a' := ?_) #[true, true, true, true, true, true, true, true, true, true, true, true, true, true, true, true, true, true, true, true, true, false, false, false, false, false, false] rfl rfl (by kernel_rfl) (fun _ _ _ h => h) (Or.inl ⟨by rfl, ?_⟩) ?_ ?_
  rotate_left
  · intro w'
    go_simp
    with_reducible rfl
  rotate_left
  · simp only [Act.put, List.setIfInBounds_toArray, List.set_cons_zero, List.set_cons_succ, i64_w, i32_w]
    rfl
  refine pure_ (i := 21) (N := some 63) (v := ?_) (a' := ?_) #[true, true, true, true, true, true, true, true, true, true, true, true, true, true, true, true, true, true, true, true, true, true, false, false, false, false, false] rfl rfl (by kernel_rfl) (fun _ _ _ h => h) (Or.inl ⟨by rfl, ?_⟩) ?_ ?_
  rotate_left
  · intro w'
    go_simp
    with_reducible rfl
  rotate_left
  · simp only [Act.put, List.setIfInBounds_toArray, List.set_cons_zero, List.set_cons_succ, i64_w, i32_w]
    rfl
  refine pure_ (i := 22) (N := some 64) (v := ?_) (a' := ?_) #[true, true, true, true, true, true, true, true, true, true, true, true, true, true, true, true, true, true, true, true, true, true, true, false, false, false, false] rfl rfl (by kernel_rfl) (fun _ _ _ h => h) (Or.inl ⟨by rfl, ?_⟩) ?_ ?_
  rotate_left
  · intro w'
    go_simp
    with_reducible rfl
  rotate_left
  · simp only [Act.put, List.setIfInBounds_toArray, List.set_cons_zero, List.set_cons_succ, i64_w, i32_w]
    rfl
  refine pure_ (i := 23) (N := some 65) (v := ?_) (a' := ?_) #[true, true, true, true, true, true, true, true, true, true, true, true, true, true, true, true, true, true, true, true, true, true, true, true, false, false, false] rfl rfl (by kernel_rfl) (fun _ _ _ h => h) (Or.inl ⟨by rfl, ?_⟩) ?_ ?_
  rotate_left
  · intro w'
    go_simp
    with_reducible rfl
  rotate_left
  · simp only [Act.put, List.setIfInBounds_toArray, List.set_cons_zero, List.set_cons_succ, i64_w, i32_w]
    rfl
  refine take_ (i := 24) (N := some 66) (v := ?_) (a' := ?_) #[true, true, true, true, true, true, true, true, true, true, true, true, true, true, true, true, true, true, true, true, true, true, true, true, true, false, false] rfl rfl (by kernel_rfl) (fun _ _ _ h => h) (Or.inl ⟨by rfl, ?_⟩) hHeld ?_ ?_
  rotate_left
  · rintro w' ⟨s0, s1, s2, s3, s4, s5, s6⟩
    go_simp
    with_reducible rfl
  rotate_left
  · simp only [Act.put, List.setIfInBounds_toArray, List.set_cons_zero, List.set_cons_succ, i64_w, i32_w]
    rfl
  refine pure_ (i := 25) (N := some 67) (v := ?_) (a' := ?_) #[true, true, true, true, true, true, true, true, true, true, true, true, true, true, true, true, true, true, true, true, true, true, true, true, true, true, false] rfl rfl (by kernel_rfl) (fun _ _ _ h => h) (Or.inl ⟨by rfl, ?_⟩) ?_ ?_
  rotate_left
  · intro w'
    go_simp
    with_reducible rfl
  rotate_left
  · simp only [Act.put, List.setIfInBounds_toArray, List.set_cons_zero, List.set_cons_succ, i64_w, i32_w]
    rfl
  refine pure_ (i := 26) (N := some 68) (v := ?_) (a' := ?_) #[true, true, true, true, true, true, true, true, true, true, true, true, true, true, true, true, true, true, true, true, true, true, true, true, true, true, true] rfl rfl (by kernel_rfl) (fun _ _ _ h => h) (Or.inl ⟨by rfl, ?_⟩) ?_ ?_
  rotate_left
  · intro w'
    go_simp
    with_reducible rfl
  rotate_left
  · simp only [Act.put, List.setIfInBounds_toArray, List.set_cons_zero, List.set_cons_succ, i64_w, i32_w]
    rfl
  refine done_ (by kernel_rfl) ?_
  have HW13 : Aside0 (Below w.heap.size w w13) := ⟨HBw8.out.trans (below_base HP13.out HBw8.out.size)⟩
  have HEN : Aside0 (Kd.C k39 w13 (some aF) bs.length bs) := ⟨Kd.C_below HREw8.out HP13.out⟩
  have HBN : Aside0 (Kd.C k39 w13 B bs.length bs) := ⟨Kd.C_below HBS.out HW13.out⟩
  clear hb9 hb10 hb11 hb12 hb13 g10 g11 g12 c10 c11 c12 xF hlt1 hte HPC HPD HRI11 HL11 hq hbl
  go_wp2_with fail
  go_loopw [12] (fun v12 w' => ∃ j : Nat, v12 = .int .i64 j ∧ j ≤ bs.length ∧ Aside0 (Below w13.heap.size w13 w')) (fun v12 _ => bs.length - (intOf v12).toNat)
  case atStart => exact ⟨0, rfl, Nat.zero_le _, ⟨Below.refl _ _⟩⟩
  case round =>
    obtain ⟨j, rfl, hj, HB⟩ := hrel
    by_cases j2 : j < bs.length
    · have b1 : decide ((j : Int) < (bs.length : Int)) = true := decide_eq_true (by omega)
      obtain ⟨aE, eE, x0, x1⟩ := at_T39 (Kd.C_below HEN.out HB.out) (j : Int) (by omega) (by omega)
      obtain ⟨aB, eB, y0, y1⟩ := at_T39 (Kd.C_below HBN.out HB.out) (j : Int) (by omega) (by omega)
      cases eE; cases eB
      rw [Int.toNat_natCast] at x0 x1 y0 y1
      have q0 : (0 ≤ (j : Int)) = True := eq_true (by omega)
      have q1 : ((j : Int) < (bs.length : Int)) = True := eq_true (by omega)
      have hw : wrap64 ((j : Int) + 1) = ((j + 1 : Nat) : Int) := by unfold wrap64; have := HBL.out; omega
      have HWJ := Aside0.mk hw; have HJ := Aside0.mk j2
      generalize rd_T39 bs (j : Int) = bb at *
      obtain ⟨b0, bn⟩ := bb
      dsimp only at x0 x1 y0 y1
      have hne : (b0.toList == b0.toList) = true := by simp
      clear hw j2 hj
      go_upto_region 14 with (fail)
      go_quiet (fail)
      go_wp2_with fail
      refine ⟨⟨j + 1, by rw [HWJ.out], HJ.out, ⟨pw_below_drewN HB.out _⟩⟩, ?_⟩
      rw [HWJ.out]
      have := HJ.out
      simp [intOf]
      omega
    · have b1 : decide ((j : Int) < (bs.length : Int)) = false := decide_eq_false (by omega)
      have hjl : j = bs.length := by omega
      subst hjl
      clear j2 hj
      obtain ⟨wo, hwo⟩ : ∃ wo : World, wo = wr := ⟨_, rfl⟩
      subst hwo
      go_upto_region 17 with (fail)
      refine wp_forget (fun W' => Below wo.heap.size wo W' ∧ W'.heap[wo.heap.size]? = some (.cells #[.slice AT tl.length cT, .slice AU tl.length cU] 43 (0, 0)) ∧ W'.heap[wo.heap.size + 1]? = some (.cells #[.slice none 0 0, .slice none 0 0, .slice none 0 0, .slice none 0 0, .slice none 0 0, .slice (some ⟨wo.heap.size, 0, none⟩) 2 2] 58 (0, 0))) ⟨below_alloc (below_alloc (Below.refl _ _) _) _, blk_alloc (blk_new _ _) _, blk_new1 _ _ _⟩ ?_
      rintro wF ⟨hbF, hkp, hkb⟩
      have HBo : Aside0 (Below w8.heap.size w8 wF) := ⟨HP13.out.trans (below_base (HB.out.trans (below_base hbF HB.out.size)) HP13.out.size)⟩
      have HB6F : Aside0 (Below w6.heap.size w6 wF) := ⟨HP7.out.trans (below_base (HP8.out.trans (below_base HBo.out HP8.out.size)) HP7.out.size)⟩
      have HBF : Aside0 (Below w.heap.size w wF) := ⟨HBw8.out.trans (below_base HBo.out HBw8.out.size)⟩
      obtain ⟨V, L, X, hA, hP⟩ := apt_two (Kd.R_below HV6.out HB6F.out) (Kd.R_below HV8.out HBo.out) HBw5.out.size HBw7.out.size (fun k hk => Nat.lt_of_lt_of_le (Kd.R_lt HV6.out k hk) HP7.out.size) hkp HBF.out.size (by have := HZL.out; have := HTL.out; omega)
      have HC := Aside0.mk (apart_calls w.heap.size wo.heap.size 2 2 (wo.heap.size + 1) _ V L X wF hA hP hkb)
      clear hA hP hkp hkb hbF
      go_wp2_with fail
      refine (HC.out).mono ?_
      rintro e wZ ⟨rfl, hbZ⟩
      have HZF : Aside0 (Below w.heap.size w wZ) := ⟨HBF.out.trans hbZ⟩
      clear hbZ
      go_wp2_with fail
      go_ret
      exact ⟨rfl, HZF.out⟩
end Go.Proofs.YtbbembhfnapadaaDoor
