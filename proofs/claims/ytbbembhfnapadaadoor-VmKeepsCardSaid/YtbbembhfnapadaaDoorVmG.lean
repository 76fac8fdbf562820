/- The walk of vm.run. -/
import Derived.Test.YtbbembhfnapadaaDoorVmF
namespace Go.Proofs.YtbbembhfnapadaaDoor
open Go.RowKit Go.Proofs.YtbbembhfnapadaaDoorW.PrintWords Go.Proofs.YtbbembhfnapadaaDoorW.PrintLast Go.Proofs.YtbbembhfnapadaaDoorW.PrintMore PVmPlays Pl
set_option linter.unusedVariables false
set_option linter.unusedSimpArgs false

/-- A walk from any world of which something is known. -/
theorem wp_forget {P : Program} {c : Go.Code} {Q : Exit → Act → World → Prop} {a : Act} {W : World} (S : World → Prop) (hS : S W) (h : ∀ W', S W' → c.wp P Q a W') : c.wp P Q a W := h W hS
/-- What an instruction writes, and the error. -/
def insVal (bs : List S39) (regs : List Int) : Ins → Int × Int
  | .lit _ n => (n, 0)
  | .var _ s => (getP bs s, 0)
  | .dox _ op args => apR op (args.map (rd regs))
  | .other => (0, 0)
/-- What the instructions wrote, and the registers; none: it traps. -/
def runL (bs : List S39) : List Ins → List Int → List Int → Option (List Int × List Int)
  | [], regs, wr => some (wr, regs)
  | x :: xs, regs, wr => if (insVal bs regs x).2 = 0 then runL bs xs (regs.set (insTo x).toNat (insVal bs regs x).1) (wr ++ [(insVal bs regs x).1]) else none
theorem run_step (bs : List S39) (xs : List Ins) (regs wr : List Int) (i : Int) (h0 : 0 ≤ i) (h1 : i < xs.length) : runL bs (xs.drop i.toNat) regs wr = if (insVal bs regs (rdIns xs i)).2 = 0 then runL bs (xs.drop (i + 1).toNat) (regs.set (insTo (rdIns xs i)).toNat (insVal bs regs (rdIns xs i)).1) (wr ++ [(insVal bs regs (rdIns xs i)).1]) else none := by
  have e : (i + 1).toNat = i.toNat + 1 := by omega
  have hl : i.toNat < xs.length := by omega
  have hr : rdIns xs i = xs[i.toNat] := by unfold rdIns; rw [List.getD_eq_getElem?_getD, List.getElem?_eq_getElem hl]; rfl
  rw [e, List.drop_eq_getElem_cons hl, hr]
  rfl
theorem info2 : (Tryd.prog.info? 2).map (fun i => (i.zero, i.size, i.bytes)) = some (some (.int .i64 0), 1, 8) := by kernel_rfl
theorem chk_some {m : Int} {xs : List Ins} {ys yE : List Bool} {i : Int} (h0 : 0 ≤ i) (h1 : i < xs.length) (h : chkL m (xs.drop i.toNat) ys = some yE) : (insOk ys (rdIns xs i) = true ∧ 0 ≤ insTo (rdIns xs i) ∧ insTo (rdIns xs i) < m) ∧ chkL m (xs.drop (i + 1).toNat) (ys.set (insTo (rdIns xs i)).toNat true) = some yE := by
  rw [chk_step m xs ys i h0 h1] at h
  by_cases hc : insOk ys (rdIns xs i) = true ∧ 0 ≤ insTo (rdIns xs i) ∧ insTo (rdIns xs i) < m
  · rw [if_pos hc] at h; exact ⟨hc, h⟩
  · rw [if_neg hc] at h; cases h
theorem do_parts {ys : List Bool} {op : Int} {args : List Int} (h : doOk ys op args = true) : arE op = 0 ∧ 0 < arK op ∧ arK op = args.length ∧ ∀ j : Int, 0 ≤ j → j < args.length → 0 ≤ rd args j ∧ rd args j < ys.length := by
  unfold doOk at h
  simp only [Bool.and_eq_true, decide_eq_true_eq, Bool.not_eq_true'] at h
  refine ⟨h.1, h.2.1, h.2.2.1, fun j h0 h1 => ?_⟩
  have hm : rd args j ∈ args := by
    have hl : j.toNat < args.length := by omega
    unfold rd
    rw [List.getD_eq_getElem?_getD, List.getElem?_eq_getElem hl]
    exact List.getElem_mem _
  have hb := List.any_eq_false.1 h.2.2.2 _ hm
  unfold badR at hb
  by_cases a : rd args j < 0
  · rw [if_pos a] at hb; exact absurd rfl hb
  rw [if_neg a] at hb
  by_cases b : (ys.length : Int) ≤ rd args j
  · rw [if_pos b] at hb; exact absurd rfl hb
  omega
theorem arK_le (op : Int) : arK op ≤ 3 := by
  unfold arK
  split
  · omega
  split
  · omega
  split
  · omega
  split <;> omega
theorem map_step (f : Int → Int) (xs : List Int) (j : Int) (h0 : 0 ≤ j) (h1 : j < xs.length) : (xs.take j.toNat).map f ++ [f (rd xs j)] = (xs.take (j + 1).toNat).map f := take_step f xs 0 j h0 h1
theorem own_only {e base : Nat} {w : World} {g m cap : Nat} {k : IntKind} {ok : Nat → Prop} {xs : List Int} (h : (Kd.int k).R e w base ok (.slice (some ⟨g, 0, none⟩) m cap) xs) (hm : m = xs.length) : (Kd.int k).R e w base (fun j => j = g) (.slice (some ⟨g, 0, none⟩) m cap) xs := by
  subst hm
  exact Kd.R_of_own (h1 := fun _ => rfl) (Kd.own_of_R (h1 := fun _ => rfl) h) (fun j hj => by simpa [Value.ownBlock] using hj.symm)
theorem row_cell {e base : Nat} {w : World} {g m cap : Nat} {k : IntKind} {ok : Nat → Prop} {xs : List Int} (h : (Kd.int k).R e w base ok (.slice (some ⟨g, 0, none⟩) m cap) xs) (hm : xs.length = m) (i : Int) (h0 : 0 ≤ i) (hi : i < (m : Int)) : w.cell? ⟨g, i.toNat, none⟩ = some (.int k (rd xs i)) ∧ w.frozen? ⟨g, i.toNat, none⟩ = false := by
  subst hm
  exact Kd.R_cell (enc := Value.int k) (h1 := fun _ => rfl) 0 h i h0 hi
theorem row_put {e base : Nat} {w : World} {g m cap : Nat} {k : IntKind} {ok : Nat → Prop} {xs : List Int} (h : (Kd.int k).R e w base ok (.slice (some ⟨g, 0, none⟩) m cap) xs) (hm : xs.length = m) (i x : Int) : (Kd.int k).R e (w.setCell ⟨g, i.toNat, none⟩ (.int k x)) base ok (.slice (some ⟨g, 0, none⟩) m cap) (xs.set i.toNat x) := by
  subst hm
  exact (Kd.R_put (enc := Value.int k) (h1 := fun _ => rfl) h i x).1

set_option maxRecDepth 20000 in
set_option maxHeartbeats 2000000 in
theorem run_calls (xs : List Ins) (A : Option Addr) (c m : Nat) (out : Int) (bs : List S39) (B : Option Addr) (d : Nat) (yE : List Bool) (w : World) (hl : xs.length ≤ c) (hX : kI.C w A xs.length xs) (hf : ∀ x ∈ xs, insFit x) (h128 : xs.length ≤ 128) (hm : 1 ≤ m ∧ m ≤ 64) (hk : chkL (m : Int) xs (List.replicate m false) = some yE) (hB : k39.C w B bs.length bs) (hd : bs.length ≤ d) (hbs : bs.length ≤ 9223372036854775807) :
    Calls Tryd.prog 43 #[.agg #[.slice A xs.length c, .int .i64 m, .int .i64 out], .slice B bs.length d] w fun e w' => Below w.heap.size w w' ∧ ((runL bs xs (List.replicate m 0) [] = none ∧ e = .returned (.tuple #[.slice none 0 0, .slice none 0 0, .bool false])) ∨ ∃ wr regs vw vr, runL bs xs (List.replicate m 0) [] = some (wr, regs) ∧ e = .returned (.tuple #[vw, vr, .bool true]) ∧ regs.length = m ∧ (Kd.int .i64).R 2 w' w.heap.size (fun _ => True) vw wr ∧ (Kd.int .i64).R 2 w' w.heap.size (fun _ => True) vr regs) := by
  have HX := Aside0.mk hX; clear hX
  have HF := Aside0.mk hf; clear hf
  have HK := Aside0.mk hk; clear hk
  have HBS := Aside0.mk hB; clear hB
  have HBD := Aside0.mk hd; clear hd
  have HBL := Aside0.mk hbs; clear hbs
  have R1 := Aside0.mk hm; clear hm
  have R3 := Aside0.mk h128; clear h128
  have HB0 : Aside0 (Below w.heap.size w (w.alloc (.cells #[.slice A xs.length c, .int .i64 m, .int .i64 out] 32))) := ⟨below_alloc (Below.refl _ _) _⟩
  go_enter Tryd.func43, Tryd.ntmps43
  go_wp2_with (first | ((with_reducible refine gate_dst (N := 20) rfl ?_); refine Kd.R_make (Kd.int .i64) _ 2 rfl (N := 20) rfl 43 _ _ rfl (m : Int) rfl rfl Tryd.underlying43 (.int .i64 0) 8 info2 rfl (by decide) (by omega) 0 (ok := fun _ => True) (okp := fun _ => True) rfl (fun _ hk => hk) trivial (by have := R1.out; omega) (by have := R1.out; rw [Int.toNat_natCast]; omega) (Below.refl _ _) (Nat.le_refl _) ?_; intro v20 w1 ho hb hg_ hnew_; clear hg_ hnew_; rw [Int.toNat_natCast] at ho; have hf1 := Kd.R_form ho (by rw [List.length_replicate]; exact R1.out.1); obtain ⟨g, cap, hv, hg, _, _⟩ := hf1; rw [List.length_replicate] at hv; subst hv; have K1 : Aside0 (w1.heap[w.heap.size]? = some (.cells #[.slice A xs.length c, .int .i64 m, .int .i64 out] 32 (0, 0))) := ⟨blk_below (blk_new w _) hb⟩; have HB1 : Aside0 (Below w.heap.size w w1) := ⟨HB0.out.trans (below_base hb (by rw [alloc_size]; omega))⟩; have hg2 : w.heap.size + 1 ≤ g := (Nat.le_trans (Nat.le_of_eq (alloc_size w _).symm) hg); have HG := Aside0.mk hg2; have HO : Aside0 ((Kd.int .i64).R 2 w1 (w.heap.size + 1) (fun k => k = g) (.slice (some ⟨g, 0, none⟩) m cap) (List.replicate m 0)) := ⟨own_only (Kd.R_lower ho (by rw [alloc_size]; omega)) (List.length_replicate).symm⟩; clear ho hb hg hg2; have c10 : w1.cell? ⟨w.heap.size, 0, none⟩ = some (.slice A xs.length c) := (blk_cell K1.out 0).trans rfl; have c11 : w1.cell? ⟨w.heap.size, 1, none⟩ = some (.int .i64 m) := (blk_cell K1.out 1).trans rfl; have c12 : w1.cell? ⟨w.heap.size, 2, none⟩ = some (.int .i64 out) := (blk_cell K1.out 2).trans rfl))
  go_loopw [4, 5, 24] (fun v4 v5 v24 w' => ∃ (i : Int) (ys : List Bool) (regs wl : List Int), v5 = .slice (some ⟨g, 0, none⟩) m cap ∧ v24 = .int .i64 i ∧ 0 ≤ i ∧ i ≤ xs.length ∧ Aside0 (w'.heap[w.heap.size]? = some (.cells #[.slice A xs.length c, .int .i64 m, .int .i64 out] 32 (0, 0))) ∧ Aside0 ((Kd.int .i64).R 2 w' (w.heap.size + 1) (fun k => k = g) (.slice (some ⟨g, 0, none⟩) m cap) regs) ∧ Aside0 (regs.length = m) ∧ Aside0 ((Kd.int .i64).R 2 w' (w.heap.size + 1) (fun k => k ≠ g) v4 wl) ∧ Aside0 ((wl.length : Int) = i) ∧ Aside0 (ys.length = m) ∧ Aside0 (chkL (m : Int) (xs.drop i.toNat) ys = some yE) ∧ Aside0 (runL bs (xs.drop i.toNat) regs wl = runL bs xs (List.replicate m 0) []) ∧ Aside0 (Below w.heap.size w w')) (fun _ _ v24 _ => xs.length - (intOf v24).toNat)
  case atStart => exact ⟨0, List.replicate m false, List.replicate m 0, [], rfl, rfl, Int.le_refl _, by omega, K1, HO, ⟨List.length_replicate⟩, ⟨Kd.R_nil _ _ _ _ _⟩, ⟨rfl⟩, ⟨List.length_replicate⟩, HK, ⟨rfl⟩, HB1⟩
  case round =>
    rename World => wo
    clear c10 c11 c12 HK
    obtain ⟨i, ys, regs, wl, rfl, rfl, h0, h1, K2, HR, HRL, HW, HWL, HYL, HK, HE, HB⟩ := hrel
    have c10 : wo.cell? ⟨w.heap.size, 0, none⟩ = some (.slice A xs.length c) := (blk_cell K2.out 0).trans rfl
    have c11 : wo.cell? ⟨w.heap.size, 1, none⟩ = some (.int .i64 m) := (blk_cell K2.out 1).trans rfl
    have c12 : wo.cell? ⟨w.heap.size, 2, none⟩ = some (.int .i64 out) := (blk_cell K2.out 2).trans rfl
    have HGS : Aside0 (g < wo.heap.size) := ⟨Kd.R_lt HR.out g (by simp [Value.ownBlock])⟩
    obtain ⟨AW, cW, hvw⟩ := Kd.R_slice HW.out
    have hwn : wl.length = i.toNat := by have := HWL.out; omega
    rw [hwn] at hvw
    subst hvw
    have HWN := Aside0.mk hwn; clear hwn
    by_cases h2 : i < xs.length
    · have b7 : decide (i < (xs.length : Int)) = true := decide_eq_true h2
      obtain ⟨ad, v, eA, e0, hK⟩ := ins_at HX.out i h0 h2
      cases eA
      have hst := Aside0.mk (run_step bs xs regs wl i h0 h2)
      have hck := chk_some h0 h2 HK.out
      have HOK := Aside0.mk hck.1.1
      have HTO := Aside0.mk hck.1.2
      have HK2 := Aside0.mk hck.2
      clear hck HK
      have hfx := Aside0.mk (HF.out _ (rdIns_mem h0 h2))
      have HI := Aside0.mk (show 0 ≤ i ∧ i < xs.length from ⟨h0, h2⟩)
      replace e0 := pw_cell_below HB.out e0
      replace hK := kI.K_below HB.out hK
      generalize rdIns xs i = x at *
      replace h0 := eq_true h0
      replace h2 := eq_true h2
      cases x with
      | lit r n =>
        obtain rfl : v = .iface 94 (.agg #[.int .i64 r, .int .i64 n]) := List.cons.inj hK |>.1
        clear hK hfx
        have HST : Aside0 (runL bs (xs.drop i.toNat) regs wl = runL bs (xs.drop (i + 1).toNat) (regs.set r.toNat n) (wl ++ [n])) := ⟨hst.out⟩
        have HTO2 : Aside0 (0 ≤ r ∧ r < (m : Int)) := ⟨HTO.out⟩
        have HK3 : Aside0 (chkL (m : Int) (xs.drop (i + 1).toNat) (ys.set r.toNat true) = some yE) := ⟨HK2.out⟩
        have h_ta94_94 := fun v W => ta94_94 v W
        go_upto_region 10 with (fail)
        refine start_ (n := 6) (S := fun w' => w'.cell? ⟨wo.heap.size, 0, none⟩ = some (.int .i64 r) ∧ w'.cell? ⟨wo.heap.size, 1, none⟩ = some (.int .i64 n)) (ds := []) #[false, false, false, false, false, false] (by kernel_rfl) rfl rfl ⟨(by go_simp), (by go_simp)⟩ (fun hHeld => ?_)
        refine pure_ (i := 0) (N := some 32) (v := ?_) (a' := ?_) #[true, false, false, false, false, false] rfl rfl (by kernel_rfl) (fun _ _ _ h => h) (Or.inl ⟨by rfl, ?_⟩) ?_ ?_
        rotate_left
        · intro w'
          go_simp
          with_reducible rfl
        rotate_left
        · simp only [Act.put, List.setIfInBounds_toArray, List.set_cons_zero, List.set_cons_succ, i64_w, i32_w]
          rfl
        refine pure_ (i := 2) (N := some 34) (v := ?_) (a' := ?_) #[true, false, true, false, false, false] rfl rfl (by kernel_rfl) (fun _ _ _ h => h) (Or.inl ⟨by rfl, ?_⟩) ?_ ?_
        rotate_left
        · intro w'
          go_simp
          with_reducible rfl
        rotate_left
        · simp only [Act.put, List.setIfInBounds_toArray, List.set_cons_zero, List.set_cons_succ, i64_w, i32_w]
          rfl
        refine take_ (i := 1) (N := some 33) (v := ?_) (a' := ?_) #[true, true, true, false, false, false] rfl rfl (by kernel_rfl) (fun _ _ _ h => h) (Or.inl ⟨by rfl, ?_⟩) hHeld ?_ ?_
        rotate_left
        · rintro w' ⟨s0, s1⟩
          go_simp
          with_reducible rfl
        rotate_left
        · simp only [Act.put, List.setIfInBounds_toArray, List.set_cons_zero, List.set_cons_succ, i64_w, i32_w]
          rfl
        refine pure_ (i := 4) (N := some 9) (v := ?_) (a' := ?_) #[true, true, true, false, true, false] rfl rfl (by kernel_rfl) (fun _ _ _ h => h) (Or.inl ⟨by rfl, ?_⟩) ?_ ?_
        rotate_left
        · intro w'
          go_simp
          with_reducible rfl
        rotate_left
        · simp only [Act.put, List.setIfInBounds_toArray, List.set_cons_zero, List.set_cons_succ, i64_w, i32_w]
          rfl
        refine take_ (i := 3) (N := some 35) (v := ?_) (a' := ?_) #[true, true, true, true, true, false] rfl rfl (by kernel_rfl) (fun _ _ _ h => h) (Or.inl ⟨by rfl, ?_⟩) hHeld ?_ ?_
        rotate_left
        · rintro w' ⟨s0, s1⟩
          go_simp
          with_reducible rfl
        rotate_left
        · simp only [Act.put, List.setIfInBounds_toArray, List.set_cons_zero, List.set_cons_succ, i64_w, i32_w]
          rfl
        refine pure_ (i := 5) (N := some 10) (v := ?_) (a' := ?_) #[true, true, true, true, true, true] rfl rfl (by kernel_rfl) (fun _ _ _ h => h) (Or.inl ⟨by rfl, ?_⟩) ?_ ?_
        rotate_left
        · intro w'
          go_simp
          with_reducible rfl
        rotate_left
        · simp only [Act.put, List.setIfInBounds_toArray, List.set_cons_zero, List.set_cons_succ, i64_w, i32_w]
          rfl
        refine done_ (by kernel_rfl) ?_
        go_upto_region 27 with (fail)
        refine wp_forget (fun W' => Below wo.heap.size wo W') (below_drew (below_alloc (Below.refl _ _) _)) ?_
        intro W hbW
        have HBW := Aside0.mk hbW; clear hbW
        have HR2 : Aside0 ((Kd.int .i64).R 2 W (w.heap.size + 1) (fun k => k = g) (.slice (some ⟨g, 0, none⟩) m cap) regs) := ⟨Kd.R_below HR.out HBW.out⟩
        have HW2 : Aside0 ((Kd.int .i64).R 2 W (w.heap.size + 1) (fun k => k ≠ g) (.slice AW i.toNat cW) wl) := ⟨Kd.R_below HW.out HBW.out⟩
        have hcz := row_cell HR2.out HRL.out r HTO2.out.1 HTO2.out.2
        have hcz1 := hcz.1
        have hcz2 := hcz.2
        clear hcz
        have hput := row_put HR2.out HRL.out r (n)
        have HPUT : Aside0 ((Kd.int .i64).R 2 (W.setCell ⟨g, r.toNat, none⟩ (.int .i64 (n))) (w.heap.size + 1) (fun k => k = g) (.slice (some ⟨g, 0, none⟩) m cap) (regs.set r.toNat (n))) := ⟨hput⟩
        have HW3 : Aside0 ((Kd.int .i64).R 2 (W.setCell ⟨g, r.toNat, none⟩ (.int .i64 (n))) (w.heap.size + 1) (fun k => k ≠ g) (.slice AW i.toNat cW) wl) := ⟨Kd.R_far (p := ⟨g, r.toNat, none⟩) HW2.out (fun k hk => hk) _⟩
        clear hput HR2 HW2
        have HB3 : Aside0 (Below (w.heap.size + 1) wo (W.setCell ⟨g, r.toNat, none⟩ (.int .i64 (n)))) := ⟨(below_base HBW.out (blk_lt K2.out)).setCell HG.out _⟩
        have HS3 : Aside0 (wo.heap.size ≤ (W.setCell ⟨g, r.toNat, none⟩ (.int .i64 (n))).heap.size) := ⟨HB3.out.size⟩
        have p0 : (0 ≤ r) = True := eq_true HTO2.out.1
        have p1 : (r < (m : Int)) = True := eq_true HTO2.out.2
        go_upto_region 28 with (fail)
        refine wp_forget (fun W' => (Kd.int .i64).R 2 W' (w.heap.size + 1) (fun k => k = g) (.slice (some ⟨g, 0, none⟩) m cap) (regs.set r.toNat (n)) ∧ (Kd.int .i64).R 2 W' (w.heap.size + 1) (fun k => k ≠ g) (.slice AW i.toNat cW) wl ∧ Below (w.heap.size + 1) wo W' ∧ wo.heap.size ≤ W'.heap.size) ⟨HPUT.out, HW3.out, HB3.out, HS3.out⟩ ?_
        clear hcz1 hcz2 HPUT HW3 HB3 HS3
        rintro W2 ⟨hput, hw3, hb3, hs3⟩
        have HPUT := Aside0.mk hput; have HW3 := Aside0.mk hw3; have HB3 := Aside0.mk hb3; have HS3 := Aside0.mk hs3
        clear hput hw3 hb3 hs3
        have hfr : ∀ k, W2.heap.size ≤ k → k ≠ g := fun k hk => by have h1 := HS3.out; have h2 := HGS.out; omega
        have HFR := Aside0.mk hfr; clear hfr
        have hln : (wl.length + 1) * 8 ≤ 140737488355328 := by have h1 := HWN.out; have h2 := R3.out; have h3 := HI.out; omega
        have HLN := Aside0.mk hln; clear hln
        have HSZ : Aside0 (w.heap.size + 1 ≤ W2.heap.size) := ⟨Nat.le_trans (blk_lt K2.out) HS3.out⟩
        go_wp2_with (first | ((with_reducible refine gate_builtin (b := .append) (xs := #[.tmp 78, .tmp 80]) rfl ?_); at_builtin; refine Kd.R_append (Kd.int .i64) (w0 := wo) (w.heap.size + 1) rfl (.tmp 78) (.tmp 80) 43 2 (.int .i64 0) 8 rfl Tryd.underlying43 info2 rfl (by decide) (by omega) (.slice AW i.toNat cW) wl (n) [.int .i64 (n)] (fun k => k ≠ g) (fun _ => False) rfl rfl rfl (fun _ h => h.elim) HFR.out HW3.out HB3.out HSZ.out HLN.out ?_; intro v81 w81 ho81 hb81 hg81 hat81; clear hat81; have HO81 := Aside0.mk ho81; have HB81 := Aside0.mk hb81; have HG81 := Aside0.mk hg81; clear ho81 hb81 hg81))
        have HR9 : Aside0 ((Kd.int .i64).R 2 w81 (w.heap.size + 1) (fun k => k = g) (.slice (some ⟨g, 0, none⟩) m cap) (regs.set r.toNat (n))) := ⟨Kd.R_grown HPUT.out HG81.out (fun k hk e => HW3.out.1 k e.symm hk)⟩
        have hw : wrap64 (i + 1) = i + 1 := by unfold wrap64; have := HI.out; have := R3.out; omega
        refine ⟨⟨i + 1, ys.set r.toNat true, regs.set r.toNat (n), wl ++ [n], rfl, by rw [hw], by have := HI.out; omega, by have := HI.out; omega, ⟨(HB81.out.block _ (by omega)).trans K2.out⟩, HR9, ⟨by rw [List.length_set]; exact HRL.out⟩, HO81, ⟨by rw [List.length_append, List.length_singleton]; have := HWL.out; omega⟩, ⟨by rw [List.length_set]; exact HYL.out⟩, HK3, ⟨by rw [← HST.out]; exact HE.out⟩, ⟨HB.out.trans (below_base HB81.out (by omega))⟩⟩, ?_⟩
        rw [hw]
        have := HI.out
        simp [intOf]
        omega
      | var r s =>
        obtain rfl : v = .iface 99 (.agg #[.int .i64 r, .string s]) := List.cons.inj hK |>.1
        clear hK hfx
        have HST : Aside0 (runL bs (xs.drop i.toNat) regs wl = runL bs (xs.drop (i + 1).toNat) (regs.set r.toNat (getP bs s)) (wl ++ [getP bs s])) := ⟨hst.out⟩
        have HTO2 : Aside0 (0 ≤ r ∧ r < (m : Int)) := ⟨HTO.out⟩
        have HK3 : Aside0 (chkL (m : Int) (xs.drop (i + 1).toNat) (ys.set r.toNat true) = some yE) := ⟨HK2.out⟩
        have h_ta99_94 := fun v W => ta99_94 v W
        have h_ta99_99 := fun v W => ta99_99 v W
        go_upto_region 13 with (fail)
        have hbd : Below wo.heap.size wo ((wo.alloc (.cells #[.int .i64 r, .string s] 99)).drew) := below_drew (below_alloc (Below.refl _ _) _)
        have HBD0 := Aside0.mk hbd; clear hbd
        refine start_ (n := 8) (S := fun w' => w'.cell? ⟨wo.heap.size, 0, none⟩ = some (.int .i64 r) ∧ w'.cell? ⟨wo.heap.size, 1, none⟩ = some (.string s)) (ds := []) #[false, false, false, false, false, false, false, false] (by kernel_rfl) rfl rfl ⟨(by go_simp), (by go_simp)⟩ (fun hHeld => ?_)
        refine pure_ (i := 0) (N := some 39) (v := ?_) (a' := ?_) #[true, false, false, false, false, false, false, false] rfl rfl (by kernel_rfl) (fun _ _ _ h => h) (Or.inl ⟨by rfl, ?_⟩) ?_ ?_
        rotate_left
        · intro w'
          go_simp
          with_reducible rfl
        rotate_left
        · simp only [Act.put, List.setIfInBounds_toArray, List.set_cons_zero, List.set_cons_succ, i64_w, i32_w]
          rfl
        refine pure_ (i := 1) (N := some 40) (v := ?_) (a' := ?_) #[true, true, false, false, false, false, false, false] rfl rfl (by kernel_rfl) (fun _ _ _ h => h) (Or.inl ⟨by rfl, ?_⟩) ?_ ?_
        rotate_left
        · intro w'
          go_simp
          with_reducible rfl
        rotate_left
        · simp only [Act.put, List.setIfInBounds_toArray, List.set_cons_zero, List.set_cons_succ, i64_w, i32_w]
          rfl
        refine pure_ (i := 4) (N := some 43) (v := ?_) (a' := ?_) #[true, true, false, false, true, false, false, false] rfl rfl (by kernel_rfl) (fun _ _ _ h => h) (Or.inl ⟨by rfl, ?_⟩) ?_ ?_
        rotate_left
        · intro w'
          go_simp
          with_reducible rfl
        rotate_left
        · simp only [Act.put, List.setIfInBounds_toArray, List.set_cons_zero, List.set_cons_succ, i64_w, i32_w]
          rfl
        refine take_ (i := 2) (N := some 41) (v := ?_) (a' := ?_) #[true, true, true, false, true, false, false, false] rfl rfl (by kernel_rfl) (fun _ _ _ h => h) (Or.inl ⟨by rfl, ?_⟩) hHeld ?_ ?_
        rotate_left
        · rintro w' ⟨s0, s1⟩
          go_simp
          with_reducible rfl
        rotate_left
        · simp only [Act.put, List.setIfInBounds_toArray, List.set_cons_zero, List.set_cons_succ, i64_w, i32_w]
          rfl
        refine take_ (i := 5) (N := some 44) (v := ?_) (a' := ?_) #[true, true, true, false, true, true, false, false] rfl rfl (by kernel_rfl) (fun _ _ _ h => h) (Or.inl ⟨by rfl, ?_⟩) hHeld ?_ ?_
        rotate_left
        · rintro w' ⟨s0, s1⟩
          go_simp
          with_reducible rfl
        rotate_left
        · simp only [Act.put, List.setIfInBounds_toArray, List.set_cons_zero, List.set_cons_succ, i64_w, i32_w]
          rfl
        refine one_ (i := 3) (N := some 42) #[true, true, true, true, true, true, false, false] rfl rfl (by kernel_rfl) (by decide) (fun K hK => ?_)
        refine goes_ Tryd.func80 (by kernel_rfl) rfl #[.slice B bs.length d, .string s] (by rfl) rfl rfl (by (try simp only [List.map_toArray, List.map_cons, List.map_nil]); first | done | rfl) ?_
        with_reducible refine (get_calls bs s B d _ (Kd.C_below HBS.out (HB.out.trans (below_base HBD0.out HB.out.size))) HBD.out HBL.out).mono ?_
        rintro e w4 ⟨rfl, hd4⟩
        refine ⟨_, rfl, ?_⟩
        have HBD4 := Aside0.mk (HBD0.out.trans (below_base hd4.below HBD0.out.size))
        refine hK.out _ _ ⟨(pw_cell_below hd4.below hHeld.1), (pw_cell_below hd4.below hHeld.2)⟩ (fun hHeld => ?_)
        clear hK K
        refine norm_ (a' := ?_) ?_ ?_
        rotate_left
        · show Act.put _ (some 42) _ = _
          simp only [Act.put, List.setIfInBounds_toArray, List.set_cons_zero, List.set_cons_succ, i64_w, i32_w]
          rfl
        refine pure_ (i := 6) (N := some 9) (v := ?_) (a' := ?_) #[true, true, true, true, true, true, true, false] rfl rfl (by kernel_rfl) (fun _ _ _ h => h) (Or.inl ⟨by rfl, ?_⟩) ?_ ?_
        rotate_left
        · intro w'
          go_simp
          with_reducible rfl
        rotate_left
        · simp only [Act.put, List.setIfInBounds_toArray, List.set_cons_zero, List.set_cons_succ, i64_w, i32_w]
          rfl
        refine pure_ (i := 7) (N := some 10) (v := ?_) (a' := ?_) #[true, true, true, true, true, true, true, true] rfl rfl (by kernel_rfl) (fun _ _ _ h => h) (Or.inl ⟨by rfl, ?_⟩) ?_ ?_
        rotate_left
        · intro w'
          go_simp
          with_reducible rfl
        rotate_left
        · simp only [Act.put, List.setIfInBounds_toArray, List.set_cons_zero, List.set_cons_succ, i64_w, i32_w]
          rfl
        refine done_ (by kernel_rfl) ?_
        go_upto_region 27 with (fail)
        refine wp_forget (fun W' => Below wo.heap.size wo W') (HBD4.out) ?_
        intro W hbW
        have HBW := Aside0.mk hbW; clear hbW
        have HR2 : Aside0 ((Kd.int .i64).R 2 W (w.heap.size + 1) (fun k => k = g) (.slice (some ⟨g, 0, none⟩) m cap) regs) := ⟨Kd.R_below HR.out HBW.out⟩
        have HW2 : Aside0 ((Kd.int .i64).R 2 W (w.heap.size + 1) (fun k => k ≠ g) (.slice AW i.toNat cW) wl) := ⟨Kd.R_below HW.out HBW.out⟩
        have hcz := row_cell HR2.out HRL.out r HTO2.out.1 HTO2.out.2
        have hcz1 := hcz.1
        have hcz2 := hcz.2
        clear hcz
        have hput := row_put HR2.out HRL.out r (getP bs s)
        have HPUT : Aside0 ((Kd.int .i64).R 2 (W.setCell ⟨g, r.toNat, none⟩ (.int .i64 (getP bs s))) (w.heap.size + 1) (fun k => k = g) (.slice (some ⟨g, 0, none⟩) m cap) (regs.set r.toNat (getP bs s))) := ⟨hput⟩
        have HW3 : Aside0 ((Kd.int .i64).R 2 (W.setCell ⟨g, r.toNat, none⟩ (.int .i64 (getP bs s))) (w.heap.size + 1) (fun k => k ≠ g) (.slice AW i.toNat cW) wl) := ⟨Kd.R_far (p := ⟨g, r.toNat, none⟩) HW2.out (fun k hk => hk) _⟩
        clear hput HR2 HW2
        have HB3 : Aside0 (Below (w.heap.size + 1) wo (W.setCell ⟨g, r.toNat, none⟩ (.int .i64 (getP bs s)))) := ⟨(below_base HBW.out (blk_lt K2.out)).setCell HG.out _⟩
        have HS3 : Aside0 (wo.heap.size ≤ (W.setCell ⟨g, r.toNat, none⟩ (.int .i64 (getP bs s))).heap.size) := ⟨HB3.out.size⟩
        have p0 : (0 ≤ r) = True := eq_true HTO2.out.1
        have p1 : (r < (m : Int)) = True := eq_true HTO2.out.2
        go_upto_region 28 with (fail)
        refine wp_forget (fun W' => (Kd.int .i64).R 2 W' (w.heap.size + 1) (fun k => k = g) (.slice (some ⟨g, 0, none⟩) m cap) (regs.set r.toNat (getP bs s)) ∧ (Kd.int .i64).R 2 W' (w.heap.size + 1) (fun k => k ≠ g) (.slice AW i.toNat cW) wl ∧ Below (w.heap.size + 1) wo W' ∧ wo.heap.size ≤ W'.heap.size) ⟨HPUT.out, HW3.out, HB3.out, HS3.out⟩ ?_
        clear hcz1 hcz2 HPUT HW3 HB3 HS3
        rintro W2 ⟨hput, hw3, hb3, hs3⟩
        have HPUT := Aside0.mk hput; have HW3 := Aside0.mk hw3; have HB3 := Aside0.mk hb3; have HS3 := Aside0.mk hs3
        clear hput hw3 hb3 hs3
        have hfr : ∀ k, W2.heap.size ≤ k → k ≠ g := fun k hk => by have h1 := HS3.out; have h2 := HGS.out; omega
        have HFR := Aside0.mk hfr; clear hfr
        have hln : (wl.length + 1) * 8 ≤ 140737488355328 := by have h1 := HWN.out; have h2 := R3.out; have h3 := HI.out; omega
        have HLN := Aside0.mk hln; clear hln
        have HSZ : Aside0 (w.heap.size + 1 ≤ W2.heap.size) := ⟨Nat.le_trans (blk_lt K2.out) HS3.out⟩
        go_wp2_with (first | ((with_reducible refine gate_builtin (b := .append) (xs := #[.tmp 78, .tmp 80]) rfl ?_); at_builtin; refine Kd.R_append (Kd.int .i64) (w0 := wo) (w.heap.size + 1) rfl (.tmp 78) (.tmp 80) 43 2 (.int .i64 0) 8 rfl Tryd.underlying43 info2 rfl (by decide) (by omega) (.slice AW i.toNat cW) wl (getP bs s) [.int .i64 (getP bs s)] (fun k => k ≠ g) (fun _ => False) rfl rfl rfl (fun _ h => h.elim) HFR.out HW3.out HB3.out HSZ.out HLN.out ?_; intro v81 w81 ho81 hb81 hg81 hat81; clear hat81; have HO81 := Aside0.mk ho81; have HB81 := Aside0.mk hb81; have HG81 := Aside0.mk hg81; clear ho81 hb81 hg81))
        have HR9 : Aside0 ((Kd.int .i64).R 2 w81 (w.heap.size + 1) (fun k => k = g) (.slice (some ⟨g, 0, none⟩) m cap) (regs.set r.toNat (getP bs s))) := ⟨Kd.R_grown HPUT.out HG81.out (fun k hk e => HW3.out.1 k e.symm hk)⟩
        have hw : wrap64 (i + 1) = i + 1 := by unfold wrap64; have := HI.out; have := R3.out; omega
        refine ⟨⟨i + 1, ys.set r.toNat true, regs.set r.toNat (getP bs s), wl ++ [getP bs s], rfl, by rw [hw], by have := HI.out; omega, by have := HI.out; omega, ⟨(HB81.out.block _ (by omega)).trans K2.out⟩, HR9, ⟨by rw [List.length_set]; exact HRL.out⟩, HO81, ⟨by rw [List.length_append, List.length_singleton]; have := HWL.out; omega⟩, ⟨by rw [List.length_set]; exact HYL.out⟩, HK3, ⟨by rw [← HST.out]; exact HE.out⟩, ⟨HB.out.trans (below_base HB81.out (by omega))⟩⟩, ?_⟩
        rw [hw]
        have := HI.out
        simp [intOf]
        omega
      | dox r op args =>
        obtain ⟨u, hu, hv⟩ := hK
        obtain rfl : v = .iface 87 (.agg #[.int .i64 r, .int .i64 op, u]) := List.cons.inj hv |>.1
        clear hv hfx
        obtain ⟨X, dx, hv, hdx, hXA⟩ := hu
        obtain rfl : u = .slice X args.length dx := List.cons.inj hv |>.1
        clear hv
        have HXA := Aside0.mk hXA; clear hXA
        have HDO := Aside0.mk (do_parts (show doOk ys op args = true from HOK.out)); clear HOK
        rw [HYL.out] at HDO
        have HST0 : (runL bs (xs.drop i.toNat) regs wl = if (apR op (args.map (rd regs))).2 = 0 then runL bs (xs.drop (i + 1).toNat) (regs.set r.toNat (apR op (args.map (rd regs))).1) (wl ++ [(apR op (args.map (rd regs))).1]) else none) := hst.out
        have HTO2 : Aside0 (0 ≤ r ∧ r < (m : Int)) := ⟨HTO.out⟩
        have HK3 : Aside0 (chkL (m : Int) (xs.drop (i + 1).toNat) (ys.set r.toNat true) = some yE) := ⟨HK2.out⟩
        have HLA : Aside0 (args.length ≤ 3) := ⟨by have h1 := HDO.out.2.2.1; have h2 := arK_le op; omega⟩
        have h_ta87_94 := fun v W => ta87_94 v W
        have h_ta87_99 := fun v W => ta87_99 v W
        have h_ta87_87 := fun v W => ta87_87 v W
        go_upto_region 16 with (fail)
        refine wp_forget (fun W' => Below wo.heap.size wo W' ∧ W'.heap[wo.heap.size]? = some (.cells #[.int .i64 r, .int .i64 op, .slice X args.length dx] 87 (0, 0))) ⟨below_alloc (Below.refl _ _) _, blk_new _ _⟩ ?_
        rintro WA ⟨hba, hka⟩
        have HBA := Aside0.mk hba; have HKA := Aside0.mk hka; clear hba hka
        have d80 : WA.cell? ⟨wo.heap.size, 0, none⟩ = some (.int .i64 r) := (blk_cell HKA.out 0).trans rfl
        have d81 : WA.cell? ⟨wo.heap.size, 1, none⟩ = some (.int .i64 op) := (blk_cell HKA.out 1).trans rfl
        have d82 : WA.cell? ⟨wo.heap.size, 2, none⟩ = some (.slice X args.length dx) := (blk_cell HKA.out 2).trans rfl
        have HRA : Aside0 ((Kd.int .i64).R 2 WA (w.heap.size + 1) (fun k => k = g) (.slice (some ⟨g, 0, none⟩) m cap) regs) := ⟨Kd.R_below HR.out HBA.out⟩
        have HXB : Aside0 ((Kd.int .i64).C WA X args.length args) := ⟨Kd.C_below HXA.out HBA.out⟩
        go_wp2_with fail
        go_loopw [14, 16, 51] (fun v14 _ v51 w' => ∃ j : Int, v51 = .int .i64 j ∧ 0 ≤ j ∧ j ≤ args.length ∧ Aside0 ((Kd.int .i64).R 2 w' WA.heap.size (fun _ => True) v14 ((args.take j.toNat).map (rd regs))) ∧ Aside0 (Below WA.heap.size WA w')) (fun _ _ v51 _ => args.length - (intOf v51).toNat)
        case atStart => exact ⟨0, rfl, Int.le_refl _, by omega, ⟨Kd.R_nil _ _ _ _ _⟩, ⟨Below.refl _ _⟩⟩
        case round =>
          obtain ⟨j, rfl, j0, j1, HV, HBI⟩ := hrel
          have e80 : wr.cell? ⟨wo.heap.size, 0, none⟩ = some (.int .i64 r) := pw_cell_below HBI.out d80
          have e81 : wr.cell? ⟨wo.heap.size, 1, none⟩ = some (.int .i64 op) := pw_cell_below HBI.out d81
          have e82 : wr.cell? ⟨wo.heap.size, 2, none⟩ = some (.slice X args.length dx) := pw_cell_below HBI.out d82
          obtain ⟨ls, hls⟩ : ∃ ls, ls = (args.take j.toNat).map (rd regs) := ⟨_, rfl⟩
          have hll : ls.length = j.toNat := by rw [hls, List.length_map, List.length_take]; omega
          rw [← hls] at HV
          have HLS := Aside0.mk hls; clear hls
          by_cases j2 : j < args.length
          · have b8 : decide (j < (args.length : Int)) = true := decide_eq_true j2
            obtain ⟨aX, eX, x0⟩ := int_at (Kd.C_below HXB.out HBI.out) j j0 j2
            cases eX
            have hrr := HDO.out.2.2.2 j j0 j2
            have y0 := pw_cell_below HBI.out (row_cell HRA.out HRL.out (rd args j) hrr.1 hrr.2).1
            have hms := Aside0.mk (map_step (rd regs) args j j0 j2)
            have HJ := Aside0.mk (show 0 ≤ j ∧ j < args.length from ⟨j0, j2⟩)
            have HLL := Aside0.mk hll; clear hll
            have p0 : (0 ≤ rd args j) = True := eq_true hrr.1
            have p1 : (rd args j < (m : Int)) = True := eq_true hrr.2
            clear hrr
            replace j0 := eq_true j0
            replace j2 := eq_true j2
            obtain ⟨AV, cV, hv⟩ := Kd.R_slice HV.out
            rw [HLL.out] at hv
            subst hv
            have hln : (ls.length + 1) * 8 ≤ 140737488355328 := by have h1 := HLL.out; have h2 := HLA.out; have h3 := HJ.out; omega
            have HLN := Aside0.mk hln; clear hln
            go_wp2_with (first | ((with_reducible refine gate_builtin (b := .append) (xs := #[.tmp 55, .tmp 60]) rfl ?_); at_builtin; refine Kd.R_append (Kd.int .i64) (w0 := WA) WA.heap.size rfl (.tmp 55) (.tmp 60) 43 2 (.int .i64 0) 8 rfl Tryd.underlying43 info2 rfl (by decide) (by omega) (.slice AV j.toNat cV) ls (rd regs (rd args j)) [.int .i64 (rd regs (rd args j))] (fun _ => True) (fun _ => False) rfl rfl rfl (fun _ h => h.elim) (fun _ _ => trivial) HV.out HBI.out HBI.out.size HLN.out ?_; intro v61 w61 ho61 hb61 hg61 hat61; clear hat61 hg61; have HO61 := Aside0.mk ho61; have HB61 := Aside0.mk hb61; clear ho61 hb61))
            have hw : wrap64 (j + 1) = j + 1 := by unfold wrap64; have := HJ.out; have := HLA.out; omega
            refine ⟨⟨j + 1, by rw [hw], by have := HJ.out; omega, by have := HJ.out; omega, ⟨?_⟩, HB61⟩, ?_⟩
            · rw [← hms.out, ← HLS.out]; exact HO61.out
            · rw [hw]
              have := HJ.out
              simp [intOf]
              omega
          · have b8 : decide (j < (args.length : Int)) = false := decide_eq_false j2
            have hal : ls = args.map (rd regs) := by rw [HLS.out, List.take_of_length_le (by omega)]
            have hla : ls.length = args.length := by rw [hal, List.length_map]
            rw [← hal] at HST0
            have HJ := Lib.hid j2; clear j2 hll
            obtain ⟨AV, cV, hv, hcv, hCV⟩ := Kd.R_reads HV.out
            subst hv
            have HAP := Aside0.mk (apply_calls op ls AV cV wr HDO.out.1 HDO.out.2.1 (by rw [hla]; exact HDO.out.2.2.1) hCV hcv)
            have HLL2 := Aside0.mk hla
            clear hCV hcv hal hla
            go_wp2_with fail
            refine (HAP.out).mono ?_
            clear HAP
            rintro e w4 ⟨rfl, hd4⟩
            generalize apR op ls = pp at *
            obtain ⟨pv, pe⟩ := pp
            have HBD4 : Aside0 (Below wo.heap.size wo w4) := ⟨HBA.out.trans (below_base (HBI.out.trans (below_base hd4.below HBI.out.size)) HBA.out.size)⟩
            replace e80 := pw_cell_below hd4.below e80
            replace e81 := pw_cell_below hd4.below e81
            replace e82 := pw_cell_below hd4.below e82
            have HD4 := Aside0.mk hd4; clear hd4
            by_cases hpe : pe = 0
            · subst hpe
              have HST : Aside0 (runL bs (xs.drop i.toNat) regs wl = runL bs (xs.drop (i + 1).toNat) (regs.set r.toNat pv) (wl ++ [pv])) := ⟨by rw [HST0]; exact if_pos rfl⟩
              clear HST0 hst
              go_upto_region 27 with (fail)
              refine wp_forget (fun W' => Below wo.heap.size wo W') (HBD4.out) ?_
              intro W hbW
              have HBW := Aside0.mk hbW; clear hbW
              have HR2 : Aside0 ((Kd.int .i64).R 2 W (w.heap.size + 1) (fun k => k = g) (.slice (some ⟨g, 0, none⟩) m cap) regs) := ⟨Kd.R_below HR.out HBW.out⟩
              have HW2 : Aside0 ((Kd.int .i64).R 2 W (w.heap.size + 1) (fun k => k ≠ g) (.slice AW i.toNat cW) wl) := ⟨Kd.R_below HW.out HBW.out⟩
              have hcz := row_cell HR2.out HRL.out r HTO2.out.1 HTO2.out.2
              have hcz1 := hcz.1
              have hcz2 := hcz.2
              clear hcz
              have hput := row_put HR2.out HRL.out r (pv)
              have HPUT : Aside0 ((Kd.int .i64).R 2 (W.setCell ⟨g, r.toNat, none⟩ (.int .i64 (pv))) (w.heap.size + 1) (fun k => k = g) (.slice (some ⟨g, 0, none⟩) m cap) (regs.set r.toNat (pv))) := ⟨hput⟩
              have HW3 : Aside0 ((Kd.int .i64).R 2 (W.setCell ⟨g, r.toNat, none⟩ (.int .i64 (pv))) (w.heap.size + 1) (fun k => k ≠ g) (.slice AW i.toNat cW) wl) := ⟨Kd.R_far (p := ⟨g, r.toNat, none⟩) HW2.out (fun k hk => hk) _⟩
              clear hput HR2 HW2
              have HB3 : Aside0 (Below (w.heap.size + 1) wo (W.setCell ⟨g, r.toNat, none⟩ (.int .i64 (pv)))) := ⟨(below_base HBW.out (blk_lt K2.out)).setCell HG.out _⟩
              have HS3 : Aside0 (wo.heap.size ≤ (W.setCell ⟨g, r.toNat, none⟩ (.int .i64 (pv))).heap.size) := ⟨HB3.out.size⟩
              have p0 : (0 ≤ r) = True := eq_true HTO2.out.1
              have p1 : (r < (m : Int)) = True := eq_true HTO2.out.2
              go_upto_region 28 with (fail)
              refine wp_forget (fun W' => (Kd.int .i64).R 2 W' (w.heap.size + 1) (fun k => k = g) (.slice (some ⟨g, 0, none⟩) m cap) (regs.set r.toNat (pv)) ∧ (Kd.int .i64).R 2 W' (w.heap.size + 1) (fun k => k ≠ g) (.slice AW i.toNat cW) wl ∧ Below (w.heap.size + 1) wo W' ∧ wo.heap.size ≤ W'.heap.size) ⟨HPUT.out, HW3.out, HB3.out, HS3.out⟩ ?_
              clear hcz1 hcz2 HPUT HW3 HB3 HS3
              rintro W2 ⟨hput, hw3, hb3, hs3⟩
              have HPUT := Aside0.mk hput; have HW3 := Aside0.mk hw3; have HB3 := Aside0.mk hb3; have HS3 := Aside0.mk hs3
              clear hput hw3 hb3 hs3
              have hfr : ∀ k, W2.heap.size ≤ k → k ≠ g := fun k hk => by have h1 := HS3.out; have h2 := HGS.out; omega
              have HFR := Aside0.mk hfr; clear hfr
              have hln : (wl.length + 1) * 8 ≤ 140737488355328 := by have h1 := HWN.out; have h2 := R3.out; have h3 := HI.out; omega
              have HLN := Aside0.mk hln; clear hln
              have HSZ : Aside0 (w.heap.size + 1 ≤ W2.heap.size) := ⟨Nat.le_trans (blk_lt K2.out) HS3.out⟩
              go_wp2_with (first | ((with_reducible refine gate_builtin (b := .append) (xs := #[.tmp 78, .tmp 80]) rfl ?_); at_builtin; refine Kd.R_append (Kd.int .i64) (w0 := wo) (w.heap.size + 1) rfl (.tmp 78) (.tmp 80) 43 2 (.int .i64 0) 8 rfl Tryd.underlying43 info2 rfl (by decide) (by omega) (.slice AW i.toNat cW) wl (pv) [.int .i64 (pv)] (fun k => k ≠ g) (fun _ => False) rfl rfl rfl (fun _ h => h.elim) HFR.out HW3.out HB3.out HSZ.out HLN.out ?_; intro v81 w81 ho81 hb81 hg81 hat81; clear hat81; have HO81 := Aside0.mk ho81; have HB81 := Aside0.mk hb81; have HG81 := Aside0.mk hg81; clear ho81 hb81 hg81))
              have HR9 : Aside0 ((Kd.int .i64).R 2 w81 (w.heap.size + 1) (fun k => k = g) (.slice (some ⟨g, 0, none⟩) m cap) (regs.set r.toNat (pv))) := ⟨Kd.R_grown HPUT.out HG81.out (fun k hk e => HW3.out.1 k e.symm hk)⟩
              have hw : wrap64 (i + 1) = i + 1 := by unfold wrap64; have := HI.out; have := R3.out; omega
              refine ⟨⟨i + 1, ys.set r.toNat true, regs.set r.toNat (pv), wl ++ [pv], rfl, by rw [hw], by have := HI.out; omega, by have := HI.out; omega, ⟨(HB81.out.block _ (by omega)).trans K2.out⟩, HR9, ⟨by rw [List.length_set]; exact HRL.out⟩, HO81, ⟨by rw [List.length_append, List.length_singleton]; have := HWL.out; omega⟩, ⟨by rw [List.length_set]; exact HYL.out⟩, HK3, ⟨by rw [← HST.out]; exact HE.out⟩, ⟨HB.out.trans (below_base HB81.out (by omega))⟩⟩, ?_⟩
              rw [hw]
              have := HI.out
              simp [intOf]
              omega
            · have f1 : (pe != 0) = true := by simp [hpe]
              have HTR : Aside0 (runL bs xs (List.replicate m 0) [] = none) := ⟨by rw [← HE.out, HST0]; exact if_neg hpe⟩
              clear HST0 hst
              have HPE := Lib.hid hpe; clear hpe
              go_wp2_with fail
              go_ret3
              exact ⟨HB.out.trans (below_base HBD4.out HB.out.size), .inl ⟨HTR.out, rfl⟩⟩
      | other => exact absurd HOK.out Bool.false_ne_true
    · have b7 : decide (i < (xs.length : Int)) = false := decide_eq_false h2
      have hfin : runL bs xs (List.replicate m 0) [] = some (wl, regs) := by rw [← HE.out, List.drop_of_length_le (by omega)]; rfl
      have HFIN := Aside0.mk hfin; clear hfin
      have HI := Lib.hid h2; clear h2
      go_wp2_with fail
      go_ret3
      exact ⟨HB.out, .inr ⟨wl, regs, HFIN.out, _, _, rfl, HRL.out, Kd.R_mono (Kd.R_lower HW.out (by omega)) (fun _ _ => trivial), Kd.R_mono (Kd.R_lower HR.out (by omega)) (fun _ _ => trivial)⟩⟩
end Go.Proofs.YtbbembhfnapadaaDoor
