/- The walk of Numbers. -/
import Derived.Test.YtbbembhfnapadaaDoorVmP
namespace Go.Proofs.YtbbembhfnapadaaDoor
open Go.RowKit Go.Proofs.YtbbembhfnapadaaDoorW.PrintWords Go.Proofs.YtbbembhfnapadaaDoorW.PrintLast Go.Proofs.YtbbembhfnapadaaDoorW.PrintMore PVmPlays Pl
set_option linter.unusedVariables false
set_option linter.unusedSimpArgs false

/-- An instruction told by numbers. -/
def numIns : Ins → S37
  | .lit r n => ⟨1, r, 0, n, ⟨#[]⟩, []⟩
  | .var r s => ⟨2, r, 0, 0, s, []⟩
  | .dox r op args => ⟨3, r, op, 0, ⟨#[]⟩, args⟩
  | .other => ⟨0, 0, 0, 0, ⟨#[]⟩, []⟩
theorem nilC (w : World) : (Kd.int .i64).C w none 0 [] := ⟨rfl, Nat.zero_le _, fun h => absurd h (Nat.lt_irrefl _)⟩
/-- What is known of a row's elements holds in any later world. -/
theorem kF_C {w0 w : World} {A : Option Addr} {n : Nat} {xs : List S37} (h : (kF w0).C w A n xs) (hb : Below w0.heap.size w0 w) : k37.C w A n xs := ReadsRow.imp_ h (Below.refl _ _) (fun _ _ hp => k37.K_below hb hp)

set_option maxRecDepth 20000 in
set_option maxHeartbeats 1000000 in
theorem numbers_calls (xs : List Ins) (A : Option Addr) (c : Nat) (regs out : Int) (w : World) (hl : xs.length ≤ c) (hX : kI.C w A xs.length xs) (hs : xs.length * 72 ≤ 140737488351232) :
    Calls Tryd.prog 18 #[.agg #[.slice A xs.length c, .int .i64 regs, .int .i64 out]] w fun e w' => ∃ v, e = .returned (.agg #[v, .int .i64 regs, .int .i64 out]) ∧ (kF w).R 37 w' w.heap.size (fun _ => True) v (xs.map numIns) ∧ Below w.heap.size w w' := by
  have HX := Aside0.mk hX; clear hX
  have hu37 := Tryd.underlying37
  have hu32 := Tryd.underlying32
  have hu24 := Tryd.underlying24
  go_enter Tryd.func18, Tryd.ntmps18
  go_wp2_with fail
  go_loopw [4, 5, 6, 7, 8] (fun v4 _ _ _ _ w' => ∃ (i : Int) (V : Value), v4 = .int .i64 i ∧ 0 ≤ i ∧ i ≤ xs.length ∧ Aside0 (w'.heap[w.heap.size]? = some (.cells #[.slice A xs.length c, .int .i64 regs, .int .i64 out] 32 (0, 0))) ∧ Aside0 (w'.heap[w.heap.size + 1]? = some (.cells #[.slice none 0 0, .int .i64 0, .int .i64 0] 24 (0, 0))) ∧ Aside0 (w'.heap[w.heap.size + 2]? = some (.cells #[V, .int .i64 regs, .int .i64 out] 24 (0, 0))) ∧ Aside0 ((kF w).R 37 w' (w.heap.size + 3) (fun _ => True) V ((xs.take i.toNat).map numIns)) ∧ Aside0 (Below w.heap.size w w')) (fun v4 _ _ _ _ _ => xs.length - (intOf v4).toNat)
  case atStart =>
    refine ⟨0, .slice none 0 0, rfl, Int.le_refl _, by omega, ⟨?_⟩, ⟨?_⟩, ⟨?_⟩, ⟨Kd.R_nil _ _ _ _ _⟩, ⟨?_⟩⟩
    · exact blk_alloc (blk_alloc (blk_new w _) _) _
    · exact blk_alloc (blk_new1 w _ _) _
    · exact blk_new2 w _ _ _
    · exact below_alloc (below_alloc (below_alloc (Below.refl _ _) _) _) _
  case round =>
    obtain ⟨i, V, rfl, h0, h1, K1, K2, K3, HV, HB⟩ := hrel
    obtain ⟨AV, cV, hV⟩ := Kd.R_slice HV.out
    have hlen : ((xs.take i.toNat).map numIns).length = i.toNat := by rw [List.length_map, List.length_take]; omega
    rw [hlen] at hV
    subst hV
    have HLEN := Aside0.mk hlen; clear hlen
    obtain ⟨wo, rfl⟩ : ∃ wo : World, wo = wr := ⟨_, rfl⟩
    have c10 : wo.cell? ⟨w.heap.size, 0, none⟩ = some (.slice A xs.length c) := (blk_cell K1.out 0).trans rfl
    have c30 : wo.cell? ⟨w.heap.size + 2, 0, none⟩ = some (.slice AV i.toNat cV) := (blk_cell K3.out 0).trans rfl
    have c31 : wo.cell? ⟨w.heap.size + 2, 1, none⟩ = some (.int .i64 regs) := (blk_cell K3.out 1).trans rfl
    have c32 : wo.cell? ⟨w.heap.size + 2, 2, none⟩ = some (.int .i64 out) := (blk_cell K3.out 2).trans rfl
    have c20 : wo.cell? ⟨w.heap.size + 1, 0, none⟩ = some (.slice none 0 0) := (blk_cell K2.out 0).trans rfl
    have c21 : wo.cell? ⟨w.heap.size + 1, 1, none⟩ = some (.int .i64 0) := (blk_cell K2.out 1).trans rfl
    have c22 : wo.cell? ⟨w.heap.size + 1, 2, none⟩ = some (.int .i64 0) := (blk_cell K2.out 2).trans rfl
    have C30 := Aside0.mk c30
    have z20 := blk_frozen K2.out 0
    have z21 := blk_frozen K2.out 1
    have z22 := blk_frozen K2.out 2
    have lt3 : w.heap.size + 2 < wo.heap.size := blk_lt K3.out
    have LT3 := Lib.hid lt3; clear lt3
    by_cases h2 : i < xs.length
    · have b2 : decide (i < (xs.length : Int)) = true := decide_eq_true h2
      obtain ⟨ad, v, eA, e0, hK⟩ := ins_at HX.out i h0 h2
      cases eA
      replace e0 := pw_cell_below HB.out e0
      have hmap : (xs.take i.toNat).map numIns ++ [numIns (rdIns xs i)] = (xs.take (i + 1).toNat).map numIns := take_step numIns xs zIns i h0 h2
      have HMAP := Aside0.mk hmap; clear hmap
      have HI := Aside0.mk (show 0 ≤ i ∧ i < xs.length from ⟨h0, h2⟩)
      generalize rdIns xs i = x at *
      replace h0 := eq_true h0
      replace h2 := eq_true h2
      go_upto_region 6 with (fail)
      refine wp_forget (fun W' => Below wo.heap.size wo W' ∧ W'.heap[wo.heap.size]? = some (.cells #[.int .i64 0, .int .i64 0, .int .i64 0, .int .i64 0, .string ⟨#[]⟩, .slice none 0 0] 37 (0, 0)) ∧ wo.heap.size < W'.heap.size) ⟨below_alloc (Below.refl _ _) _, blk_new _ _, blk_lt (blk_new _ _)⟩ ?_
      rintro WA ⟨hba, hka, hlt⟩
      have HBA := Aside0.mk hba; have HKA := Aside0.mk hka; have HLT := Aside0.mk hlt
      replace c10 := pw_cell_below hba c10
      replace c30 := pw_cell_below hba c30
      replace c31 := pw_cell_below hba c31
      replace c32 := pw_cell_below hba c32
      replace c20 := pw_cell_below hba c20
      replace c21 := pw_cell_below hba c21
      replace c22 := pw_cell_below hba c22
      replace e0 := pw_cell_below hba e0
      clear hba hka
      have d0 : WA.cell? ⟨wo.heap.size, 0, none⟩ = some (.int .i64 0) := (blk_cell HKA.out 0).trans rfl
      have y0 := blk_frozen HKA.out 0
      have d1 : WA.cell? ⟨wo.heap.size, 1, none⟩ = some (.int .i64 0) := (blk_cell HKA.out 1).trans rfl
      have y1 := blk_frozen HKA.out 1
      have d2 : WA.cell? ⟨wo.heap.size, 2, none⟩ = some (.int .i64 0) := (blk_cell HKA.out 2).trans rfl
      have y2 := blk_frozen HKA.out 2
      have d3 : WA.cell? ⟨wo.heap.size, 3, none⟩ = some (.int .i64 0) := (blk_cell HKA.out 3).trans rfl
      have y3 := blk_frozen HKA.out 3
      have d4 : WA.cell? ⟨wo.heap.size, 4, none⟩ = some (.string ⟨#[]⟩) := (blk_cell HKA.out 4).trans rfl
      have y4 := blk_frozen HKA.out 4
      have d5 : WA.cell? ⟨wo.heap.size, 5, none⟩ = some (.slice none 0 0) := (blk_cell HKA.out 5).trans rfl
      have y5 := blk_frozen HKA.out 5
      cases x with
      | lit r n =>
        obtain rfl : v = .iface 94 (.agg #[.int .i64 r, .int .i64 n]) := List.cons.inj hK |>.1
        have HK := Aside0.mk (show k37.K w (numIns (.lit r n)) [.int .i64 1, .int .i64 r, .int .i64 0, .int .i64 n, .string ⟨#[]⟩, .slice none 0 0] from k37_mk w (numIns (.lit r n)) (Nat.le_refl _) (nilC w)); clear hK
        have h_ta94_94 := fun v W => ta94_94 v W
        go_upto_region 16 with (fail)
        refine wp_forget (fun W' => Below wo.heap.size wo W' ∧ W'.heap[wo.heap.size]? = some (.cells #[.int .i64 1, .int .i64 r, .int .i64 0, .int .i64 n, .string ⟨#[]⟩, .slice none 0 0] 37 (0, 0)) ∧ wo.heap.size < W'.heap.size) ⟨(below_alloc (below_set (below_set (below_set (below_set (below_set (below_set HBA.out (Nat.le_refl _)) (Nat.le_refl _)) (Nat.le_refl _)) (Nat.le_refl _)) (Nat.le_refl _)) (Nat.le_refl _)) _), (blk_alloc (blk_put (blk_put (blk_put (blk_put (blk_put (blk_put HKA.out 0 _ rfl) 1 _ rfl) 2 _ rfl) 3 _ rfl) 4 _ rfl) 5 _ rfl) _), blk_lt (blk_alloc (blk_put (blk_put (blk_put (blk_put (blk_put (blk_put HKA.out 0 _ rfl) 1 _ rfl) 2 _ rfl) 3 _ rfl) 4 _ rfl) 5 _ rfl) _)⟩ ?_
        rintro W ⟨hbW, hkW, hlW⟩
        have HBW := Aside0.mk hbW; have HKW := Aside0.mk hkW; have HLW := Aside0.mk hlW
        clear hbW hkW hlW hlt c10 c30 c31 c32 c20 c21 c22 e0
        clear d0 d1 d2 d3 d4 d5 y0 y1 y2 y3 y4 y5
        have d0 : W.cell? ⟨wo.heap.size, 0, none⟩ = some (.int .i64 1) := (blk_cell HKW.out 0).trans rfl
        have d1 : W.cell? ⟨wo.heap.size, 1, none⟩ = some (.int .i64 r) := (blk_cell HKW.out 1).trans rfl
        have d2 : W.cell? ⟨wo.heap.size, 2, none⟩ = some (.int .i64 0) := (blk_cell HKW.out 2).trans rfl
        have d3 : W.cell? ⟨wo.heap.size, 3, none⟩ = some (.int .i64 n) := (blk_cell HKW.out 3).trans rfl
        have d4 : W.cell? ⟨wo.heap.size, 4, none⟩ = some (.string ⟨#[]⟩) := (blk_cell HKW.out 4).trans rfl
        have d5 : W.cell? ⟨wo.heap.size, 5, none⟩ = some (.slice none 0 0) := (blk_cell HKW.out 5).trans rfl
        have c30 : W.cell? ⟨w.heap.size + 2, 0, none⟩ = some (.slice AV i.toNat cV) := pw_cell_below HBW.out C30.out
        have hv1 := Aside0.mk (Kd.R_below HV.out HBW.out)
        have hln : (((xs.take i.toNat).map numIns).length + 1) * 72 ≤ 140737488355328 := by rw [HLEN.out]; have := HI.out; omega
        have HLN := Aside0.mk hln; clear hln
        have HSW : Aside0 (w.heap.size + 3 ≤ W.heap.size) := ⟨by have h1 := HLW.out; have h2 := LT3.out; omega⟩
        have HBB : Aside0 (Below (w.heap.size + 3) wo W) := ⟨below_base HBW.out (by have := LT3.out; omega)⟩
        go_wp2_with (first | ((with_reducible refine gate_builtin (b := .append) (xs := #[.tmp 54, .tmp 56]) rfl ?_); at_builtin; refine Kd.R_append (kF w) (w0 := wo) (w.heap.size + 3) rfl (.tmp 54) (.tmp 56) 22 37 (.agg #[.int .i64 0, .int .i64 0, .int .i64 0, .int .i64 0, .string ⟨#[]⟩, .slice none 0 0]) 72 rfl Tryd.underlying22 info37 rfl (show 0 < 6 by decide) (by omega) (.slice AV i.toNat cV) ((xs.take i.toNat).map numIns) (numIns (.lit r n)) [.int .i64 1, .int .i64 r, .int .i64 0, .int .i64 n, .string ⟨#[]⟩, .slice none 0 0] (fun _ => True) (fun _ => False) (by first | rfl | (rw [HLEN.out]; rfl)) (by rfl) HK.out (fun _ h => h.elim) (fun _ _ => trivial) hv1.out HBB.out HSW.out HLN.out ?_; intro v57 w57 ho57 hb57 hg57 hat57; clear hat57 hg57; obtain ⟨A9, c9, hv9⟩ := Kd.R_slice ho57; rw [List.length_append, HLEN.out, List.length_singleton] at hv9; subst hv9; have K39 := Aside0.mk ((hb57.block (w.heap.size + 2) (Nat.lt_succ_self _)).trans K3.out); have c39 : w57.cell? ⟨w.heap.size + 2, 0, none⟩ = some (.slice AV i.toNat cV) := (blk_cell K39.out 0).trans rfl; have z39 := blk_frozen K39.out 0; have HO57 := Aside0.mk ho57; have HB57 := Aside0.mk hb57; clear ho57 hb57))
        have hw : wrap64 (i + 1) = i + 1 := by unfold wrap64; have := HI.out; omega
        refine ⟨⟨i + 1, .slice A9 (i.toNat + 1) c9, by rw [hw], by have := HI.out; omega, by have := HI.out; omega, ⟨?_⟩, ⟨?_⟩, ⟨blk_put K39.out 0 _ rfl⟩, ⟨?_⟩, ⟨?_⟩⟩, ?_⟩
        · exact blk_far ((HB57.out.block _ (by omega)).trans K1.out) (show w.heap.size ≠ w.heap.size + 1 + 1 by omega) _
        · exact blk_far ((HB57.out.block _ (by omega)).trans K2.out) (show w.heap.size + 1 ≠ w.heap.size + 1 + 1 by omega) _
        · rw [← HMAP.out]
          exact R_set_old HO57.out _ (show w.heap.size + 1 + 1 < w.heap.size + 3 by omega) _
        · exact below_set (HB.out.trans (below_base HB57.out (by omega))) (by omega)
        · rw [hw]
          have := HI.out
          simp [intOf]
          omega
      | var r s =>
        obtain rfl : v = .iface 99 (.agg #[.int .i64 r, .string s]) := List.cons.inj hK |>.1
        have HK := Aside0.mk (show k37.K w (numIns (.var r s)) [.int .i64 2, .int .i64 r, .int .i64 0, .int .i64 0, .string s, .slice none 0 0] from k37_mk w (numIns (.var r s)) (Nat.le_refl _) (nilC w)); clear hK
        have h_ta99_94 := fun v W => ta99_94 v W
        have h_ta99_99 := fun v W => ta99_99 v W
        go_upto_region 16 with (fail)
        refine wp_forget (fun W' => Below wo.heap.size wo W' ∧ W'.heap[wo.heap.size]? = some (.cells #[.int .i64 2, .int .i64 r, .int .i64 0, .int .i64 0, .string s, .slice none 0 0] 37 (0, 0)) ∧ wo.heap.size < W'.heap.size) ⟨(below_alloc (below_set (below_set (below_set (below_set (below_set (below_set HBA.out (Nat.le_refl _)) (Nat.le_refl _)) (Nat.le_refl _)) (Nat.le_refl _)) (Nat.le_refl _)) (Nat.le_refl _)) _), (blk_alloc (blk_put (blk_put (blk_put (blk_put (blk_put (blk_put HKA.out 0 _ rfl) 1 _ rfl) 2 _ rfl) 3 _ rfl) 4 _ rfl) 5 _ rfl) _), blk_lt (blk_alloc (blk_put (blk_put (blk_put (blk_put (blk_put (blk_put HKA.out 0 _ rfl) 1 _ rfl) 2 _ rfl) 3 _ rfl) 4 _ rfl) 5 _ rfl) _)⟩ ?_
        rintro W ⟨hbW, hkW, hlW⟩
        have HBW := Aside0.mk hbW; have HKW := Aside0.mk hkW; have HLW := Aside0.mk hlW
        clear hbW hkW hlW hlt c10 c30 c31 c32 c20 c21 c22 e0
        clear d0 d1 d2 d3 d4 d5 y0 y1 y2 y3 y4 y5
        have d0 : W.cell? ⟨wo.heap.size, 0, none⟩ = some (.int .i64 2) := (blk_cell HKW.out 0).trans rfl
        have d1 : W.cell? ⟨wo.heap.size, 1, none⟩ = some (.int .i64 r) := (blk_cell HKW.out 1).trans rfl
        have d2 : W.cell? ⟨wo.heap.size, 2, none⟩ = some (.int .i64 0) := (blk_cell HKW.out 2).trans rfl
        have d3 : W.cell? ⟨wo.heap.size, 3, none⟩ = some (.int .i64 0) := (blk_cell HKW.out 3).trans rfl
        have d4 : W.cell? ⟨wo.heap.size, 4, none⟩ = some (.string s) := (blk_cell HKW.out 4).trans rfl
        have d5 : W.cell? ⟨wo.heap.size, 5, none⟩ = some (.slice none 0 0) := (blk_cell HKW.out 5).trans rfl
        have c30 : W.cell? ⟨w.heap.size + 2, 0, none⟩ = some (.slice AV i.toNat cV) := pw_cell_below HBW.out C30.out
        have hv1 := Aside0.mk (Kd.R_below HV.out HBW.out)
        have hln : (((xs.take i.toNat).map numIns).length + 1) * 72 ≤ 140737488355328 := by rw [HLEN.out]; have := HI.out; omega
        have HLN := Aside0.mk hln; clear hln
        have HSW : Aside0 (w.heap.size + 3 ≤ W.heap.size) := ⟨by have h1 := HLW.out; have h2 := LT3.out; omega⟩
        have HBB : Aside0 (Below (w.heap.size + 3) wo W) := ⟨below_base HBW.out (by have := LT3.out; omega)⟩
        go_wp2_with (first | ((with_reducible refine gate_builtin (b := .append) (xs := #[.tmp 54, .tmp 56]) rfl ?_); at_builtin; refine Kd.R_append (kF w) (w0 := wo) (w.heap.size + 3) rfl (.tmp 54) (.tmp 56) 22 37 (.agg #[.int .i64 0, .int .i64 0, .int .i64 0, .int .i64 0, .string ⟨#[]⟩, .slice none 0 0]) 72 rfl Tryd.underlying22 info37 rfl (show 0 < 6 by decide) (by omega) (.slice AV i.toNat cV) ((xs.take i.toNat).map numIns) (numIns (.var r s)) [.int .i64 2, .int .i64 r, .int .i64 0, .int .i64 0, .string s, .slice none 0 0] (fun _ => True) (fun _ => False) (by first | rfl | (rw [HLEN.out]; rfl)) (by rfl) HK.out (fun _ h => h.elim) (fun _ _ => trivial) hv1.out HBB.out HSW.out HLN.out ?_; intro v57 w57 ho57 hb57 hg57 hat57; clear hat57 hg57; obtain ⟨A9, c9, hv9⟩ := Kd.R_slice ho57; rw [List.length_append, HLEN.out, List.length_singleton] at hv9; subst hv9; have K39 := Aside0.mk ((hb57.block (w.heap.size + 2) (Nat.lt_succ_self _)).trans K3.out); have c39 : w57.cell? ⟨w.heap.size + 2, 0, none⟩ = some (.slice AV i.toNat cV) := (blk_cell K39.out 0).trans rfl; have z39 := blk_frozen K39.out 0; have HO57 := Aside0.mk ho57; have HB57 := Aside0.mk hb57; clear ho57 hb57))
        have hw : wrap64 (i + 1) = i + 1 := by unfold wrap64; have := HI.out; omega
        refine ⟨⟨i + 1, .slice A9 (i.toNat + 1) c9, by rw [hw], by have := HI.out; omega, by have := HI.out; omega, ⟨?_⟩, ⟨?_⟩, ⟨blk_put K39.out 0 _ rfl⟩, ⟨?_⟩, ⟨?_⟩⟩, ?_⟩
        · exact blk_far ((HB57.out.block _ (by omega)).trans K1.out) (show w.heap.size ≠ w.heap.size + 1 + 1 by omega) _
        · exact blk_far ((HB57.out.block _ (by omega)).trans K2.out) (show w.heap.size + 1 ≠ w.heap.size + 1 + 1 by omega) _
        · rw [← HMAP.out]
          exact R_set_old HO57.out _ (show w.heap.size + 1 + 1 < w.heap.size + 3 by omega) _
        · exact below_set (HB.out.trans (below_base HB57.out (by omega))) (by omega)
        · rw [hw]
          have := HI.out
          simp [intOf]
          omega
      | dox r op args =>
        obtain ⟨u, hu, hv⟩ := hK
        obtain rfl : v = .iface 87 (.agg #[.int .i64 r, .int .i64 op, u]) := List.cons.inj hv |>.1
        obtain ⟨X, dx, hv2, hdx, hXA⟩ := hu
        obtain rfl : u = .slice X args.length dx := List.cons.inj hv2 |>.1
        have hK := And.intro hdx hXA
        clear hv hv2 hdx hXA
        have HK := Aside0.mk (show k37.K w (numIns (.dox r op args)) [.int .i64 3, .int .i64 r, .int .i64 op, .int .i64 0, .string ⟨#[]⟩, .slice X args.length dx] from k37_mk w (numIns (.dox r op args)) hK.1 hK.2); clear hK
        have h_ta87_94 := fun v W => ta87_94 v W
        have h_ta87_99 := fun v W => ta87_99 v W
        have h_ta87_87 := fun v W => ta87_87 v W
        go_upto_region 16 with (fail)
        refine wp_forget (fun W' => Below wo.heap.size wo W' ∧ W'.heap[wo.heap.size]? = some (.cells #[.int .i64 3, .int .i64 r, .int .i64 op, .int .i64 0, .string ⟨#[]⟩, .slice X args.length dx] 37 (0, 0)) ∧ wo.heap.size < W'.heap.size) ⟨(below_alloc (below_set (below_set (below_set (below_set (below_set (below_set HBA.out (Nat.le_refl _)) (Nat.le_refl _)) (Nat.le_refl _)) (Nat.le_refl _)) (Nat.le_refl _)) (Nat.le_refl _)) _), (blk_alloc (blk_put (blk_put (blk_put (blk_put (blk_put (blk_put HKA.out 0 _ rfl) 1 _ rfl) 2 _ rfl) 3 _ rfl) 4 _ rfl) 5 _ rfl) _), blk_lt (blk_alloc (blk_put (blk_put (blk_put (blk_put (blk_put (blk_put HKA.out 0 _ rfl) 1 _ rfl) 2 _ rfl) 3 _ rfl) 4 _ rfl) 5 _ rfl) _)⟩ ?_
        rintro W ⟨hbW, hkW, hlW⟩
        have HBW := Aside0.mk hbW; have HKW := Aside0.mk hkW; have HLW := Aside0.mk hlW
        clear hbW hkW hlW hlt c10 c30 c31 c32 c20 c21 c22 e0
        clear d0 d1 d2 d3 d4 d5 y0 y1 y2 y3 y4 y5
        have d0 : W.cell? ⟨wo.heap.size, 0, none⟩ = some (.int .i64 3) := (blk_cell HKW.out 0).trans rfl
        have d1 : W.cell? ⟨wo.heap.size, 1, none⟩ = some (.int .i64 r) := (blk_cell HKW.out 1).trans rfl
        have d2 : W.cell? ⟨wo.heap.size, 2, none⟩ = some (.int .i64 op) := (blk_cell HKW.out 2).trans rfl
        have d3 : W.cell? ⟨wo.heap.size, 3, none⟩ = some (.int .i64 0) := (blk_cell HKW.out 3).trans rfl
        have d4 : W.cell? ⟨wo.heap.size, 4, none⟩ = some (.string ⟨#[]⟩) := (blk_cell HKW.out 4).trans rfl
        have d5 : W.cell? ⟨wo.heap.size, 5, none⟩ = some (.slice X args.length dx) := (blk_cell HKW.out 5).trans rfl
        have c30 : W.cell? ⟨w.heap.size + 2, 0, none⟩ = some (.slice AV i.toNat cV) := pw_cell_below HBW.out C30.out
        have hv1 := Aside0.mk (Kd.R_below HV.out HBW.out)
        have hln : (((xs.take i.toNat).map numIns).length + 1) * 72 ≤ 140737488355328 := by rw [HLEN.out]; have := HI.out; omega
        have HLN := Aside0.mk hln; clear hln
        have HSW : Aside0 (w.heap.size + 3 ≤ W.heap.size) := ⟨by have h1 := HLW.out; have h2 := LT3.out; omega⟩
        have HBB : Aside0 (Below (w.heap.size + 3) wo W) := ⟨below_base HBW.out (by have := LT3.out; omega)⟩
        go_wp2_with (first | ((with_reducible refine gate_builtin (b := .append) (xs := #[.tmp 54, .tmp 56]) rfl ?_); at_builtin; refine Kd.R_append (kF w) (w0 := wo) (w.heap.size + 3) rfl (.tmp 54) (.tmp 56) 22 37 (.agg #[.int .i64 0, .int .i64 0, .int .i64 0, .int .i64 0, .string ⟨#[]⟩, .slice none 0 0]) 72 rfl Tryd.underlying22 info37 rfl (show 0 < 6 by decide) (by omega) (.slice AV i.toNat cV) ((xs.take i.toNat).map numIns) (numIns (.dox r op args)) [.int .i64 3, .int .i64 r, .int .i64 op, .int .i64 0, .string ⟨#[]⟩, .slice X args.length dx] (fun _ => True) (fun _ => False) (by first | rfl | (rw [HLEN.out]; rfl)) (by rfl) HK.out (fun _ h => h.elim) (fun _ _ => trivial) hv1.out HBB.out HSW.out HLN.out ?_; intro v57 w57 ho57 hb57 hg57 hat57; clear hat57 hg57; obtain ⟨A9, c9, hv9⟩ := Kd.R_slice ho57; rw [List.length_append, HLEN.out, List.length_singleton] at hv9; subst hv9; have K39 := Aside0.mk ((hb57.block (w.heap.size + 2) (Nat.lt_succ_self _)).trans K3.out); have c39 : w57.cell? ⟨w.heap.size + 2, 0, none⟩ = some (.slice AV i.toNat cV) := (blk_cell K39.out 0).trans rfl; have z39 := blk_frozen K39.out 0; have HO57 := Aside0.mk ho57; have HB57 := Aside0.mk hb57; clear ho57 hb57))
        have hw : wrap64 (i + 1) = i + 1 := by unfold wrap64; have := HI.out; omega
        refine ⟨⟨i + 1, .slice A9 (i.toNat + 1) c9, by rw [hw], by have := HI.out; omega, by have := HI.out; omega, ⟨?_⟩, ⟨?_⟩, ⟨blk_put K39.out 0 _ rfl⟩, ⟨?_⟩, ⟨?_⟩⟩, ?_⟩
        · exact blk_far ((HB57.out.block _ (by omega)).trans K1.out) (show w.heap.size ≠ w.heap.size + 1 + 1 by omega) _
        · exact blk_far ((HB57.out.block _ (by omega)).trans K2.out) (show w.heap.size + 1 ≠ w.heap.size + 1 + 1 by omega) _
        · rw [← HMAP.out]
          exact R_set_old HO57.out _ (show w.heap.size + 1 + 1 < w.heap.size + 3 by omega) _
        · exact below_set (HB.out.trans (below_base HB57.out (by omega))) (by omega)
        · rw [hw]
          have := HI.out
          simp [intOf]
          omega
      | other =>
        rcases hK with hK | ⟨a, hK⟩ | hK
        · obtain rfl : v = .nilIface := List.cons.inj hK |>.1
          have h_ta0_94 := fun W => ta0_94 (.bool true) W
          have h_ta0_99 := fun W => ta0_99 (.bool true) W
          have h_ta0_87 := fun W => ta0_87 (.bool true) W
          have HK := Aside0.mk (show k37.K w (numIns (.other)) [.int .i64 0, .int .i64 0, .int .i64 0, .int .i64 0, .string ⟨#[]⟩, .slice none 0 0] from k37_mk w (numIns .other) (Nat.le_refl _) (nilC w)); clear hK
          go_upto_region 16 with (fail)
          refine wp_forget (fun W' => Below wo.heap.size wo W' ∧ W'.heap[wo.heap.size]? = some (.cells #[.int .i64 0, .int .i64 0, .int .i64 0, .int .i64 0, .string ⟨#[]⟩, .slice none 0 0] 37 (0, 0)) ∧ wo.heap.size < W'.heap.size) ⟨HBA.out, HKA.out, blk_lt HKA.out⟩ ?_
          rintro W ⟨hbW, hkW, hlW⟩
          have HBW := Aside0.mk hbW; have HKW := Aside0.mk hkW; have HLW := Aside0.mk hlW
          clear hbW hkW hlW hlt c10 c30 c31 c32 c20 c21 c22 e0
          clear d0 d1 d2 d3 d4 d5 y0 y1 y2 y3 y4 y5
          have d0 : W.cell? ⟨wo.heap.size, 0, none⟩ = some (.int .i64 0) := (blk_cell HKW.out 0).trans rfl
          have d1 : W.cell? ⟨wo.heap.size, 1, none⟩ = some (.int .i64 0) := (blk_cell HKW.out 1).trans rfl
          have d2 : W.cell? ⟨wo.heap.size, 2, none⟩ = some (.int .i64 0) := (blk_cell HKW.out 2).trans rfl
          have d3 : W.cell? ⟨wo.heap.size, 3, none⟩ = some (.int .i64 0) := (blk_cell HKW.out 3).trans rfl
          have d4 : W.cell? ⟨wo.heap.size, 4, none⟩ = some (.string ⟨#[]⟩) := (blk_cell HKW.out 4).trans rfl
          have d5 : W.cell? ⟨wo.heap.size, 5, none⟩ = some (.slice none 0 0) := (blk_cell HKW.out 5).trans rfl
          have c30 : W.cell? ⟨w.heap.size + 2, 0, none⟩ = some (.slice AV i.toNat cV) := pw_cell_below HBW.out C30.out
          have hv1 := Aside0.mk (Kd.R_below HV.out HBW.out)
          have hln : (((xs.take i.toNat).map numIns).length + 1) * 72 ≤ 140737488355328 := by rw [HLEN.out]; have := HI.out; omega
          have HLN := Aside0.mk hln; clear hln
          have HSW : Aside0 (w.heap.size + 3 ≤ W.heap.size) := ⟨by have h1 := HLW.out; have h2 := LT3.out; omega⟩
          have HBB : Aside0 (Below (w.heap.size + 3) wo W) := ⟨below_base HBW.out (by have := LT3.out; omega)⟩
          go_wp2_with (first | ((with_reducible refine gate_builtin (b := .append) (xs := #[.tmp 54, .tmp 56]) rfl ?_); at_builtin; refine Kd.R_append (kF w) (w0 := wo) (w.heap.size + 3) rfl (.tmp 54) (.tmp 56) 22 37 (.agg #[.int .i64 0, .int .i64 0, .int .i64 0, .int .i64 0, .string ⟨#[]⟩, .slice none 0 0]) 72 rfl Tryd.underlying22 info37 rfl (show 0 < 6 by decide) (by omega) (.slice AV i.toNat cV) ((xs.take i.toNat).map numIns) (numIns (.other)) [.int .i64 0, .int .i64 0, .int .i64 0, .int .i64 0, .string ⟨#[]⟩, .slice none 0 0] (fun _ => True) (fun _ => False) (by first | rfl | (rw [HLEN.out]; rfl)) (by rfl) HK.out (fun _ h => h.elim) (fun _ _ => trivial) hv1.out HBB.out HSW.out HLN.out ?_; intro v57 w57 ho57 hb57 hg57 hat57; clear hat57 hg57; obtain ⟨A9, c9, hv9⟩ := Kd.R_slice ho57; rw [List.length_append, HLEN.out, List.length_singleton] at hv9; subst hv9; have K39 := Aside0.mk ((hb57.block (w.heap.size + 2) (Nat.lt_succ_self _)).trans K3.out); have c39 : w57.cell? ⟨w.heap.size + 2, 0, none⟩ = some (.slice AV i.toNat cV) := (blk_cell K39.out 0).trans rfl; have z39 := blk_frozen K39.out 0; have HO57 := Aside0.mk ho57; have HB57 := Aside0.mk hb57; clear ho57 hb57))
          have hw : wrap64 (i + 1) = i + 1 := by unfold wrap64; have := HI.out; omega
          refine ⟨⟨i + 1, .slice A9 (i.toNat + 1) c9, by rw [hw], by have := HI.out; omega, by have := HI.out; omega, ⟨?_⟩, ⟨?_⟩, ⟨blk_put K39.out 0 _ rfl⟩, ⟨?_⟩, ⟨?_⟩⟩, ?_⟩
          · exact blk_far ((HB57.out.block _ (by omega)).trans K1.out) (show w.heap.size ≠ w.heap.size + 1 + 1 by omega) _
          · exact blk_far ((HB57.out.block _ (by omega)).trans K2.out) (show w.heap.size + 1 ≠ w.heap.size + 1 + 1 by omega) _
          · rw [← HMAP.out]
            exact R_set_old HO57.out _ (show w.heap.size + 1 + 1 < w.heap.size + 3 by omega) _
          · exact below_set (HB.out.trans (below_base HB57.out (by omega))) (by omega)
          · rw [hw]
            have := HI.out
            simp [intOf]
            omega
        · obtain rfl : v = .iface 158 a := List.cons.inj hK |>.1
          have h_ta158_94 := fun v W => ta158_94 v W
          have h_ta158_99 := fun v W => ta158_99 v W
          have h_ta158_87 := fun v W => ta158_87 v W
          have HK := Aside0.mk (show k37.K w (numIns (.other)) [.int .i64 0, .int .i64 0, .int .i64 0, .int .i64 0, .string ⟨#[]⟩, .slice none 0 0] from k37_mk w (numIns .other) (Nat.le_refl _) (nilC w)); clear hK
          go_upto_region 16 with (fail)
          refine wp_forget (fun W' => Below wo.heap.size wo W' ∧ W'.heap[wo.heap.size]? = some (.cells #[.int .i64 0, .int .i64 0, .int .i64 0, .int .i64 0, .string ⟨#[]⟩, .slice none 0 0] 37 (0, 0)) ∧ wo.heap.size < W'.heap.size) ⟨HBA.out, HKA.out, blk_lt HKA.out⟩ ?_
          rintro W ⟨hbW, hkW, hlW⟩
          have HBW := Aside0.mk hbW; have HKW := Aside0.mk hkW; have HLW := Aside0.mk hlW
          clear hbW hkW hlW hlt c10 c30 c31 c32 c20 c21 c22 e0
          clear d0 d1 d2 d3 d4 d5 y0 y1 y2 y3 y4 y5
          have d0 : W.cell? ⟨wo.heap.size, 0, none⟩ = some (.int .i64 0) := (blk_cell HKW.out 0).trans rfl
          have d1 : W.cell? ⟨wo.heap.size, 1, none⟩ = some (.int .i64 0) := (blk_cell HKW.out 1).trans rfl
          have d2 : W.cell? ⟨wo.heap.size, 2, none⟩ = some (.int .i64 0) := (blk_cell HKW.out 2).trans rfl
          have d3 : W.cell? ⟨wo.heap.size, 3, none⟩ = some (.int .i64 0) := (blk_cell HKW.out 3).trans rfl
          have d4 : W.cell? ⟨wo.heap.size, 4, none⟩ = some (.string ⟨#[]⟩) := (blk_cell HKW.out 4).trans rfl
          have d5 : W.cell? ⟨wo.heap.size, 5, none⟩ = some (.slice none 0 0) := (blk_cell HKW.out 5).trans rfl
          have c30 : W.cell? ⟨w.heap.size + 2, 0, none⟩ = some (.slice AV i.toNat cV) := pw_cell_below HBW.out C30.out
          have hv1 := Aside0.mk (Kd.R_below HV.out HBW.out)
          have hln : (((xs.take i.toNat).map numIns).length + 1) * 72 ≤ 140737488355328 := by rw [HLEN.out]; have := HI.out; omega
          have HLN := Aside0.mk hln; clear hln
          have HSW : Aside0 (w.heap.size + 3 ≤ W.heap.size) := ⟨by have h1 := HLW.out; have h2 := LT3.out; omega⟩
          have HBB : Aside0 (Below (w.heap.size + 3) wo W) := ⟨below_base HBW.out (by have := LT3.out; omega)⟩
          go_wp2_with (first | ((with_reducible refine gate_builtin (b := .append) (xs := #[.tmp 54, .tmp 56]) rfl ?_); at_builtin; refine Kd.R_append (kF w) (w0 := wo) (w.heap.size + 3) rfl (.tmp 54) (.tmp 56) 22 37 (.agg #[.int .i64 0, .int .i64 0, .int .i64 0, .int .i64 0, .string ⟨#[]⟩, .slice none 0 0]) 72 rfl Tryd.underlying22 info37 rfl (show 0 < 6 by decide) (by omega) (.slice AV i.toNat cV) ((xs.take i.toNat).map numIns) (numIns (.other)) [.int .i64 0, .int .i64 0, .int .i64 0, .int .i64 0, .string ⟨#[]⟩, .slice none 0 0] (fun _ => True) (fun _ => False) (by first | rfl | (rw [HLEN.out]; rfl)) (by rfl) HK.out (fun _ h => h.elim) (fun _ _ => trivial) hv1.out HBB.out HSW.out HLN.out ?_; intro v57 w57 ho57 hb57 hg57 hat57; clear hat57 hg57; obtain ⟨A9, c9, hv9⟩ := Kd.R_slice ho57; rw [List.length_append, HLEN.out, List.length_singleton] at hv9; subst hv9; have K39 := Aside0.mk ((hb57.block (w.heap.size + 2) (Nat.lt_succ_self _)).trans K3.out); have c39 : w57.cell? ⟨w.heap.size + 2, 0, none⟩ = some (.slice AV i.toNat cV) := (blk_cell K39.out 0).trans rfl; have z39 := blk_frozen K39.out 0; have HO57 := Aside0.mk ho57; have HB57 := Aside0.mk hb57; clear ho57 hb57))
          have hw : wrap64 (i + 1) = i + 1 := by unfold wrap64; have := HI.out; omega
          refine ⟨⟨i + 1, .slice A9 (i.toNat + 1) c9, by rw [hw], by have := HI.out; omega, by have := HI.out; omega, ⟨?_⟩, ⟨?_⟩, ⟨blk_put K39.out 0 _ rfl⟩, ⟨?_⟩, ⟨?_⟩⟩, ?_⟩
          · exact blk_far ((HB57.out.block _ (by omega)).trans K1.out) (show w.heap.size ≠ w.heap.size + 1 + 1 by omega) _
          · exact blk_far ((HB57.out.block _ (by omega)).trans K2.out) (show w.heap.size + 1 ≠ w.heap.size + 1 + 1 by omega) _
          · rw [← HMAP.out]
            exact R_set_old HO57.out _ (show w.heap.size + 1 + 1 < w.heap.size + 3 by omega) _
          · exact below_set (HB.out.trans (below_base HB57.out (by omega))) (by omega)
          · rw [hw]
            have := HI.out
            simp [intOf]
            omega
        · obtain rfl : v = .iface 160 (.agg #[]) := List.cons.inj hK |>.1
          have h_ta160_94 := fun v W => ta160_94 v W
          have h_ta160_99 := fun v W => ta160_99 v W
          have h_ta160_87 := fun v W => ta160_87 v W
          have HK := Aside0.mk (show k37.K w (numIns (.other)) [.int .i64 0, .int .i64 0, .int .i64 0, .int .i64 0, .string ⟨#[]⟩, .slice none 0 0] from k37_mk w (numIns .other) (Nat.le_refl _) (nilC w)); clear hK
          go_upto_region 16 with (fail)
          refine wp_forget (fun W' => Below wo.heap.size wo W' ∧ W'.heap[wo.heap.size]? = some (.cells #[.int .i64 0, .int .i64 0, .int .i64 0, .int .i64 0, .string ⟨#[]⟩, .slice none 0 0] 37 (0, 0)) ∧ wo.heap.size < W'.heap.size) ⟨HBA.out, HKA.out, blk_lt HKA.out⟩ ?_
          rintro W ⟨hbW, hkW, hlW⟩
          have HBW := Aside0.mk hbW; have HKW := Aside0.mk hkW; have HLW := Aside0.mk hlW
          clear hbW hkW hlW hlt c10 c30 c31 c32 c20 c21 c22 e0
          clear d0 d1 d2 d3 d4 d5 y0 y1 y2 y3 y4 y5
          have d0 : W.cell? ⟨wo.heap.size, 0, none⟩ = some (.int .i64 0) := (blk_cell HKW.out 0).trans rfl
          have d1 : W.cell? ⟨wo.heap.size, 1, none⟩ = some (.int .i64 0) := (blk_cell HKW.out 1).trans rfl
          have d2 : W.cell? ⟨wo.heap.size, 2, none⟩ = some (.int .i64 0) := (blk_cell HKW.out 2).trans rfl
          have d3 : W.cell? ⟨wo.heap.size, 3, none⟩ = some (.int .i64 0) := (blk_cell HKW.out 3).trans rfl
          have d4 : W.cell? ⟨wo.heap.size, 4, none⟩ = some (.string ⟨#[]⟩) := (blk_cell HKW.out 4).trans rfl
          have d5 : W.cell? ⟨wo.heap.size, 5, none⟩ = some (.slice none 0 0) := (blk_cell HKW.out 5).trans rfl
          have c30 : W.cell? ⟨w.heap.size + 2, 0, none⟩ = some (.slice AV i.toNat cV) := pw_cell_below HBW.out C30.out
          have hv1 := Aside0.mk (Kd.R_below HV.out HBW.out)
          have hln : (((xs.take i.toNat).map numIns).length + 1) * 72 ≤ 140737488355328 := by rw [HLEN.out]; have := HI.out; omega
          have HLN := Aside0.mk hln; clear hln
          have HSW : Aside0 (w.heap.size + 3 ≤ W.heap.size) := ⟨by have h1 := HLW.out; have h2 := LT3.out; omega⟩
          have HBB : Aside0 (Below (w.heap.size + 3) wo W) := ⟨below_base HBW.out (by have := LT3.out; omega)⟩
          go_wp2_with (first | ((with_reducible refine gate_builtin (b := .append) (xs := #[.tmp 54, .tmp 56]) rfl ?_); at_builtin; refine Kd.R_append (kF w) (w0 := wo) (w.heap.size + 3) rfl (.tmp 54) (.tmp 56) 22 37 (.agg #[.int .i64 0, .int .i64 0, .int .i64 0, .int .i64 0, .string ⟨#[]⟩, .slice none 0 0]) 72 rfl Tryd.underlying22 info37 rfl (show 0 < 6 by decide) (by omega) (.slice AV i.toNat cV) ((xs.take i.toNat).map numIns) (numIns (.other)) [.int .i64 0, .int .i64 0, .int .i64 0, .int .i64 0, .string ⟨#[]⟩, .slice none 0 0] (fun _ => True) (fun _ => False) (by first | rfl | (rw [HLEN.out]; rfl)) (by rfl) HK.out (fun _ h => h.elim) (fun _ _ => trivial) hv1.out HBB.out HSW.out HLN.out ?_; intro v57 w57 ho57 hb57 hg57 hat57; clear hat57 hg57; obtain ⟨A9, c9, hv9⟩ := Kd.R_slice ho57; rw [List.length_append, HLEN.out, List.length_singleton] at hv9; subst hv9; have K39 := Aside0.mk ((hb57.block (w.heap.size + 2) (Nat.lt_succ_self _)).trans K3.out); have c39 : w57.cell? ⟨w.heap.size + 2, 0, none⟩ = some (.slice AV i.toNat cV) := (blk_cell K39.out 0).trans rfl; have z39 := blk_frozen K39.out 0; have HO57 := Aside0.mk ho57; have HB57 := Aside0.mk hb57; clear ho57 hb57))
          have hw : wrap64 (i + 1) = i + 1 := by unfold wrap64; have := HI.out; omega
          refine ⟨⟨i + 1, .slice A9 (i.toNat + 1) c9, by rw [hw], by have := HI.out; omega, by have := HI.out; omega, ⟨?_⟩, ⟨?_⟩, ⟨blk_put K39.out 0 _ rfl⟩, ⟨?_⟩, ⟨?_⟩⟩, ?_⟩
          · exact blk_far ((HB57.out.block _ (by omega)).trans K1.out) (show w.heap.size ≠ w.heap.size + 1 + 1 by omega) _
          · exact blk_far ((HB57.out.block _ (by omega)).trans K2.out) (show w.heap.size + 1 ≠ w.heap.size + 1 + 1 by omega) _
          · rw [← HMAP.out]
            exact R_set_old HO57.out _ (show w.heap.size + 1 + 1 < w.heap.size + 3 by omega) _
          · exact below_set (HB.out.trans (below_base HB57.out (by omega))) (by omega)
          · rw [hw]
            have := HI.out
            simp [intOf]
            omega
    · have b2 : decide (i < (xs.length : Int)) = false := decide_eq_false h2
      have hi : i = xs.length := by omega
      have HI := Lib.hid hi; clear hi
      go_wp2_with fail
      refine bodyPost_ret (results_cell_row rfl _ _ (w.heap.size + 1) 24 #[.slice AV i.toNat cV, .int .i64 regs, .int .i64 out] (0, 0) _ rfl (blk_put (blk_put (blk_put K2.out 0 _ rfl) 1 _ rfl) 2 _ rfl) Tryd.underlying24 rfl (by kernel_rfl)) rfl ?_
      refine ⟨_, rfl, ?_, below_set (below_set (below_set HB.out (by omega)) (by omega)) (by omega)⟩
      have hk : (xs.take i.toNat).map numIns = xs.map numIns := by rw [List.take_of_length_le (by have := HI.out; omega)]
      rw [← hk]
      exact Kd.R_lower (R_set_old (R_set_old (R_set_old HV.out _ (show w.heap.size + 1 < w.heap.size + 3 by omega) _) _ (show w.heap.size + 1 < w.heap.size + 3 by omega) _) _ (show w.heap.size + 1 < w.heap.size + 3 by omega) _) (by omega)
end Go.Proofs.YtbbembhfnapadaaDoor
