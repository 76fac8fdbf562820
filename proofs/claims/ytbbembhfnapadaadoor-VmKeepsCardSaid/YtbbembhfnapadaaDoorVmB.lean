/- The walk of Values. -/
import Derived.Test.YtbbembhfnapadaaDoorVmA
namespace Go.Proofs.YtbbembhfnapadaaDoor
open Go.RowKit Go.Proofs.YtbbembhfnapadaaDoorW.PrintWords Go.Proofs.YtbbembhfnapadaaDoorW.PrintLast Go.Proofs.YtbbembhfnapadaaDoorW.PrintMore PVmPlays
set_option linter.unusedVariables false
set_option linter.unusedSimpArgs false

theorem take_step {α β : Type} (f : α → β) (xs : List α) (z : α) (i : Int) (h0 : 0 ≤ i) (h1 : i < xs.length) : (xs.take i.toNat).map f ++ [f (xs.getD i.toNat z)] = (xs.take (i + 1).toNat).map f := by
  have e : (i + 1).toNat = i.toNat + 1 := by omega
  have hl : i.toNat < xs.length := by omega
  rw [e, List.take_succ_eq_append_getElem hl, List.map_append, List.getD_eq_getElem?_getD, List.getElem?_eq_getElem hl]
  rfl
/-- A row that was made from base on, behind a store ahead of it. -/
theorem R_set_old {α : Type} {d : Kd α} {e base : Nat} {w : World} {v : Value} {xs : List α} (h : d.R e w base (fun _ => True) v xs) (p : Addr) (hp : p.block < base) (u : Value) : d.R e (w.setCell p u) base (fun _ => True) v xs :=
  Kd.R_mono (Kd.R_far (p := p) (Kd.R_mono (Kd.R_bound h) (fun k hk => hk.2.1)) (fun k hk => by omega) u) (fun _ _ => trivial)

theorem alloc_size (w : World) (o : Obj) : (w.alloc o).heap.size = w.heap.size + 1 := Array.size_push _
theorem blk_new1 (w : World) (a o : Obj) : ((w.alloc a).alloc o).heap[w.heap.size + 1]? = some o := by have h := blk_new (w.alloc a) o; rwa [alloc_size] at h
theorem blk_new2 (w : World) (a b o : Obj) : (((w.alloc a).alloc b).alloc o).heap[w.heap.size + 2]? = some o := by have h := blk_new ((w.alloc a).alloc b) o; rwa [alloc_size, alloc_size] at h
theorem M_new' {α : Type} {d : Kd α} {w W : World} {b e0 s0 n0 : Nat} {u : Value} {x : α} {cs : List Value} {ok : Nat → Prop} (h : d.M w W.heap.size ok x cs) (ho : ∃ ys, W.ownsRow b e0 s0 u n0 ys) : d.M w W.heap.size (fun k => ok k ∧ some k ≠ u.ownBlock) x cs := by
  obtain ⟨ys, ho⟩ := ho
  exact Kd.M_new h ho
theorem below_base {B C : Nat} {w w' : World} (h : Below B w w') (hc : C ≤ B) : Below C w w' := ⟨h.os, h.tape, h.output, h.size, fun k hk => h.block k (by omega)⟩
theorem kI_form {w : World} {base : Nat} {ok : Nat → Prop} {x : Ins} {v : Value} (h : kI.M w base ok x [v]) : v.oneCell' = true := kI.K_one (kI.K_of_M h) _ (List.mem_singleton.2 rfl)

set_option maxRecDepth 20000 in
set_option maxHeartbeats 1000000 in
theorem values_calls (xs : List S37) (A : Option Addr) (c : Nat) (regs out : Int) (w : World) (hl : xs.length ≤ c) (hC : Kd.C k37 w A xs.length xs) (hs : xs.length * 72 ≤ 140737488351232) (ha : ∀ x ∈ xs, x.f5.length * 8 ≤ 140737488351232) :
    Calls Tryd.prog 16 #[.agg #[.slice A xs.length c, .int .i64 regs, .int .i64 out]] w fun e w' => ∃ v, e = .returned (.agg #[v, .int .i64 regs, .int .i64 out]) ∧ Kd.R kI 90 w' w.heap.size (fun _ => True) v (xs.map insOf) ∧ Below w.heap.size w w' := by
  have HC := Aside0.mk hC; clear hC
  have HA := Aside0.mk ha; clear ha
  have hu37 := Tryd.underlying37
  have hu32 := Tryd.underlying32
  have hu24 := Tryd.underlying24
  go_enter Tryd.func16, Tryd.ntmps16
  go_wp2_with fail
  go_loopw [4] (fun v4 w' => ∃ (i : Int) (V : Value), v4 = .int .i64 i ∧ 0 ≤ i ∧ i ≤ xs.length ∧ Aside0 (w'.heap[w.heap.size]? = some (.cells #[.slice A xs.length c, .int .i64 regs, .int .i64 out] 24 (0, 0))) ∧ Aside0 (w'.heap[w.heap.size + 1]? = some (.cells #[.slice none 0 0, .int .i64 0, .int .i64 0] 32 (0, 0))) ∧ Aside0 (w'.heap[w.heap.size + 2]? = some (.cells #[V, .int .i64 regs, .int .i64 out] 32 (0, 0))) ∧ Aside0 (Kd.R kI 90 w' (w.heap.size + 3) (fun _ => True) V ((xs.take i.toNat).map insOf)) ∧ Aside0 (Below w.heap.size w w')) (fun v4 _ => xs.length - (intOf v4).toNat)
  case atStart =>
    refine ⟨0, .slice none 0 0, rfl, Int.le_refl _, by omega, ⟨?_⟩, ⟨?_⟩, ⟨?_⟩, ⟨Kd.R_nil _ _ _ _ _⟩, ⟨?_⟩⟩
    · exact blk_alloc (blk_alloc (blk_new w _) _) _
    · exact blk_alloc (blk_new1 w _ _) _
    · exact blk_new2 w _ _ _
    · exact below_alloc (below_alloc (below_alloc (Below.refl _ _) _) _) _
  case round =>
    obtain ⟨i, V, rfl, h0, h1, K1, K2, K3, HV, HB⟩ := hrel
    obtain ⟨AV, cV, hV⟩ := Kd.R_slice HV.out
    have hlen : ((xs.take i.toNat).map insOf).length = i.toNat := by rw [List.length_map, List.length_take]; omega
    rw [hlen] at hV
    subst hV
    have HLEN := Aside0.mk hlen; clear hlen
    have c10 : wr.cell? ⟨w.heap.size, 0, none⟩ = some (.slice A xs.length c) := (blk_cell K1.out 0).trans rfl
    have c30 : wr.cell? ⟨w.heap.size + 2, 0, none⟩ = some (.slice AV i.toNat cV) := (blk_cell K3.out 0).trans rfl
    have c31 : wr.cell? ⟨w.heap.size + 2, 1, none⟩ = some (.int .i64 regs) := (blk_cell K3.out 1).trans rfl
    have c32 : wr.cell? ⟨w.heap.size + 2, 2, none⟩ = some (.int .i64 out) := (blk_cell K3.out 2).trans rfl
    have c20 : wr.cell? ⟨w.heap.size + 1, 0, none⟩ = some (.slice none 0 0) := (blk_cell K2.out 0).trans rfl
    have c21 : wr.cell? ⟨w.heap.size + 1, 1, none⟩ = some (.int .i64 0) := (blk_cell K2.out 1).trans rfl
    have c22 : wr.cell? ⟨w.heap.size + 1, 2, none⟩ = some (.int .i64 0) := (blk_cell K2.out 2).trans rfl
    have z0 := blk_frozen K2.out 0
    have z1 := blk_frozen K2.out 1
    have z2 := blk_frozen K2.out 2
    have lt3 : w.heap.size + 2 < wr.heap.size := blk_lt K3.out
    have LT3 := Lib.hid lt3; clear lt3
    by_cases h2 : i < xs.length
    · have b2 : decide (i < (xs.length : Int)) = true := decide_eq_true h2
      obtain ⟨ad, A5, c5, eA, e0, e1, e2, e3, e4, e5, l5, g5⟩ := at_T37 HC.out i h0 h2
      cases eA
      replace e0 := pw_cell_below HB.out e0
      replace e1 := pw_cell_below HB.out e1
      replace e2 := pw_cell_below HB.out e2
      replace e3 := pw_cell_below HB.out e3
      replace e4 := pw_cell_below HB.out e4
      replace e5 := pw_cell_below HB.out e5
      have G5 := Aside0.mk (Kd.C_below g5 HB.out); clear g5
      have L5 := Aside0.mk l5; clear l5
      have S5 : Aside0 ((rd_T37 xs i).f5.length * 8 ≤ 140737488351232) := ⟨HA.out _ (by unfold rd_T37; rw [List.getD_eq_getElem?_getD, List.getElem?_eq_getElem (by omega)]; exact List.getElem_mem _)⟩
      replace h0 := eq_true h0
      replace h2 := eq_true h2
      go_upto_region 5 with (fail)
      have HVd : Aside0 (Kd.R kI 90 wr.drew (w.heap.size + 3) (fun _ => True) (.slice AV i.toNat cV) ((xs.take i.toNat).map insOf)) := ⟨Kd.R_drew HV.out⟩
      have HBd : Aside0 (Below w.heap.size w wr.drew) := ⟨below_drew HB.out⟩
      have G5d : Aside0 ((Kd.int .i64).C wr.drew A5 (rd_T37 xs i).f5.length (rd_T37 xs i).f5) := ⟨Kd.C_drew G5.out⟩
      refine start_ (n := 12) (S := fun w' => w'.cell? ⟨w.heap.size + 2, 0, none⟩ = some (.slice AV i.toNat cV) ∧ w'.cell? ⟨w.heap.size, 0, none⟩ = some (.slice (some ad) xs.length c) ∧ w'.cell? (ad.add (i.toNat * 6)) = some (.int .i64 (rd_T37 xs i).f0) ∧ w'.cell? ⟨(ad.add (i.toNat * 6)).block, (ad.add (i.toNat * 6)).off + 1, none⟩ = some (.int .i64 (rd_T37 xs i).f1) ∧ w'.cell? ⟨(ad.add (i.toNat * 6)).block, (ad.add (i.toNat * 6)).off + 2, none⟩ = some (.int .i64 (rd_T37 xs i).f2) ∧ w'.cell? ⟨(ad.add (i.toNat * 6)).block, (ad.add (i.toNat * 6)).off + 3, none⟩ = some (.int .i64 (rd_T37 xs i).f3) ∧ w'.cell? ⟨(ad.add (i.toNat * 6)).block, (ad.add (i.toNat * 6)).off + 4, none⟩ = some (.string (rd_T37 xs i).f4) ∧ w'.cell? ⟨(ad.add (i.toNat * 6)).block, (ad.add (i.toNat * 6)).off + 5, none⟩ = some (.slice A5 (rd_T37 xs i).f5.length c5)) (ds := [9, 11]) #[false, false, false, false, false, false, false, false, false, false, false, false] (by kernel_rfl) rfl rfl ⟨c30, c10, e0, e1, e2, e3, e4, e5⟩ (fun hHeld => ?_)
      refine pure_ (i := 0) (N := some 17) (v := ?_) (a' := ?_) #[true, false, false, false, false, false, false, false, false, false, false, false] rfl rfl (by kernel_rfl) (fun _ _ _ h => h) (Or.inl ⟨by rfl, ?_⟩) ?_ ?_
      rotate_left
      · intro w'
        go_simp
        with_reducible rfl
      rotate_left
      · simp only [Act.put, List.setIfInBounds_toArray, List.set_cons_zero, List.set_cons_succ, i64_w, i32_w]
        rfl
      refine pure_ (i := 2) (N := some 19) (v := ?_) (a' := ?_) #[true, false, true, false, false, false, false, false, false, false, false, false] rfl rfl (by kernel_rfl) (fun _ _ _ h => h) (Or.inl ⟨by rfl, ?_⟩) ?_ ?_
      rotate_left
      · intro w'
        go_simp
        with_reducible rfl
      rotate_left
      · simp only [Act.put, List.setIfInBounds_toArray, List.set_cons_zero, List.set_cons_succ, i64_w, i32_w]
        rfl
      refine pure_ (i := 4) (N := some 21) (v := ?_) (a' := ?_) #[true, false, true, false, true, false, false, false, false, false, false, false] rfl rfl (by kernel_rfl) (fun _ _ _ h => h) (Or.inl ⟨by rfl, ?_⟩) ?_ ?_
      rotate_left
      · intro w'
        go_simp
        with_reducible rfl
      rotate_left
      · simp only [Act.put, List.setIfInBounds_toArray, List.set_cons_zero, List.set_cons_succ, i64_w, i32_w]
        rfl
      refine take_ (i := 1) (N := some 18) (v := ?_) (a' := ?_) #[true, true, true, false, true, false, false, false, false, false, false, false] rfl rfl (by kernel_rfl) (fun _ _ _ h => h) (Or.inl ⟨by rfl, ?_⟩) hHeld ?_ ?_
      rotate_left
      · rintro w' ⟨s0, s1, s2, s3, s4, s5, s6, s7⟩
        go_simp
        with_reducible rfl
      rotate_left
      · simp only [Act.put, List.setIfInBounds_toArray, List.set_cons_zero, List.set_cons_succ, i64_w, i32_w]
        rfl
      refine take_ (i := 3) (N := some 20) (v := ?_) (a' := ?_) #[true, true, true, true, true, false, false, false, false, false, false, false] rfl rfl (by kernel_rfl) (fun _ _ _ h => h) (Or.inl ⟨by rfl, ?_⟩) hHeld ?_ ?_
      rotate_left
      · rintro w' ⟨s0, s1, s2, s3, s4, s5, s6, s7⟩
        go_simp
        with_reducible rfl
      rotate_left
      · simp only [Act.put, List.setIfInBounds_toArray, List.set_cons_zero, List.set_cons_succ, i64_w, i32_w]
        rfl
      refine pure_ (i := 5) (N := some 22) (v := ?_) (a' := ?_) #[true, true, true, true, true, true, false, false, false, false, false, false] rfl rfl (by kernel_rfl) (fun _ _ _ h => h) (Or.inl ⟨by rfl, ?_⟩) ?_ ?_
      rotate_left
      · intro w'
        go_simp
        with_reducible rfl
      rotate_left
      · simp only [Act.put, List.setIfInBounds_toArray, List.set_cons_zero, List.set_cons_succ, i64_w, i32_w]
        rfl
      refine take_ (i := 6) (N := some 23) (v := ?_) (a' := ?_) #[true, true, true, true, true, true, true, false, false, false, false, false] rfl rfl (by kernel_rfl) (fun _ _ _ h => h) (Or.inl ⟨by rfl, ?_⟩) hHeld ?_ ?_
      rotate_left
      · rintro w' ⟨s0, s1, s2, s3, s4, s5, s6, s7⟩
        go_simp
        with_reducible rfl
      rotate_left
      · simp only [Act.put, List.setIfInBounds_toArray, List.set_cons_zero, List.set_cons_succ, i64_w, i32_w]
        rfl
      refine one_ (i := 7) (N := some 24) #[true, true, true, true, true, true, true, true, false, false, false, false] rfl rfl (by kernel_rfl) (by decide) (fun K hK => ?_)
      refine goes_ Tryd.func44 (by kernel_rfl) rfl #[.agg #[.int .i64 (rd_T37 xs i).f0, .int .i64 (rd_T37 xs i).f1, .int .i64 (rd_T37 xs i).f2, .int .i64 (rd_T37 xs i).f3, .string (rd_T37 xs i).f4, .slice A5 (rd_T37 xs i).f5.length c5]] (by rfl) rfl rfl (by (try simp only [List.map_toArray, List.map_cons, List.map_nil]); first | done | rfl) ?_
      with_reducible refine (value_calls (rd_T37 xs i) A5 c5 _ L5.out G5d.out S5.out).mono ?_
      rintro e w7 ⟨v7, rfl, m7, hb7⟩
      refine ⟨_, rfl, ?_⟩
      refine hK.out _ _ ⟨(pw_cell_below hb7 hHeld.1), (pw_cell_below hb7 hHeld.2.1), (pw_cell_below hb7 hHeld.2.2.1), (pw_cell_below hb7 hHeld.2.2.2.1), (pw_cell_below hb7 hHeld.2.2.2.2.1), (pw_cell_below hb7 hHeld.2.2.2.2.2.1), (pw_cell_below hb7 hHeld.2.2.2.2.2.2.1), (pw_cell_below hb7 hHeld.2.2.2.2.2.2.2)⟩ (fun hHeld => ?_)
      clear hK K
      refine norm_ (a' := ?_) ?_ ?_
      rotate_left
      · show Act.put _ (some 24) _ = _
        simp only [Act.put, List.setIfInBounds_toArray, List.set_cons_zero, List.set_cons_succ, i64_w, i32_w]
        rfl
      refine one_ (i := 8) (N := some 25) #[true, true, true, true, true, true, true, true, true, false, false, false] rfl rfl (by kernel_rfl) (by decide) (fun K hK => ?_)
      refine value_ (w1 := w7.alloc (.cells #[v7] 90)) (v := .slice (some ⟨w7.heap.size, 0, none⟩) 1 1) (by rfl) rfl ?_ ?_
      · have f7 := kI_form m7
        clear m7 K hK
        cases v7 <;> first | (exfalso; simp [Value.oneCell'] at f7; done) | (go_simp; done) | (go_simp; rfl)
      refine hK.out _ _ ⟨(World.cell?_alloc_lt _ _ _ (World.block_lt_of_cell? _ _ (hHeld.1))).trans (hHeld.1), (World.cell?_alloc_lt _ _ _ (World.block_lt_of_cell? _ _ (hHeld.2.1))).trans (hHeld.2.1), (World.cell?_alloc_lt _ _ _ (World.block_lt_of_cell? _ _ (hHeld.2.2.1))).trans (hHeld.2.2.1), (World.cell?_alloc_lt _ _ _ (World.block_lt_of_cell? _ _ (hHeld.2.2.2.1))).trans (hHeld.2.2.2.1), (World.cell?_alloc_lt _ _ _ (World.block_lt_of_cell? _ _ (hHeld.2.2.2.2.1))).trans (hHeld.2.2.2.2.1), (World.cell?_alloc_lt _ _ _ (World.block_lt_of_cell? _ _ (hHeld.2.2.2.2.2.1))).trans (hHeld.2.2.2.2.2.1), (World.cell?_alloc_lt _ _ _ (World.block_lt_of_cell? _ _ (hHeld.2.2.2.2.2.2.1))).trans (hHeld.2.2.2.2.2.2.1), (World.cell?_alloc_lt _ _ _ (World.block_lt_of_cell? _ _ (hHeld.2.2.2.2.2.2.2))).trans (hHeld.2.2.2.2.2.2.2)⟩ (fun hHeld => ?_)
      clear hK K
      refine norm_ (a' := ?_) ?_ ?_
      rotate_left
      · show Act.put _ (some 25) _ = _
        simp only [Act.put, List.setIfInBounds_toArray, List.set_cons_zero, List.set_cons_succ, i64_w, i32_w]
        rfl
      refine last_ (i := 9) (N := some 26) #[true, true, true, true, true, true, true, true, true, true, false, false] rfl rfl (by kernel_rfl) (by decide) (fun K hK => ?_)
      refine Kd.R_append_step kI (w0 := wr.drew) (w.heap.size + 3) (by rfl) (.tmp 18) (.tmp 25) 30 90 .nilIface 16 rfl Tryd.underlying30 info90 rfl (by decide) (by omega) (.slice AV i.toNat cV) ((xs.take i.toNat).map insOf) (insOf (rd_T37 xs i)) [v7] (fun _ => True) (fun k => True ∧ some k ≠ (Value.slice AV i.toNat cV).ownBlock) rfl rfl ?aP (fun k hk => ⟨trivial, hk.2⟩) (fun _ _ => trivial) ?aO ?aB ?aS ?aL ?_
      (case aP => exact kI.M_lower (by show w.heap.size + 3 ≤ wr.heap.size; have := LT3.out; omega) (M_new' m7 (Kd.R_own HVd.out)))
      (case aO => exact Kd.R_below HVd.out hb7)
      (case aB => exact below_base hb7 LT3.out)
      (case aS => exact Nat.le_trans LT3.out hb7.size)
      (case aL => rw [HLEN.out]; omega)
      intro v9 w9 ho9 hb9 hg9 hat9
      obtain ⟨A9, c9, hv9⟩ := Kd.R_slice ho9
      rw [List.length_append, HLEN.out, List.length_singleton] at hv9
      subst hv9
      have K39 : w9.heap[w.heap.size + 2]? = some (.cells #[.slice AV i.toNat cV, .int .i64 regs, .int .i64 out] 32 (0, 0)) := (hb9.block _ (by omega)).trans K3.out
      have c39 : w9.cell? ⟨w.heap.size + 2, 0, none⟩ = some (.slice AV i.toNat cV) := (blk_cell K39 0).trans rfl
      have z39 := blk_frozen K39 0
      have HO9 := Aside0.mk ho9
      clear ho9
      have K3_9 := Aside0.mk K39
      clear K39
      refine hK.out _ _ ?_
      clear hK K
      refine norm_ (a' := ?_) ?_ ?_
      rotate_left
      · show Act.put _ (some 26) _ = _
        simp only [Act.put, List.setIfInBounds_toArray, List.set_cons_zero, List.set_cons_succ, i64_w, i32_w]
        rfl
      refine pure_ (i := 10) (N := some 27) (v := ?_) (a' := ?_) #[true, true, true, true, true, true, true, true, true, true, true, false] rfl rfl (by kernel_rfl) (fun _ _ _ h => h) (Or.inl ⟨by rfl, ?_⟩) ?_ ?_
      rotate_left
      · intro w'
        go_simp
        with_reducible rfl
      rotate_left
      · simp only [Act.put, List.setIfInBounds_toArray, List.set_cons_zero, List.set_cons_succ, i64_w, i32_w]
        rfl
      refine last_ (i := 11) (N := none) #[true, true, true, true, true, true, true, true, true, true, true, true] rfl rfl (by kernel_rfl) (by decide) (fun K hK => ?_)
      refine skip_ (w1 := ?_) (by rfl) rfl ?_ ?_
      rotate_left
      · go_simp
        rfl
      refine hK.out _ _ ?_
      clear hK K
      refine done_ (by kernel_rfl) ?_
      go_wp2_with fail
      have h0' := of_eq_true h0
      have h2' := of_eq_true h2
      have hr := take_step insOf xs z37 i h0' h2'
      have hw : wrap64 (i + 1) = i + 1 := by unfold wrap64; omega
      refine ⟨⟨i + 1, .slice A9 (i.toNat + 1) c9, by rw [hw], by omega, by omega, ⟨?_⟩, ⟨?_⟩, ⟨blk_put K3_9.out 0 _ rfl⟩, ⟨?_⟩, ⟨?_⟩⟩, ?_⟩
      · exact blk_far ((hb9.block _ (by omega)).trans K1.out) (show w.heap.size ≠ w.heap.size + 1 + 1 by omega) _
      · exact blk_far ((hb9.block _ (by omega)).trans K2.out) (show w.heap.size + 1 ≠ w.heap.size + 1 + 1 by omega) _
      · rw [← hr]
        exact R_set_old HO9.out _ (show w.heap.size + 1 + 1 < w.heap.size + 3 by omega) _
      · exact below_set (HBd.out.trans (below_base hb9 (by omega))) (by omega)
      · rw [hw]
        simp [intOf]
        omega
    · have b2 : decide (i < (xs.length : Int)) = false := decide_eq_false h2
      have hi : i = xs.length := by omega
      have HI := Lib.hid hi; clear hi
      go_wp2_with fail
      refine bodyPost_ret (results_cell_row rfl _ _ (w.heap.size + 1) 32 #[.slice AV i.toNat cV, .int .i64 regs, .int .i64 out] (0, 0) _ rfl (blk_put (blk_put (blk_put K2.out 0 _ rfl) 1 _ rfl) 2 _ rfl) Tryd.underlying32 rfl (by kernel_rfl)) rfl ?_
      refine ⟨_, rfl, ?_, below_set (below_set (below_set HB.out (by omega)) (by omega)) (by omega)⟩
      have hk : (xs.take i.toNat).map insOf = xs.map insOf := by rw [List.take_of_length_le (by have := HI.out; omega)]
      rw [← hk]
      exact Kd.R_lower (R_set_old (R_set_old (R_set_old HV.out _ (show w.heap.size + 1 < w.heap.size + 3 by omega) _) _ (show w.heap.size + 1 < w.heap.size + 3 by omega) _) _ (show w.heap.size + 1 < w.heap.size + 3 by omega) _) (by omega)
end Go.Proofs.YtbbembhfnapadaaDoor
