/- The kinds of data of the laws of vm; the walks of Value and Values. -/
import Derived.Test.YtbbembhfnapadaaDoorPVmPlaysx2
import Derived.Test.YtbbembhfnapadaaDoorRunB
namespace Go.Proofs.YtbbembhfnapadaaDoor
open Go.RowKit Go.Proofs.YtbbembhfnapadaaDoorW.PrintWords Go.Proofs.YtbbembhfnapadaaDoorW.PrintLast Go.Proofs.YtbbembhfnapadaaDoorW.PrintMore PVmPlays
set_option linter.unusedVariables false
set_option linter.unusedSimpArgs false

/-- An instruction as a program of the machine holds it. -/
inductive Ins where
  | lit (r n : Int)
  | var (r : Int) (s : ByteArray)
  | dox (r op : Int) (args : List Int)
  | other
def kI : Kd Ins where
  sz := 1
  E := [3]
  K := fun w x cs => match x with
    | .lit r n => cs = [.iface 94 (.agg #[.int .i64 r, .int .i64 n])]
    | .var r s => cs = [.iface 99 (.agg #[.int .i64 r, .string s])]
    | .dox r op args => ∃ u, (Kd.slice 3 (Kd.int .i64)).K w args [u] ∧ cs = [.iface 87 (.agg #[.int .i64 r, .int .i64 op, u])]
    | .other => cs = [.nilIface] ∨ (∃ a, cs = [.iface 158 a]) ∨ cs = [.iface 160 (.agg #[])]
  M := fun w base ok x cs => match x with
    | .lit r n => cs = [.iface 94 (.agg #[.int .i64 r, .int .i64 n])]
    | .var r s => cs = [.iface 99 (.agg #[.int .i64 r, .string s])]
    | .dox r op args => ∃ u, (Kd.slice 3 (Kd.int .i64)).M w base ok args [u] ∧ cs = [.iface 87 (.agg #[.int .i64 r, .int .i64 op, u])]
    | .other => cs = [.nilIface] ∨ (∃ a, cs = [.iface 158 a]) ∨ cs = [.iface 160 (.agg #[])]
  K_len := by
    rintro w x cs h
    cases x with
    | lit => exact h ▸ rfl
    | var => exact h ▸ rfl
    | dox => obtain ⟨u, _, rfl⟩ := h; rfl
    | other => rcases h with rfl | ⟨a, rfl⟩ | rfl <;> rfl
  K_one := by
    rintro w x cs h u hu
    cases x with
    | lit => subst h; rw [List.mem_singleton.1 hu]; rfl
    | var => subst h; rw [List.mem_singleton.1 hu]; rfl
    | dox => obtain ⟨u, _, rfl⟩ := h; rw [List.mem_singleton.1 hu]; rfl
    | other => rcases h with rfl | ⟨a, rfl⟩ | rfl <;> (rw [List.mem_singleton.1 hu]; rfl)
  K_below := by
    rintro w w1 x cs hb h
    cases x with
    | lit => exact h
    | var => exact h
    | dox => obtain ⟨u, hu, rfl⟩ := h; exact ⟨u, (Kd.slice 3 (Kd.int .i64)).K_below hb hu, rfl⟩
    | other => exact h
  K_of_M := by
    rintro w base ok x cs h
    cases x with
    | lit => exact h
    | var => exact h
    | dox => obtain ⟨u, hu, rfl⟩ := h; exact ⟨u, (Kd.slice 3 (Kd.int .i64)).K_of_M hu, rfl⟩
    | other => exact h
  M_mono := by
    rintro w base ok ok' x cs hok h
    cases x with
    | lit => exact h
    | var => exact h
    | dox => obtain ⟨u, hu, rfl⟩ := h; exact ⟨u, (Kd.slice 3 (Kd.int .i64)).M_mono hok hu, rfl⟩
    | other => exact h
  M_bound := by
    rintro w base ok x cs h
    cases x with
    | lit => exact h
    | var => exact h
    | dox => obtain ⟨u, hu, rfl⟩ := h; exact ⟨u, (Kd.slice 3 (Kd.int .i64)).M_bound hu, rfl⟩
    | other => exact h
  M_move := by
    rintro w w1 base ok x cs hm h
    cases x with
    | lit => exact h
    | var => exact h
    | dox => obtain ⟨u, hu, rfl⟩ := h; exact ⟨u, (Kd.slice 3 (Kd.int .i64)).M_move hm hu, rfl⟩
    | other => exact h
  M_lower := by
    rintro w base base' ok x cs hb h
    cases x with
    | lit => exact h
    | var => exact h
    | dox => obtain ⟨u, hu, rfl⟩ := h; exact ⟨u, (Kd.slice 3 (Kd.int .i64)).M_lower hb hu, rfl⟩
    | other => exact h
/-- The instruction that numbers tell. -/
def insOf (x : S37) : Ins := if x.f0 = 1 then .lit x.f1 x.f3 else if x.f0 = 2 then .var x.f1 x.f4 else if x.f0 = 3 then .dox x.f1 x.f2 x.f5 else .other
theorem info3 : (Tryd.prog.info? 3).map (fun i => (i.zero, i.size, i.bytes)) = some (some (.int .i64 0), 1, 8) := by kernel_rfl
theorem info90 : (Tryd.prog.info? 90).map (fun i => (i.zero, i.size, i.bytes)) = some (some .nilIface, 1, 16) := by kernel_rfl

set_option maxRecDepth 20000 in
set_option maxHeartbeats 400000 in
theorem value_calls (x : S37) (A : Option Addr) (c : Nat) (w : World) (hl : x.f5.length ≤ c) (hC : (Kd.int .i64).C w A x.f5.length x.f5) (hs : x.f5.length * 8 ≤ 140737488351232) :
    Calls Tryd.prog 44 #[.agg #[.int .i64 x.f0, .int .i64 x.f1, .int .i64 x.f2, .int .i64 x.f3, .string x.f4, .slice A x.f5.length c]] w fun e w' => ∃ v, e = .returned v ∧ kI.M w' w.heap.size (fun _ => True) (insOf x) [v] ∧ Below w.heap.size w w' := by
  have HC := Lib.hid hC; clear hC
  have hu := Tryd.underlying37
  by_cases h1 : x.f0 = 1
  · have g1 : (x.f0 == 1) = true := by simp [h1]
    have e1 : insOf x = .lit x.f1 x.f3 := by simp [insOf, h1]
    have H1 := Lib.hid h1; clear h1
    have E1 := Lib.hid e1; clear e1
    go_enter Tryd.func44, Tryd.ntmps44
    go_wp2_with fail
    go_ret
    exact ⟨_, rfl, by rw [E1.out]; exact rfl, by first | exact (Below.refl _ _).alloc (Nat.le_refl _) _⟩
  have g1 : (x.f0 == 1) = false := by simp [h1]
  by_cases h2 : x.f0 = 2
  · have g2 : (x.f0 == 2) = true := by simp [h2]
    have e1 : insOf x = .var x.f1 x.f4 := by simp [insOf, h2]
    have H1 := Lib.hid h1; clear h1
    have H2 := Lib.hid h2; clear h2
    have E1 := Lib.hid e1; clear e1
    go_enter Tryd.func44, Tryd.ntmps44
    go_wp2_with fail
    go_ret
    exact ⟨_, rfl, by rw [E1.out]; exact rfl, by first | exact (Below.refl _ _).alloc (Nat.le_refl _) _⟩
  have g2 : (x.f0 == 2) = false := by simp [h2]
  by_cases h3 : x.f0 = 3
  · have g3 : (x.f0 == 3) = true := by simp [h3]
    have e1 : insOf x = .dox x.f1 x.f2 x.f5 := by simp [insOf, h3]
    have H1 := Lib.hid h1; clear h1
    have H2 := Lib.hid h2; clear h2
    have H3 := Lib.hid h3; clear h3
    have E1 := Lib.hid e1; clear e1
    go_enter Tryd.func44, Tryd.ntmps44
    go_upto_region 7 with (fail)
    have HB := Aside0.mk (below_drew (below_alloc (Below.refl w.heap.size w) (.cells #[.int .i64 x.f0, .int .i64 x.f1, .int .i64 x.f2, .int .i64 x.f3, .string x.f4, .slice A x.f5.length c] 37)))
    refine start_ (n := 11) (S := fun w' => w'.cell? ⟨w.heap.size, 1, none⟩ = some (.int .i64 x.f1) ∧ w'.cell? ⟨w.heap.size, 2, none⟩ = some (.int .i64 x.f2) ∧ w'.cell? ⟨w.heap.size, 5, none⟩ = some (.slice A x.f5.length c)) (ds := []) #[false, false, false, false, false, false, false, false, false, false, false] (by kernel_rfl) rfl rfl ⟨(by go_simp), (by go_simp), (by go_simp)⟩ (fun hHeld => ?_)
    refine pure_ (i := 0) (N := some 23) (v := ?_) (a' := ?_) #[true, false, false, false, false, false, false, false, false, false, false] rfl rfl (by kernel_rfl) (fun _ _ _ h => h) (Or.inl ⟨by rfl, ?_⟩) ?_ ?_
    rotate_left
    · intro w'
      go_simp
      with_reducible rfl
    rotate_left
    · simp only [Act.put, List.setIfInBounds_toArray, List.set_cons_zero, List.set_cons_succ, i64_w, i32_w]
      rfl
    refine pure_ (i := 2) (N := some 25) (v := ?_) (a' := ?_) #[true, false, true, false, false, false, false, false, false, false, false] rfl rfl (by kernel_rfl) (fun _ _ _ h => h) (Or.inl ⟨by rfl, ?_⟩) ?_ ?_
    rotate_left
    · intro w'
      go_simp
      with_reducible rfl
    rotate_left
    · simp only [Act.put, List.setIfInBounds_toArray, List.set_cons_zero, List.set_cons_succ, i64_w, i32_w]
      rfl
    refine pure_ (i := 5) (N := some 28) (v := ?_) (a' := ?_) #[true, false, true, false, false, true, false, false, false, false, false] rfl rfl (by kernel_rfl) (fun _ _ _ h => h) (Or.inl ⟨by rfl, ?_⟩) ?_ ?_
    rotate_left
    · intro w'
      go_simp
      with_reducible rfl
    rotate_left
    · simp only [Act.put, List.setIfInBounds_toArray, List.set_cons_zero, List.set_cons_succ, i64_w, i32_w]
      rfl
    refine take_ (i := 1) (N := some 24) (v := ?_) (a' := ?_) #[true, true, true, false, false, true, false, false, false, false, false] rfl rfl (by kernel_rfl) (fun _ _ _ h => h) (Or.inl ⟨by rfl, ?_⟩) hHeld ?_ ?_
    rotate_left
    · rintro w' ⟨s0, s1, s2⟩
      go_simp
      with_reducible rfl
    rotate_left
    · simp only [Act.put, List.setIfInBounds_toArray, List.set_cons_zero, List.set_cons_succ, i64_w, i32_w]
      rfl
    refine take_ (i := 3) (N := some 26) (v := ?_) (a' := ?_) #[true, true, true, true, false, true, false, false, false, false, false] rfl rfl (by kernel_rfl) (fun _ _ _ h => h) (Or.inl ⟨by rfl, ?_⟩) hHeld ?_ ?_
    rotate_left
    · rintro w' ⟨s0, s1, s2⟩
      go_simp
      with_reducible rfl
    rotate_left
    · simp only [Act.put, List.setIfInBounds_toArray, List.set_cons_zero, List.set_cons_succ, i64_w, i32_w]
      rfl
    refine take_ (i := 6) (N := some 29) (v := ?_) (a' := ?_) #[true, true, true, true, false, true, true, false, false, false, false] rfl rfl (by kernel_rfl) (fun _ _ _ h => h) (Or.inl ⟨by rfl, ?_⟩) hHeld ?_ ?_
    rotate_left
    · rintro w' ⟨s0, s1, s2⟩
      go_simp
      with_reducible rfl
    rotate_left
    · simp only [Act.put, List.setIfInBounds_toArray, List.set_cons_zero, List.set_cons_succ, i64_w, i32_w]
      rfl
    refine one_ (i := 4) (N := some 27) #[true, true, true, true, true, true, true, false, false, false, false] rfl rfl (by kernel_rfl) (by decide) (fun K hK => ?_)
    refine Kd.R_lit_step (Kd.int .i64) _ 3 ?hg (N := 27) ?hd (xs := ([] : List Int)) (inner := []) (ok := fun _ => True) (okp := fun _ => True) ?hr ?hp (fun _ hk => hk) trivial (Below.refl _ _) (Nat.le_refl _) (by simp) ?_
    (case hd => rfl)
    (case hg => rfl)
    (case hr => first | (go_simp; done) | (go_simp; rfl))
    (case hp => exact (Reps.none _ _))
    intro v4 w4 ho4 hb4 hg4 hn4
    have hne4 : some w.heap.size ≠ v4.ownBlock := fun e => by have h9 : (w.heap.push _).size ≤ w.heap.size := Kd.R_base ho4 _ e.symm; rw [Array.size_push] at h9; omega
    have HO4 := Aside0.mk (Kd.R_lower ho4 (below_size HB.out))
    have HB4 := Aside0.mk (below_step HB.out hb4)
    refine hK.out _ _ ⟨(pw_cell_below hb4 hHeld.1), (pw_cell_below hb4 hHeld.2.1), (pw_cell_below hb4 hHeld.2.2)⟩ (fun hHeld => ?_)
    clear hK K
    refine norm_ (a' := ?_) ?_ ?_
    rotate_left
    · show Act.put _ (some 27) _ = _
      simp only [Act.put, List.setIfInBounds_toArray, List.set_cons_zero, List.set_cons_succ, i64_w, i32_w]
      rfl
    refine one_ (i := 7) (N := some 30) #[true, true, true, true, true, true, true, true, false, false, false] rfl rfl (by kernel_rfl) (by decide) (fun K hK => ?_)
    refine Kd.R_append_rows_step (Kd.int .i64) (w0 := w) w.heap.size (by rfl) (.tmp 27) (.tmp 29) 35 3 (.int .i64 0) 8 rfl Tryd.underlying35 info3 rfl (by decide) (by omega) v4 ([] : List Int) x.f5 _ _ _ (fun _ => True) (fun _ => False) rfl rfl ?aO ?aR (fun _ _ h => h) (fun _ h => h.elim) ?aF ?aB ?aS ?aL ?_
    (case aO => exact HO4.out)
    (case aR => exact Kd.C_below HC.out HB4.out)
    (case aF => exact (fun _ _ => trivial))
    (case aB => exact HB4.out)
    (case aS => exact below_size HB4.out)
    (case aL => simp; omega)
    intro v7 w7 ho7 hb7 hg7 hat7
    obtain ⟨A7, c7, rfl⟩ := Kd.R_slice ho7
    refine hK.out _ _ ⟨(hg7.cell hHeld.1 hne4), (hg7.cell hHeld.2.1 hne4), (hg7.cell hHeld.2.2 hne4)⟩ (fun hHeld => ?_)
    clear hK K
    refine norm_ (a' := ?_) ?_ ?_
    rotate_left
    · show Act.put _ (some 30) _ = _
      simp only [Act.put, List.setIfInBounds_toArray, List.set_cons_zero, List.set_cons_succ, i64_w, i32_w]
      rfl
    refine pure_ (i := 8) (N := some 31) (v := ?_) (a' := ?_) #[true, true, true, true, true, true, true, true, true, false, false] rfl rfl (by kernel_rfl) (fun _ _ _ h => h) (Or.inl ⟨by rfl, ?_⟩) ?_ ?_
    rotate_left
    · intro w'
      go_simp
      with_reducible rfl
    rotate_left
    · simp only [Act.put, List.setIfInBounds_toArray, List.set_cons_zero, List.set_cons_succ, i64_w, i32_w]
      rfl
    refine pure_ (i := 9) (N := some 32) (v := ?_) (a' := ?_) #[true, true, true, true, true, true, true, true, true, true, false] rfl rfl (by kernel_rfl) (fun _ _ _ h => h) (Or.inl ⟨by rfl, ?_⟩) ?_ ?_
    rotate_left
    · intro w'
      go_simp
      with_reducible rfl
    rotate_left
    · simp only [Act.put, List.setIfInBounds_toArray, List.set_cons_zero, List.set_cons_succ, i64_w, i32_w]
      rfl
    refine pure_ (i := 10) (N := some 2) (v := ?_) (a' := ?_) #[true, true, true, true, true, true, true, true, true, true, true] rfl rfl (by kernel_rfl) (fun _ _ _ h => h) (Or.inl ⟨by rfl, ?_⟩) ?_ ?_
    rotate_left
    · intro w'
      go_simp
      with_reducible rfl
    rotate_left
    · simp only [Act.put, List.setIfInBounds_toArray, List.set_cons_zero, List.set_cons_succ, i64_w, i32_w]
      rfl
    refine done_ (by kernel_rfl) ?_
    go_wp2_with fail
    go_ret
    exact ⟨_, rfl, by rw [E1.out]; exact ⟨_, ⟨_, rfl, ho7⟩, rfl⟩, hb7⟩
  have g3 : (x.f0 == 3) = false := by simp [h3]
  have H1 := Lib.hid h1; clear h1
  have H2 := Lib.hid h2; clear h2
  have H3 := Lib.hid h3; clear h3
  by_cases h4 : x.f0 = 4
  · have g4 : (x.f0 == 4) = true := by simp [h4]
    have e1 : insOf x = .other := by simp [insOf, h4]
    have H4 := Lib.hid h4; clear h4
    have E1 := Lib.hid e1; clear e1
    go_enter Tryd.func44, Tryd.ntmps44
    go_wp2_with fail
    go_ret
    exact ⟨_, rfl, by rw [E1.out]; exact .inr (.inl ⟨_, rfl⟩), below_alloc (below_alloc (Below.refl _ _) _) _⟩
  have g4 : (x.f0 == 4) = false := by simp [h4]
  by_cases h5 : x.f0 = 5
  · have g5 : (x.f0 == 5) = true := by simp [h5]
    have e1 : insOf x = .other := by simp [insOf, h5]
    have H4 := Lib.hid h4; clear h4
    have H5 := Lib.hid h5; clear h5
    have E1 := Lib.hid e1; clear e1
    go_enter Tryd.func44, Tryd.ntmps44
    go_wp2_with fail
    go_ret
    exact ⟨_, rfl, by rw [E1.out]; exact .inr (.inr rfl), below_alloc (Below.refl _ _) _⟩
  have g5 : (x.f0 == 5) = false := by simp [h5]
  have e1 : insOf x = .other := by simp [insOf, H1.out, H2.out, H3.out]
  have H4 := Lib.hid h4; clear h4
  have H5 := Lib.hid h5; clear h5
  have E1 := Lib.hid e1; clear e1
  go_enter Tryd.func44, Tryd.ntmps44
  go_wp2_with fail
  go_ret
  exact ⟨_, rfl, by rw [E1.out]; exact .inl rfl, below_alloc (Below.refl _ _) _⟩
end Go.Proofs.YtbbembhfnapadaaDoor
