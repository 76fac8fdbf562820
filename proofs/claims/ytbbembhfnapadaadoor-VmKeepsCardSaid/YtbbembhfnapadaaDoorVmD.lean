/- The walk of code.to. -/
import Derived.Test.YtbbembhfnapadaaDoorVmC
namespace Go.Proofs.YtbbembhfnapadaaDoor
open Go.RowKit Go.Proofs.YtbbembhfnapadaaDoorW.PrintWords Go.Proofs.YtbbembhfnapadaaDoorW.PrintLast Go.Proofs.YtbbembhfnapadaaDoorW.PrintMore PVmPlays Pl
set_option linter.unusedVariables false
set_option linter.unusedSimpArgs false

theorem ta94_94 (v : Value) (W : World) : (Instr.typeAssert (.iface 94 v) 90 94 true).run Tryd.prog W = .ok (.tuple #[v, .bool true]) W := by kernel_rfl
theorem ta94_99 (v : Value) (W : World) : (Instr.typeAssert (.iface 94 v) 90 99 true).run Tryd.prog W = .ok (.tuple #[.agg #[.int .i64 0, .string ⟨#[]⟩], .bool false]) W := by kernel_rfl
theorem ta94_87 (v : Value) (W : World) : (Instr.typeAssert (.iface 94 v) 90 87 true).run Tryd.prog W = .ok (.tuple #[.agg #[.int .i64 0, .int .i64 0, .slice none 0 0], .bool false]) W := by kernel_rfl
theorem ta99_94 (v : Value) (W : World) : (Instr.typeAssert (.iface 99 v) 90 94 true).run Tryd.prog W = .ok (.tuple #[.agg #[.int .i64 0, .int .i64 0], .bool false]) W := by kernel_rfl
theorem ta99_99 (v : Value) (W : World) : (Instr.typeAssert (.iface 99 v) 90 99 true).run Tryd.prog W = .ok (.tuple #[v, .bool true]) W := by kernel_rfl
theorem ta99_87 (v : Value) (W : World) : (Instr.typeAssert (.iface 99 v) 90 87 true).run Tryd.prog W = .ok (.tuple #[.agg #[.int .i64 0, .int .i64 0, .slice none 0 0], .bool false]) W := by kernel_rfl
theorem ta87_94 (v : Value) (W : World) : (Instr.typeAssert (.iface 87 v) 90 94 true).run Tryd.prog W = .ok (.tuple #[.agg #[.int .i64 0, .int .i64 0], .bool false]) W := by kernel_rfl
theorem ta87_99 (v : Value) (W : World) : (Instr.typeAssert (.iface 87 v) 90 99 true).run Tryd.prog W = .ok (.tuple #[.agg #[.int .i64 0, .string ⟨#[]⟩], .bool false]) W := by kernel_rfl
theorem ta87_87 (v : Value) (W : World) : (Instr.typeAssert (.iface 87 v) 90 87 true).run Tryd.prog W = .ok (.tuple #[v, .bool true]) W := by kernel_rfl
theorem ta158_94 (v : Value) (W : World) : (Instr.typeAssert (.iface 158 v) 90 94 true).run Tryd.prog W = .ok (.tuple #[.agg #[.int .i64 0, .int .i64 0], .bool false]) W := by kernel_rfl
theorem ta158_99 (v : Value) (W : World) : (Instr.typeAssert (.iface 158 v) 90 99 true).run Tryd.prog W = .ok (.tuple #[.agg #[.int .i64 0, .string ⟨#[]⟩], .bool false]) W := by kernel_rfl
theorem ta158_87 (v : Value) (W : World) : (Instr.typeAssert (.iface 158 v) 90 87 true).run Tryd.prog W = .ok (.tuple #[.agg #[.int .i64 0, .int .i64 0, .slice none 0 0], .bool false]) W := by kernel_rfl
theorem ta160_94 (v : Value) (W : World) : (Instr.typeAssert (.iface 160 v) 90 94 true).run Tryd.prog W = .ok (.tuple #[.agg #[.int .i64 0, .int .i64 0], .bool false]) W := by kernel_rfl
theorem ta160_99 (v : Value) (W : World) : (Instr.typeAssert (.iface 160 v) 90 99 true).run Tryd.prog W = .ok (.tuple #[.agg #[.int .i64 0, .string ⟨#[]⟩], .bool false]) W := by kernel_rfl
theorem ta160_87 (v : Value) (W : World) : (Instr.typeAssert (.iface 160 v) 90 87 true).run Tryd.prog W = .ok (.tuple #[.agg #[.int .i64 0, .int .i64 0, .slice none 0 0], .bool false]) W := by kernel_rfl
theorem ta0_94 (v : Value) (W : World) : (Instr.typeAssert .nilIface 90 94 true).run Tryd.prog W = .ok (.tuple #[.agg #[.int .i64 0, .int .i64 0], .bool false]) W := by kernel_rfl
theorem ta0_99 (v : Value) (W : World) : (Instr.typeAssert .nilIface 90 99 true).run Tryd.prog W = .ok (.tuple #[.agg #[.int .i64 0, .string ⟨#[]⟩], .bool false]) W := by kernel_rfl
theorem ta0_87 (v : Value) (W : World) : (Instr.typeAssert .nilIface 90 87 true).run Tryd.prog W = .ok (.tuple #[.agg #[.int .i64 0, .int .i64 0, .slice none 0 0], .bool false]) W := by kernel_rfl
def insTo : Ins → Int
  | .lit r _ => r
  | .var r _ => r
  | .dox r _ _ => r
  | .other => 0
def doOk (ys : List Bool) (op : Int) (args : List Int) : Bool := decide (arE op = 0) && (decide (0 < arK op) && (decide (arK op = args.length) && !args.any (badR ys)))
def insOk (ys : List Bool) : Ins → Bool
  | .lit _ _ => true
  | .var _ s => nameL (runes s 0)
  | .dox _ op args => doOk ys op args
  | .other => false
/-- What is small enough: the names and the lists of an instruction. -/
def insFit : Ins → Prop
  | .var _ s => s.size ≤ maxLen
  | .dox _ _ args => args.length ≤ 140737488351232
  | _ => True

set_option maxRecDepth 20000 in
set_option maxHeartbeats 1000000 in
theorem to_calls (x : Ins) (v : Value) (ys : List Bool) (A : Option Addr) (c : Nat) (w : World) (hx : kI.K w x [v]) (hf : insFit x) (hC : Kd.bool.C w A ys.length ys) (hT : Tabs w) :
    Calls Tryd.prog 62 #[v, .slice A ys.length c] w fun e w' => e = .returned (.tuple #[.int .i64 (insTo x), .bool (insOk ys x)]) ∧ Below w.heap.size w w' := by
  have HC := Aside0.mk hC; clear hC
  have HT := Aside0.mk hT; clear hT
  cases x with
  | lit r n =>
    obtain rfl : v = .iface 94 (.agg #[.int .i64 r, .int .i64 n]) := List.cons.inj hx |>.1
    clear hx hf
    have h_ta94_94 := fun v W => ta94_94 v W
    have h_ta94_99 := fun v W => ta94_99 v W
    have h_ta94_87 := fun v W => ta94_87 v W
    go_enter Tryd.func62, Tryd.ntmps62
    go_wp2_with fail
    go_ret2
    exact ⟨rfl, below_alloc (below_alloc (Below.refl _ _) _) _⟩
  | var r s =>
    obtain rfl : v = .iface 99 (.agg #[.int .i64 r, .string s]) := List.cons.inj hx |>.1
    clear hx
    have hs : s.size ≤ maxLen := hf
    have HS := Aside0.mk hs; clear hs hf
    have hi : insOk ys (.var r s) = nameL (runes s 0) := rfl
    have HI := Aside0.mk hi; clear hi
    have h_ta99_94 := fun v W => ta99_94 v W
    have h_ta99_99 := fun v W => ta99_99 v W
    have h_ta99_87 := fun v W => ta99_87 v W
    go_enter Tryd.func62, Tryd.ntmps62
    go_upto_region 7 with (fail)
    have hb0 : Below w.heap.size w (((w.alloc (.cells #[.slice A ys.length c] 119)).alloc (.cells #[.int .i64 r, .string s] 99)).drew) := below_drew (below_alloc (below_alloc (Below.refl _ _) _) _)
    have HB0 := Aside0.mk hb0; clear hb0
    have HT0 := Aside0.mk (HT.out.below HB0.out)
    refine start_ (n := 7) (S := fun w' => w'.cell? ⟨w.heap.size + 1, 0, none⟩ = some (.int .i64 r) ∧ w'.cell? ⟨w.heap.size + 1, 1, none⟩ = some (.string s)) (ds := []) #[false, false, false, false, false, false, false] (by kernel_rfl) rfl rfl ⟨(by go_simp), (by go_simp)⟩ (fun hHeld => ?_)
    refine pure_ (i := 0) (N := some 21) (v := ?_) (a' := ?_) #[true, false, false, false, false, false, false] rfl rfl (by kernel_rfl) (fun _ _ _ h => h) (Or.inl ⟨by rfl, ?_⟩) ?_ ?_
    rotate_left
    · intro w'
      go_simp
      with_reducible rfl
    rotate_left
    · simp only [Act.put, List.setIfInBounds_toArray, List.set_cons_zero, List.set_cons_succ, i64_w, i32_w]
      rfl
    refine pure_ (i := 2) (N := some 23) (v := ?_) (a' := ?_) #[true, false, true, false, false, false, false] rfl rfl (by kernel_rfl) (fun _ _ _ h => h) (Or.inl ⟨by rfl, ?_⟩) ?_ ?_
    rotate_left
    · intro w'
      go_simp
      with_reducible rfl
    rotate_left
    · simp only [Act.put, List.setIfInBounds_toArray, List.set_cons_zero, List.set_cons_succ, i64_w, i32_w]
      rfl
    refine take_ (i := 1) (N := some 22) (v := ?_) (a' := ?_) #[true, true, true, false, false, false, false] rfl rfl (by kernel_rfl) (fun _ _ _ h => h) (Or.inl ⟨by rfl, ?_⟩) hHeld ?_ ?_
    rotate_left
    · rintro w' ⟨s0, s1⟩
      go_simp
      with_reducible rfl
    rotate_left
    · simp only [Act.put, List.setIfInBounds_toArray, List.set_cons_zero, List.set_cons_succ, i64_w, i32_w]
      rfl
    refine take_ (i := 3) (N := some 24) (v := ?_) (a' := ?_) #[true, true, true, true, false, false, false] rfl rfl (by kernel_rfl) (fun _ _ _ h => h) (Or.inl ⟨by rfl, ?_⟩) hHeld ?_ ?_
    rotate_left
    · rintro w' ⟨s0, s1⟩
      go_simp
      with_reducible rfl
    rotate_left
    · simp only [Act.put, List.setIfInBounds_toArray, List.set_cons_zero, List.set_cons_succ, i64_w, i32_w]
      rfl
    refine one_ (i := 4) (N := some 25) #[true, true, true, true, true, false, false] rfl rfl (by kernel_rfl) (by decide) (fun K hK => ?_)
    refine goes_ Tryd.func93 (by kernel_rfl) rfl #[.string s] (by rfl) rfl rfl (by (try simp only [List.map_toArray, List.map_cons, List.map_nil]); first | done | rfl) ?_
    with_reducible refine (name_calls s HS.out _ HT0.out).mono ?_
    rintro e w4 ⟨rfl, hb4⟩
    refine ⟨_, rfl, ?_⟩
    have HB4 := Aside0.mk (HB0.out.trans (below_base hb4 HB0.out.size))
    refine hK.out _ _ ⟨(pw_cell_below hb4 hHeld.1), (pw_cell_below hb4 hHeld.2)⟩ (fun hHeld => ?_)
    clear hK K
    refine norm_ (a' := ?_) ?_ ?_
    rotate_left
    · show Act.put _ (some 25) _ = _
      simp only [Act.put, List.setIfInBounds_toArray, List.set_cons_zero, List.set_cons_succ, i64_w, i32_w]
      rfl
    refine pure_ (i := 5) (N := some 4) (v := ?_) (a' := ?_) #[true, true, true, true, true, true, false] rfl rfl (by kernel_rfl) (fun _ _ _ h => h) (Or.inl ⟨by rfl, ?_⟩) ?_ ?_
    rotate_left
    · intro w'
      go_simp
      with_reducible rfl
    rotate_left
    · simp only [Act.put, List.setIfInBounds_toArray, List.set_cons_zero, List.set_cons_succ, i64_w, i32_w]
      rfl
    refine pure_ (i := 6) (N := some 5) (v := ?_) (a' := ?_) #[true, true, true, true, true, true, true] rfl rfl (by kernel_rfl) (fun _ _ _ h => h) (Or.inl ⟨by rfl, ?_⟩) ?_ ?_
    rotate_left
    · intro w'
      go_simp
      with_reducible rfl
    rotate_left
    · simp only [Act.put, List.setIfInBounds_toArray, List.set_cons_zero, List.set_cons_succ, i64_w, i32_w]
      rfl
    refine done_ (by kernel_rfl) ?_
    go_wp2_with fail
    go_ret2
    exact ⟨by rw [HI.out]; rfl, HB4.out⟩
  | dox r op args =>
    obtain ⟨u, hu, hv⟩ := hx
    obtain rfl : v = .iface 87 (.agg #[.int .i64 r, .int .i64 op, u]) := List.cons.inj hv |>.1
    clear hv
    obtain ⟨B, d, hv, hd, hX⟩ := hu
    obtain rfl : u = .slice B args.length d := List.cons.inj hv |>.1
    clear hv
    have HX := Aside0.mk hX; clear hX
    have hl : args.length ≤ 140737488351232 := hf
    clear hf
    have hi : insOk ys (.dox r op args) = doOk ys op args := rfl
    have HI := Aside0.mk hi; clear hi
    have HD : Aside0 (doOk ys op args = (decide (arE op = 0) && (decide (0 < arK op) && (decide (arK op = args.length) && !args.any (badR ys))))) := ⟨rfl⟩
    have h_ta87_94 := fun v W => ta87_94 v W
    have h_ta87_99 := fun v W => ta87_99 v W
    have h_ta87_87 := fun v W => ta87_87 v W
    go_enter Tryd.func62, Tryd.ntmps62
    go_wp2_with fail
    refine (arity_calls op _).mono ?_
    rintro e w1 ⟨rfl, ⟨n, rfl⟩⟩
    generalize arE op = ae at *
    generalize arK op = ak at *
    generalize hbd : args.any (badR ys) = bd at *
    go_wp2_with fail
    have hb1 : Below w.heap.size w (((w.alloc (.cells #[.slice A ys.length c] 119)).alloc (.cells #[.int .i64 r, .int .i64 op, .slice B args.length d] 87)).drewN n) := pw_below_drewN (below_alloc (below_alloc (Below.refl _ _) _) _) n
    have HB1 := Aside0.mk hb1; clear hb1
    refine (cfun_calls ys A c w.heap.size args B d _ (Kd.C_below HC.out HB1.out) (by go_simp) (Kd.C_below HX.out HB1.out) hl).mono ?_
    rintro e w' ⟨rfl, rfl⟩
    rw [hbd]
    clear hbd
    by_cases e0 : ae = 0
    · have f0 : (ae == 0) = true := by simp [e0]
      by_cases e1 : 0 < ak
      · have f1 : decide (0 < ak) = true := decide_eq_true e1
        by_cases e2 : ak = args.length
        · have f2 : (ak == (args.length : Int)) = true := by simp [e2]
          have HD1 : Aside0 (doOk ys op args = !bd) := ⟨by rw [HD.out, decide_eq_true e0, f1, decide_eq_true e2]; rfl⟩
          clear HD
          have H0 := Lib.hid e0; have H1 := Lib.hid e1; have H2 := Lib.hid e2; clear e0 e1 e2
          rcases Bool.eq_false_or_eq_true bd with rfl | rfl
          all_goals
            go_wp2_with fail
            go_ret2
            exact ⟨by rw [HI.out, HD1.out]; rfl, HB1.out⟩
        · have f2 : (ak == (args.length : Int)) = false := by simp [e2]
          have HD1 : Aside0 (doOk ys op args = false) := ⟨by rw [HD.out, decide_eq_false e2, Bool.false_and, Bool.and_false, Bool.and_false]⟩
          clear HD
          have H0 := Lib.hid e0; have H1 := Lib.hid e1; have H2 := Lib.hid e2; clear e0 e1 e2
          go_wp2_with fail
          go_ret2
          exact ⟨by rw [HI.out, HD1.out]; rfl, HB1.out⟩
      · have f1 : decide (0 < ak) = false := decide_eq_false e1
        have HD1 : Aside0 (doOk ys op args = false) := ⟨by rw [HD.out, f1, Bool.false_and, Bool.and_false]⟩
        clear HD
        have H0 := Lib.hid e0; have H1 := Lib.hid e1; clear e0 e1
        go_wp2_with fail
        go_ret2
        exact ⟨by rw [HI.out, HD1.out]; rfl, HB1.out⟩
    · have f0 : (ae == 0) = false := by simp [e0]
      have HD1 : Aside0 (doOk ys op args = false) := ⟨by rw [HD.out, decide_eq_false e0, Bool.false_and]⟩
      clear HD
      have H0 := Lib.hid e0; clear e0
      go_wp2_with fail
      go_ret2
      exact ⟨by rw [HI.out, HD1.out]; rfl, HB1.out⟩
  | other =>
    have hi : insOk ys .other = false := rfl
    have HI := Aside0.mk hi; clear hi
    rcases hx with hx | ⟨a, hx⟩ | hx
    · obtain rfl : v = .nilIface := List.cons.inj hx |>.1
      clear hx hf
      have h_ta0_94 := fun W => ta0_94 .nilIface W
      have h_ta0_99 := fun W => ta0_99 .nilIface W
      have h_ta0_87 := fun W => ta0_87 .nilIface W
      go_enter Tryd.func62, Tryd.ntmps62
      go_wp2_with fail
      go_ret2
      exact ⟨rfl, below_alloc (Below.refl _ _) _⟩
    · obtain rfl : v = .iface 158 a := List.cons.inj hx |>.1
      clear hx hf
      have h_ta158_94 := fun v W => ta158_94 v W
      have h_ta158_99 := fun v W => ta158_99 v W
      have h_ta158_87 := fun v W => ta158_87 v W
      go_enter Tryd.func62, Tryd.ntmps62
      go_wp2_with fail
      go_ret2
      exact ⟨rfl, below_alloc (Below.refl _ _) _⟩
    · obtain rfl : v = .iface 160 (.agg #[]) := List.cons.inj hx |>.1
      clear hx hf
      have h_ta160_94 := fun v W => ta160_94 v W
      have h_ta160_99 := fun v W => ta160_99 v W
      have h_ta160_87 := fun v W => ta160_87 v W
      go_enter Tryd.func62, Tryd.ntmps62
      go_wp2_with fail
      go_ret2
      exact ⟨rfl, below_alloc (Below.refl _ _) _⟩
end Go.Proofs.YtbbembhfnapadaaDoor
