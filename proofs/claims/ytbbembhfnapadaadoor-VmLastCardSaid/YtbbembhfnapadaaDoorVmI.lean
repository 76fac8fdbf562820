/- The walks of awake, copied and VmNames. -/
import Derived.Test.YtbbembhfnapadaaDoorVmH
namespace Go.Proofs.YtbbembhfnapadaaDoor
open Go.RowKit Go.Proofs.YtbbembhfnapadaaDoorW.PrintWords Go.Proofs.YtbbembhfnapadaaDoorW.PrintLast Go.Proofs.YtbbembhfnapadaaDoorW.PrintMore PVmPlays Pl
set_option linter.unusedVariables false
set_option linter.unusedSimpArgs false

theorem copied_calls (bs : List S39) (B : Option Addr) (d : Nat) (w : World) (hB : k39.C w B bs.length bs) (hd : bs.length ≤ d) (hl : bs.length * 24 ≤ 140737488351232) :
    Calls Tryd.prog 17 #[.slice B bs.length d] w fun e w' => ∃ v, e = .returned v ∧ Kd.R k39 39 w' w.heap.size (fun _ => True) v bs ∧ Below w.heap.size w w' := by
  refine (sorrellaw24_copied.calls B d bs bs w hB hd ?_).mono ?_
  · unfold sorrellaw24_copied.f
    simp only [Option.bind_some, List.length_nil, List.nil_append]
    exact if_pos (by omega)
  · rintro e w' h
    exact h
theorem awake_run : runP [Ins.lit 0 7] 1 0 [] = (7, 0) := by decide
set_option maxRecDepth 20000 in
theorem awake24_calls (w : World) (hT : Tabs w) : Calls Tryd.prog 14 #[] w fun e w' => e = .returned (.bool true) ∧ Below w.heap.size w w' := by
  have HT := Aside0.mk hT; clear hT
  have HA := Aside0.mk awake_run
  go_enter Tryd.func14, Tryd.ntmps14
  go_wp2_with (first | ((with_reducible refine gate_dst (N := 6) rfl ?_); refine Kd.R_lit kI _ 90 ?hg (N := 6) ?hd (xs := [Ins.lit 0 7]) (inner := [.iface 94 (.agg #[.int .i64 0, .int .i64 7])]) (ok := fun _ => True) (okp := fun _ => True) ?hr ?hp (fun _ hk => hk) trivial (Below.refl _ _) (Nat.le_refl _) (by simp) ?_; (case hd => rfl); (case hg => rfl); (case hr => first | (go_simp; done) | (go_simp; rfl)); (case hp => exact (Reps.one rfl (Reps.none _ _))); intro v6 w1 ho hb hg_ hnew_; clear hg_ hnew_; have HO := Aside0.mk ho; have HB := Aside0.mk hb; clear ho hb; obtain ⟨A6, c6, h6, l6, r6⟩ := Kd.R_reads HO.out; subst h6; have HR6 := Aside0.mk r6; have HL6 := Aside0.mk l6; clear r6 l6))
  refine (vrun_calls [Ins.lit 0 7] A6 c6 1 0 [] none 0 w1 HL6.out HR6.out (fun x hx => by rw [List.mem_singleton.1 hx]; exact trivial) ⟨rfl, Nat.zero_le _, fun h => absurd h (Nat.lt_irrefl _)⟩ (Nat.le_refl _) (by decide) (HT.out.below HB.out)).mono ?_
  rintro e w2 ⟨rfl, hb2⟩
  rw [HA.out]
  have HB2 : Aside0 (Below w.heap.size w w2) := ⟨HB.out.trans (below_base hb2 HB.out.size)⟩
  clear hb2
  go_wp2_with fail
  go_ret
  exact ⟨rfl, HB2.out⟩
end Go.Proofs.YtbbembhfnapadaaDoor
