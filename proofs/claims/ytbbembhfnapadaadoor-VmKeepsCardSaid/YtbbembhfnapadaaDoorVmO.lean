/- What comes in at the types of the vm laws. -/
import Derived.Test.YtbbembhfnapadaaDoorVmJ
import Derived.Test.YtbbembhfnapadaaDoorOpn
namespace Go.Proofs.YtbbembhfnapadaaDoor
open Go.RowKit Go.Proofs.YtbbembhfnapadaaDoorW.PrintWords Go.Proofs.YtbbembhfnapadaaDoorW.PrintLast Go.Proofs.YtbbembhfnapadaaDoorW.PrintMore PVmPlays Go.ChangeShapes Go.WideShapes
set_option linter.unusedVariables false

section
variable {H : Type} {enc : TypeId × Value → H} {w : World} {base : Nat} {spare : Nat → Bool} {held : Bool}
theorem opens3 : Opens enc Tryd.prog w base spare held 3 (Kd.int .i64) (fun a => (Lit.int .i64 a).wf = true) := opens_int (by kernel_rfl) Tryd.underlying3
theorem opens2 : Opens enc Tryd.prog w base spare held 2 (Kd.int .i64) (fun a => (Lit.int .i64 a).wf = true) := opens_int (by kernel_rfl) Tryd.underlying2
theorem opens9 : Opens enc Tryd.prog w base spare held 9 Kd.string (fun s => s.size ≤ reachBytes ∧ s.size ≤ maxLen) := opens_string (by kernel_rfl) Tryd.underlying9
theorem opens35 : Opens enc Tryd.prog w base spare held 35 (Kd.slice 3 (Kd.int .i64)) (fun xs => xs.length * Tryd.prog.bytesOf 3 ≤ reachBytes ∧ ∀ x ∈ xs, (Lit.int .i64 x).wf = true) := opens_slice 3 (by kernel_rfl) Tryd.underlying35 opens3
theorem opens39 : Opens enc Tryd.prog w base spare held 39 k39 (fun b => b.f0.size ≤ maxLen ∧ (Lit.int .i64 b.f1).wf = true) := by
  refine ⟨by kernel_rfl, fun fuel cs x h => ?_⟩
  obtain ⟨hl, hf⟩ := opens_fields Tryd.underlying39 (by kernel_rfl) (by kernel_rfl) h
  obtain ⟨v0, y0, n0, e0, t0, w0⟩ := hf 0 _ rfl
  obtain ⟨v1, y1, n1, e1, t1, w1⟩ := hf 1 _ rfl
  obtain ⟨a0, k0, g0⟩ := opens9.opens _ _ _ t0
  obtain ⟨a1, k1, g1⟩ := opens2.opens _ _ _ t1
  obtain rfl : v0 = .string a0 := List.cons.inj k0 |>.1
  obtain rfl : v1 = .int .i64 a1 := List.cons.inj k1 |>.1
  obtain rfl : cs = [.string a0, .int .i64 a1] := by
    match cs, hl with
    | [c0, c1], _ => simp_all
  exact ⟨⟨a0, a1⟩, k39_mk w ⟨a0, a1⟩, fun hn => ⟨(g0 (w0 hn)).2, g1 (w1 hn)⟩⟩
theorem opens37 : Opens enc Tryd.prog w base spare held 37 k37 (fun x => x.f4.size ≤ maxLen ∧ x.f5.length * Tryd.prog.bytesOf 3 ≤ reachBytes) := by
  refine ⟨by kernel_rfl, fun fuel cs x h => ?_⟩
  obtain ⟨hl, hf⟩ := opens_fields Tryd.underlying37 (by kernel_rfl) (by kernel_rfl) h
  obtain ⟨v0, y0, n0, e0, t0, w0⟩ := hf 0 _ rfl
  obtain ⟨v1, y1, n1, e1, t1, w1⟩ := hf 1 _ rfl
  obtain ⟨v2, y2, n2, e2, t2, w2⟩ := hf 2 _ rfl
  obtain ⟨v3, y3, n3, e3, t3, w3⟩ := hf 3 _ rfl
  obtain ⟨v4, y4, n4, e4, t4, w4⟩ := hf 4 _ rfl
  obtain ⟨v5, y5, n5, e5, t5, w5⟩ := hf 5 _ rfl
  obtain ⟨a0, k0, g0⟩ := opens3.opens _ _ _ t0
  obtain ⟨a1, k1, g1⟩ := opens3.opens _ _ _ t1
  obtain ⟨a2, k2, g2⟩ := opens3.opens _ _ _ t2
  obtain ⟨a3, k3, g3⟩ := opens2.opens _ _ _ t3
  obtain ⟨a4, k4, g4⟩ := opens9.opens _ _ _ t4
  obtain ⟨a5, k5, g5⟩ := opens35.opens _ _ _ t5
  obtain rfl : v0 = .int .i64 a0 := List.cons.inj k0 |>.1
  obtain rfl : v1 = .int .i64 a1 := List.cons.inj k1 |>.1
  obtain rfl : v2 = .int .i64 a2 := List.cons.inj k2 |>.1
  obtain rfl : v3 = .int .i64 a3 := List.cons.inj k3 |>.1
  obtain rfl : v4 = .string a4 := List.cons.inj k4 |>.1
  obtain ⟨A5, c5, k5, l5, r5⟩ := k5
  obtain rfl : v5 = .slice A5 a5.length c5 := List.cons.inj k5 |>.1
  obtain rfl : cs = [.int .i64 a0, .int .i64 a1, .int .i64 a2, .int .i64 a3, .string a4, .slice A5 a5.length c5] := by
    match cs, hl with
    | [c0, c1, c2, c3, c4, c5], _ => simp_all
  exact ⟨⟨a0, a1, a2, a3, a4, a5⟩, k37_mk w ⟨a0, a1, a2, a3, a4, a5⟩ l5 r5, fun hn => ⟨(g4 (w4 hn)).2, (g5 (w5 hn)).1⟩⟩
theorem opens25 : Opens enc Tryd.prog w base spare held 25 (Kd.slice 39 k39) (fun xs => xs.length * Tryd.prog.bytesOf 39 ≤ reachBytes ∧ ∀ x ∈ xs, x.f0.size ≤ maxLen ∧ (Lit.int .i64 x.f1).wf = true) := opens_slice 39 (by kernel_rfl) Tryd.underlying25 opens39
theorem opens22 : Opens enc Tryd.prog w base spare held 22 (Kd.slice 37 k37) (fun xs => xs.length * Tryd.prog.bytesOf 37 ≤ reachBytes ∧ ∀ x ∈ xs, x.f4.size ≤ maxLen ∧ x.f5.length * Tryd.prog.bytesOf 3 ≤ reachBytes) := opens_slice 37 (by kernel_rfl) Tryd.underlying22 opens37
theorem bytes3 : Tryd.prog.bytesOf 3 = 8 := by kernel_rfl
theorem bytes37 : Tryd.prog.bytesOf 37 = 72 := by kernel_rfl
theorem bytes39 : Tryd.prog.bytesOf 39 = 24 := by kernel_rfl

set_option maxRecDepth 100000 in
/-- A list of bindings that came in. -/
theorem open_binds {r : Reach} {b0 : Nat} {v : Value} {d : DataW H} {p : List MemPlace} (hv : Value.okWide Tryd.prog w r b0 25 v) (h : DataW.Trod enc Tryd.prog w base spare held 25 v d p) (hn : ∀ n ∈ d.weights Tryd.prog 25, n ≤ reachBytes) :
    ∃ (bs : List S39) (B : Option Addr) (c : Nat), v = .slice B bs.length c ∧ bs.length ≤ c ∧ k39.C w B bs.length bs ∧ bs.length * 24 ≤ 140737488351232 ∧ ∀ x ∈ bs, x.f0.size ≤ maxLen ∧ (Lit.int .i64 x.f1).wf = true := by
  obtain ⟨a, len, cap, rfl⟩ := okWide_slice Tryd.underlying25 hv
  obtain ⟨fuel, hf⟩ := h
  obtain ⟨bs, ⟨B, c, he, hl, hC⟩, hG⟩ := opens25.opens _ _ _ hf
  have hv : Value.slice a len cap = .slice B bs.length c := List.cons.inj (show [Value.slice a len cap] = [.slice B bs.length c] from he) |>.1
  have hg := hG hn
  rw [bytes39] at hg
  exact ⟨bs, B, c, hv, hl, hC, hg.1, hg.2⟩
set_option maxRecDepth 100000 in
/-- A program that came in. -/
theorem open_code {r : Reach} {b0 : Nat} {v : Value} {d : DataW H} {p : List MemPlace} (hv : Value.okWide Tryd.prog w r b0 24 v) (h : DataW.Trod enc Tryd.prog w base spare held 24 v d p) (hn : ∀ n ∈ d.weights Tryd.prog 24, n ≤ reachBytes) :
    ∃ (xs : List S37) (A : Option Addr) (c : Nat) (regs out : Int), v = .agg #[.slice A xs.length c, .int .i64 regs, .int .i64 out] ∧ xs.length ≤ c ∧ Kd.C k37 w A xs.length xs ∧ Fits xs ∧ (Lit.int .i64 regs).wf = true ∧ (Lit.int .i64 out).wf = true := by
  obtain ⟨v0, v1, v2, y0, y1, y2, n, rfl, rfl, rfl, t0, t1, t2⟩ := Go.Joins.open_agg3 Tryd.underlying24 (by kernel_rfl) (by kernel_rfl) hv h
  obtain ⟨xs, ⟨A, c, k0, hl, hC⟩, g0⟩ := opens22.opens _ _ _ t0
  obtain ⟨regs, k1, g1⟩ := opens3.opens _ _ _ t1
  obtain ⟨out, k2, g2⟩ := opens3.opens _ _ _ t2
  obtain rfl : v0 = .slice A xs.length c := List.cons.inj k0 |>.1
  obtain rfl : v1 = .int .i64 regs := List.cons.inj k1 |>.1
  obtain rfl : v2 = .int .i64 out := List.cons.inj k2 |>.1
  have e : (DataW.agg [y0.1, y1.1, y2.1]).weights Tryd.prog 24 = DataW.weightsEach Tryd.prog [22, 3, 3] [y0.1, y1.1, y2.1] := by simp [DataW.weights, Tryd.underlying24]
  rw [e] at hn
  have hg := g0 (fun n h => hn n (weights_each (j := 0) rfl rfl n h))
  rw [bytes3, bytes37] at hg
  exact ⟨xs, A, c, regs, out, rfl, hl, hC, ⟨hg.1, fun x hx => (hg.2 x hx).2, fun x hx => (hg.2 x hx).1⟩, g1 (fun n h => hn n (weights_each (j := 1) rfl rfl n h)), g2 (fun n h => hn n (weights_each (j := 2) rfl rfl n h))⟩
end
end Go.Proofs.YtbbembhfnapadaaDoor
