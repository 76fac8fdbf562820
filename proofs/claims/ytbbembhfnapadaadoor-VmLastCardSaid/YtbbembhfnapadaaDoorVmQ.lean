/- The plain law of VmLast. -/
import Derived.Test.YtbbembhfnapadaaDoorVmP
namespace Go.Proofs.YtbbembhfnapadaaDoor
open Go.RowKit Go.Proofs.YtbbembhfnapadaaDoorW.PrintWords Go.Proofs.YtbbembhfnapadaaDoorW.PrintLast Go.Proofs.YtbbembhfnapadaaDoorW.PrintMore PVmPlays Pl
set_option linter.unusedVariables false
set_option linter.unusedSimpArgs false

theorem last_lt (xs : List S37) (out : Int) : ∀ i, lastN xs out i < i ∧ -1 ≤ lastN xs out i
  | 0 => by unfold lastN; omega
  | i + 1 => by
    have := last_lt xs out i
    unfold lastN
    split <;> omega
theorem last_is (xs : List S37) (out : Int) : ∀ (i j : Nat), lastN xs out i = j → (rd_T37 xs j).f1 = out
  | 0, j, h => by unfold lastN at h; omega
  | i + 1, j, h => by
    unfold lastN at h
    by_cases e : (rd_T37 xs i).f1 = out
    · rw [if_pos e] at h
      have : i = j := by omega
      subst this
      exact e
    · rw [if_neg e] at h
      exact last_is xs out i j h
theorem last_at (xs : List S37) (out : Int) (j : Nat) (h : (rd_T37 xs j).f1 = out) : lastN xs out (j + 1) = j := by
  unfold lastN
  rw [if_pos h]
def litS (r n : Int) : S37 := ⟨1, r, 0, n, ⟨#[]⟩, []⟩
theorem trace_bad (zs : List Ins) (regs out : Int) (bs : List S39) (h : (traceP zs regs out bs).2 ≠ 0) : (runP zs regs out bs).2 = (traceP zs regs out bs).2 ∧ (traceP zs regs out bs).1 = [] ∧ (runP zs regs out bs).1 = 0 := by
  unfold traceP runP at *
  by_cases hc : chkP zs regs out = 0
  · rw [if_pos hc] at h ⊢
    rw [if_pos hc]
    cases hr : runL bs zs (List.replicate regs.toNat 0) [] with
    | none => exact ⟨rfl, rfl, rfl⟩
    | some p => rw [hr] at h; exact absurd rfl h
  · rw [if_neg hc] at h ⊢
    rw [if_neg hc]
    exact ⟨rfl, rfl, rfl⟩
theorem chk_of {xs : List Ins} {m : Nat} {out : Int} {y : List Bool} (hf : fitP xs.length m out) (hc : chkL (m : Int) xs (List.replicate m false) = some y) (hy : ybAt y out = true) : chkP xs m out = 0 := by
  unfold chkP
  rw [if_pos hf, Int.toNat_natCast, hc]
  exact if_pos hy
theorem run_of {xs : List Ins} {m : Nat} {out : Int} {bs : List S39} {p : List Int × List Int} (hc : chkP xs m out = 0) (hr : runL bs xs (List.replicate m 0) [] = some p) : runP xs m out bs = (rd p.2 out, 0) := by
  unfold runP
  rw [if_pos hc, Int.toNat_natCast, hr]
  rfl
theorem trace_good (xs : List S37) (regs out : Int) (bs : List S39) (h : (traceP (xs.map insOf) regs out bs).2 = 0) :
    ∃ (j : Nat) (v : Int), runP (xs.map insOf) regs out bs = (v, 0) ∧ (traceP (xs.map insOf) regs out bs).1.length = xs.length ∧ lastN xs out xs.length = j ∧ j < xs.length ∧ v = rd (traceP (xs.map insOf) regs out bs).1 j ∧ xs.length ≤ 128 ∧ 1 ≤ regs ∧ regs ≤ 64 ∧
      runP ((xs.take (j + 1)).map insOf) regs out bs = (v, 0) ∧ (regs < 64 → xs.length < 128 → runP ((xs ++ [litS regs 9]).map insOf) (regs + 1) out bs = (v, 0)) := by
  have hc : chkP (xs.map insOf) regs out = 0 := by
    by_cases hc : chkP (xs.map insOf) regs out = 0
    · exact hc
    · unfold traceP at h; rw [if_neg hc] at h; cases h
  have hT : traceP (xs.map insOf) regs out bs = traceE (runL bs (xs.map insOf) (List.replicate regs.toNat 0) []) := if_pos hc
  obtain ⟨hf, yE, hy⟩ := chk_zero hc
  have hyo : ybAt yE out = true := by
    have h2 := hc
    unfold chkP at h2
    rw [if_pos hf, hy] at h2
    by_cases hq : ybAt yE out = true
    · exact hq
    · have : chkE out (some yE) = 1 := if_neg hq
      omega
  have hf' := hf
  unfold fitP at hf'
  rw [List.length_map] at hf'
  obtain ⟨m, hm⟩ := Int.eq_ofNat_of_zero_le (show 0 ≤ regs by omega)
  subst hm
  rw [Int.toNat_natCast] at hT hy
  cases hr : runL bs (xs.map insOf) (List.replicate m 0) [] with
  | none => rw [hT, hr] at h; cases h
  | some p =>
    obtain ⟨wE, rE⟩ := p
    rw [hr] at hT
    have hT1 : (traceP (xs.map insOf) (m : Int) out bs).1 = wE := by rw [hT]; rfl
    have hall := at_all bs xs m out (by omega) (by omega) yE wE rE hy hr
    obtain ⟨ys, rg, wl, A⟩ := hall xs.length (Nat.le_refl _)
    have htk : (xs.map insOf).take xs.length = xs.map insOf := by rw [List.take_of_length_le (by rw [List.length_map]; exact Nat.le_refl _)]
    have hA1 := A.chk
    rw [htk, hy] at hA1
    obtain rfl := Option.some.inj hA1
    have hA2 := A.run
    rw [htk, hr] at hA2
    obtain ⟨rfl, rfl⟩ := Prod.mk.inj (Option.some.inj hA2)
    have hpos : 0 ≤ lastN xs out xs.length := by
      rcases Int.lt_or_le (lastN xs out xs.length) 0 with hn | hn
      · have := A.none hn; rw [hyo] at this; cases this
      · exact hn
    obtain ⟨j, hj⟩ := Int.eq_ofNat_of_zero_le hpos
    obtain ⟨l1, l2, _⟩ := A.last hpos
    rw [hj] at l1 l2
    have hjl : j < xs.length := by omega
    have hjo := last_is xs out xs.length j hj
    refine ⟨j, rd rE out, ?_, ?_, hj, hjl, ?_, by omega, by omega, by omega, ?_, ?_⟩
    · exact run_of hc hr
    · rw [hT1]; exact A.lw
    · rw [hT1]; exact l2
    · obtain ⟨ys2, rg2, wl2, B⟩ := hall (j + 1) (by omega)
      have hla := last_at xs out j hjo
      obtain ⟨_, b2, b3⟩ := B.last (by rw [hla]; omega)
      rw [hla] at b2
      have hmt : (xs.take (j + 1)).map insOf = (xs.map insOf).take (j + 1) := List.map_take
      have hlen : ((xs.map insOf).take (j + 1)).length = j + 1 := by rw [List.length_take, List.length_map]; omega
      have hcs : chkP ((xs.map insOf).take (j + 1)) (m : Int) out = 0 := chk_of (by unfold fitP; rw [hlen]; omega) B.chk b3
      rw [hmt, run_of hcs B.run]
      have hsp : xs.map insOf = (xs.map insOf).take (j + 1) ++ (xs.map insOf).drop (j + 1) := (List.take_append_drop _ _).symm
      have hr2 := hr
      rw [hsp, runL_append, B.run] at hr2
      simp only [Option.bind_some] at hr2
      obtain ⟨t, ht, _⟩ := runL_more_out bs _ _ _ _ _ hr2
      have hlw := B.lw
      have : rd rg2 out = rd rE out := by
        rw [b2, l2, ht]
        unfold rd
        rw [Int.toNat_natCast, List.getD_eq_getElem?_getD, List.getD_eq_getElem?_getD, List.getElem?_append_left (by omega)]
      rw [this]
    · intro g1 g2
      have hmo := more_reg bs m (xs.map insOf) (List.replicate m false) yE (List.replicate m 0) [] List.length_replicate List.length_replicate hy
      have e1 : List.replicate m false ++ [false] = List.replicate (m + 1) false := (List.replicate_succ' ..).symm
      have e2 : List.replicate m (0 : Int) ++ [0] = List.replicate (m + 1) 0 := (List.replicate_succ' ..).symm
      rw [e1, e2, hr] at hmo
      have hly := hmo.2.2.1
      have hlr := hmo.2.2.2 _ _ rfl
      have hins : insOf (litS (m : Int) 9) = .lit m 9 := rfl
      have hchk : chkL ((m + 1 : Nat) : Int) ((xs ++ [litS (m : Int) 9]).map insOf) (List.replicate (m + 1) false) = some ((yE ++ [false]).set m true) := by
        rw [List.map_append, chkL_append, show ((m + 1 : Nat) : Int) = (m : Int) + 1 by omega, hmo.1]
        simp only [Option.bind_some, List.map_cons, List.map_nil, hins, chkL]
        rw [if_pos ⟨rfl, by show (0 : Int) ≤ m; omega, by show (m : Int) < m + 1; omega⟩]
        rfl
      have hrun : runL bs ((xs ++ [litS (m : Int) 9]).map insOf) (List.replicate (m + 1) 0) [] = some (wE ++ [9], (rE ++ [0]).set m 9) := by
        rw [List.map_append, runL_append, hmo.2.1]
        simp only [Option.map_some, Option.bind_some, List.map_cons, List.map_nil, hins]
        rfl
      have hcs : chkP ((xs ++ [litS (m : Int) 9]).map insOf) ((m + 1 : Nat) : Int) out = 0 := by
        refine chk_of ?_ hchk ?_
        · unfold fitP
          rw [List.length_map, List.length_append, List.length_singleton]
          omega
        · have := yb_set (yE ++ [false]) (m : Int) out (by omega) (by omega) (by rw [List.length_append, List.length_singleton]; omega)
          rw [Int.toNat_natCast] at this
          rw [this, if_neg (by omega)]
          rw [← hyo]
          unfold ybAt
          rw [List.getD_eq_getElem?_getD, List.getD_eq_getElem?_getD, List.getElem?_append_left (by omega)]
      rw [show ((m : Int) + 1) = ((m + 1 : Nat) : Int) by omega, run_of hcs hrun]
      have := rd_set (rE ++ [0]) (m : Int) out 9 (by omega) (by omega) (by rw [List.length_append, List.length_singleton]; omega)
      rw [Int.toNat_natCast] at this
      show (rd ((rE ++ [0]).set m 9) out, (0 : Int)) = _
      rw [this, if_neg (by omega), rd_more]
end Go.Proofs.YtbbembhfnapadaaDoor
