/- Plain facts on programs: prefixes, a register more. -/
import Derived.Test.YtbbembhfnapadaaDoorVmJ
namespace Go.Proofs.YtbbembhfnapadaaDoor
open Go.RowKit Go.Proofs.YtbbembhfnapadaaDoorW.PrintWords Go.Proofs.YtbbembhfnapadaaDoorW.PrintLast Go.Proofs.YtbbembhfnapadaaDoorW.PrintMore PVmPlays Pl
set_option linter.unusedVariables false
set_option linter.unusedSimpArgs false

theorem chkL_append (m : Int) : ∀ (a b : List Ins) (ys : List Bool), chkL m (a ++ b) ys = (chkL m a ys).bind (chkL m b)
  | [], b, ys => rfl
  | x :: a, b, ys => by
    rw [List.cons_append]
    unfold chkL
    by_cases h : insOk ys x = true ∧ 0 ≤ insTo x ∧ insTo x < m
    · rw [if_pos h, if_pos h]; exact chkL_append m a b _
    · rw [if_neg h, if_neg h]; rfl
theorem runL_cons (bs : List S39) (x : Ins) (xs : List Ins) (rg wl : List Int) : runL bs (x :: xs) rg wl = if (insVal bs rg x).2 = 0 then runL bs xs (rg.set (insTo x).toNat (insVal bs rg x).1) (wl ++ [(insVal bs rg x).1]) else none := rfl
theorem runL_append (bs : List S39) : ∀ (a b : List Ins) (rg wl : List Int), runL bs (a ++ b) rg wl = (runL bs a rg wl).bind (fun p => runL bs b p.2 p.1)
  | [], b, rg, wl => rfl
  | x :: a, b, rg, wl => by
    rw [List.cons_append, runL_cons, runL_cons]
    by_cases h : (insVal bs rg x).2 = 0
    · rw [if_pos h, if_pos h]; exact runL_append bs a b _ _
    · rw [if_neg h, if_neg h]; rfl
theorem runL_more_out (bs : List S39) : ∀ (a : List Ins) (rg wl wl' rg' : List Int), runL bs a rg wl = some (wl', rg') → ∃ t, wl' = wl ++ t ∧ t.length = a.length
  | [], rg, wl, wl', rg', h => by
    obtain ⟨rfl, rfl⟩ := Prod.mk.inj (Option.some.inj h)
    exact ⟨[], by simp, rfl⟩
  | x :: a, rg, wl, wl', rg', h => by
    unfold runL at h
    by_cases hc : (insVal bs rg x).2 = 0
    · rw [if_pos hc] at h
      obtain ⟨t, rfl, ht⟩ := runL_more_out bs a _ _ _ _ h
      exact ⟨(insVal bs rg x).1 :: t, by simp, by simp [ht]⟩
    · rw [if_neg hc] at h; cases h
theorem insTo_of {ys : List Bool} {x : S37} (h : insOk ys (insOf x) = true) : insTo (insOf x) = x.f1 := by
  unfold insOf at h ⊢
  by_cases h1 : x.f0 = 1
  · rw [if_pos h1]; rfl
  rw [if_neg h1] at h ⊢
  by_cases h2 : x.f0 = 2
  · rw [if_pos h2]; rfl
  rw [if_neg h2] at h ⊢
  by_cases h3 : x.f0 = 3
  · rw [if_pos h3]; rfl
  rw [if_neg h3] at h
  exact absurd h Bool.false_ne_true
/-- The last instruction ahead of i that writes a register; -1: none. -/
def lastN (xs : List S37) (out : Int) : Nat → Int
  | 0 => -1
  | i + 1 => if (rd_T37 xs i).f1 = out then (i : Int) else lastN xs out i
theorem rd_set (l : List Int) (i j : Int) (v : Int) (hi : 0 ≤ i) (hj : 0 ≤ j) (h : i < l.length) : rd (l.set i.toNat v) j = if i = j then v else rd l j := by
  unfold rd
  rw [List.getD_eq_getElem?_getD, List.getElem?_set, List.getD_eq_getElem?_getD]
  by_cases e : i = j
  · subst e
    rw [if_pos rfl, if_pos rfl, if_pos (by omega)]; rfl
  · rw [if_neg (by omega), if_neg e]
theorem yb_set (l : List Bool) (i j : Int) (hi : 0 ≤ i) (hj : 0 ≤ j) (h : i < l.length) : ybAt (l.set i.toNat true) j = if i = j then true else ybAt l j := by
  unfold ybAt
  rw [List.getD_eq_getElem?_getD, List.getElem?_set, List.getD_eq_getElem?_getD]
  by_cases e : i = j
  · subst e
    rw [if_pos rfl, if_pos rfl, if_pos (by omega)]; rfl
  · rw [if_neg (by omega), if_neg e]
theorem take_ins (xs : List S37) (i : Nat) (h : i < xs.length) : (xs.map insOf).take (i + 1) = (xs.map insOf).take i ++ [insOf (rd_T37 xs i)] := by
  rw [List.take_succ_eq_append_getElem (by rw [List.length_map]; exact h), List.getElem_map]
  unfold rd_T37
  rw [Int.toNat_natCast, List.getD_eq_getElem?_getD, List.getElem?_eq_getElem h]
  rfl
theorem yb_rep (m : Nat) (j : Int) : ybAt (List.replicate m false) j = false := by
  unfold ybAt
  rw [List.getD_eq_getElem?_getD, List.getElem?_replicate]
  split <;> rfl
/-- What stands behind i instructions. -/
structure At (bs : List S39) (xs : List S37) (m : Nat) (out : Int) (i : Nat) (ys : List Bool) (rg wl : List Int) : Prop where
  chk : chkL (m : Int) ((xs.map insOf).take i) (List.replicate m false) = some ys
  run : runL bs ((xs.map insOf).take i) (List.replicate m 0) [] = some (wl, rg)
  ly : ys.length = m
  lr : rg.length = m
  lw : wl.length = i
  last : 0 ≤ lastN xs out i → lastN xs out i < i ∧ rd rg out = rd wl (lastN xs out i) ∧ ybAt ys out = true
  none : lastN xs out i < 0 → ybAt ys out = false
theorem at_all (bs : List S39) (xs : List S37) (m : Nat) (out : Int) (h0 : 0 ≤ out) (h1 : out < m) (yE : List Bool) (wE rE : List Int) (hc : chkL (m : Int) (xs.map insOf) (List.replicate m false) = some yE) (hr : runL bs (xs.map insOf) (List.replicate m 0) [] = some (wE, rE)) :
    ∀ i, i ≤ xs.length → ∃ ys rg wl, At bs xs m out i ys rg wl
  | 0, _ => ⟨List.replicate m false, List.replicate m 0, [], rfl, rfl, List.length_replicate, List.length_replicate, rfl, fun h => by (unfold lastN at h; omega), fun _ => yb_rep m out⟩
  | i + 1, hi => by
    obtain ⟨ys, rg, wl, A⟩ := at_all bs xs m out h0 h1 yE wE rE hc hr i (by omega)
    have hsp : xs.map insOf = (xs.map insOf).take (i + 1) ++ (xs.map insOf).drop (i + 1) := (List.take_append_drop _ _).symm
    have ht := take_ins xs i (by omega)
    rw [hsp, chkL_append, ht, chkL_append, A.chk] at hc
    rw [hsp, runL_append, ht, runL_append, A.run] at hr
    simp only [Option.bind_some] at hc hr
    generalize hx : rd_T37 xs i = x at *
    simp only [chkL, runL] at hc hr
    by_cases c1 : insOk ys (insOf x) = true ∧ 0 ≤ insTo (insOf x) ∧ insTo (insOf x) < (m : Int)
    · by_cases c2 : (insVal bs rg (insOf x)).2 = 0
      · have hto := insTo_of c1.1
        have hly := A.ly
        have hlr := A.lr
        have hlw := A.lw
        refine ⟨ys.set (insTo (insOf x)).toNat true, rg.set (insTo (insOf x)).toNat (insVal bs rg (insOf x)).1, wl ++ [(insVal bs rg (insOf x)).1], ?_, ?_, by rw [List.length_set]; exact A.ly, by rw [List.length_set]; exact A.lr, by rw [List.length_append, A.lw]; rfl, ?_, ?_⟩
        · rw [ht, chkL_append, A.chk]
          simp only [Option.bind_some, chkL]
          rw [if_pos c1]
        · rw [ht, runL_append, A.run]
          simp only [Option.bind_some, runL]
          rw [if_pos c2]
        · intro hl
          rw [rd_set _ _ _ _ c1.2.1 h0 (by omega), yb_set _ _ _ c1.2.1 h0 (by omega), hto]
          unfold lastN at hl ⊢
          rw [hx] at hl ⊢
          by_cases e : x.f1 = out
          · rw [if_pos e, if_pos e, if_pos e]
            refine ⟨by omega, ?_, rfl⟩
            unfold rd
            rw [Int.toNat_natCast, List.getD_eq_getElem?_getD, List.getElem?_append_right (by omega), hlw, Nat.sub_self]
            rfl
          · rw [if_neg e] at hl ⊢
            rw [if_neg e, if_neg e]
            obtain ⟨a1, a2, a3⟩ := A.last hl
            refine ⟨by omega, ?_, a3⟩
            rw [a2]
            unfold rd
            rw [List.getD_eq_getElem?_getD, List.getD_eq_getElem?_getD, List.getElem?_append_left (by omega)]
        · intro hl
          rw [yb_set _ _ _ c1.2.1 h0 (by omega), hto]
          unfold lastN at hl
          rw [hx] at hl
          by_cases e : x.f1 = out
          · rw [if_pos e] at hl; omega
          · rw [if_neg e] at hl
            rw [if_neg e]
            exact A.none hl
      · rw [if_neg c2] at hr; cases hr
    · rw [if_neg c1] at hc; cases hc
theorem badR_more (ys : List Bool) (r : Int) : badR (ys ++ [false]) r = badR ys r := by
  unfold badR
  by_cases h : r < 0
  · rw [if_pos h, if_pos h]
  rw [if_neg h, if_neg h]
  by_cases h1 : (ys.length : Int) ≤ r
  · rw [if_pos h1]
    by_cases h2 : ((ys ++ [false]).length : Int) ≤ r
    · rw [if_pos h2]
    · rw [if_neg h2]
      have e : r.toNat = ys.length := by rw [List.length_append, List.length_singleton] at h2; omega
      unfold ybAt
      rw [e, List.getD_eq_getElem?_getD, List.getElem?_append_right (Nat.le_refl _), Nat.sub_self]
      rfl
  · rw [if_neg h1, if_neg (by rw [List.length_append, List.length_singleton]; omega)]
    unfold ybAt
    rw [List.getD_eq_getElem?_getD, List.getD_eq_getElem?_getD, List.getElem?_append_left (by omega)]
theorem insOk_more (ys : List Bool) (x : Ins) : insOk (ys ++ [false]) x = insOk ys x := by
  cases x with
  | dox r op args =>
    show doOk _ _ _ = doOk _ _ _
    unfold doOk
    have : args.any (badR (ys ++ [false])) = args.any (badR ys) := by congr 1; funext r; exact badR_more ys r
    rw [this]
  | _ => rfl
theorem rd_more (rg : List Int) (r : Int) : rd (rg ++ [0]) r = rd rg r := by
  unfold rd
  rw [List.getD_eq_getElem?_getD, List.getD_eq_getElem?_getD]
  rcases Nat.lt_or_ge r.toNat rg.length with h | h
  · rw [List.getElem?_append_left h]
  · rw [List.getElem?_append_right h, List.getElem?_eq_none h]
    rcases Nat.eq_zero_or_pos (r.toNat - rg.length) with e | e
    · rw [e]; rfl
    · rw [List.getElem?_eq_none (by rw [List.length_singleton]; omega)]
theorem insVal_reg (bs : List S39) (rg : List Int) (x : Ins) : insVal bs (rg ++ [0]) x = insVal bs rg x := by
  cases x with
  | dox r op args =>
    show apR _ _ = apR _ _
    have : args.map (rd (rg ++ [0])) = args.map (rd rg) := by congr 1; funext r; exact rd_more rg r
    rw [this]
  | _ => rfl
/-- A register more: nothing else changes. -/
theorem more_reg (bs : List S39) (m : Nat) : ∀ (a : List Ins) (ys yE : List Bool) (rg wl : List Int), ys.length = m → rg.length = m → chkL (m : Int) a ys = some yE →
    chkL ((m : Int) + 1) a (ys ++ [false]) = some (yE ++ [false]) ∧ runL bs a (rg ++ [0]) wl = (runL bs a rg wl).map (fun p => (p.1, p.2 ++ [0])) ∧ yE.length = m ∧ ∀ w r, runL bs a rg wl = some (w, r) → r.length = m
  | [], ys, yE, rg, wl, hy, hr, h => by
    obtain rfl := Option.some.inj h
    exact ⟨rfl, rfl, hy, fun w r h => by obtain ⟨rfl, rfl⟩ := Prod.mk.inj (Option.some.inj h); exact hr⟩
  | x :: a, ys, yE, rg, wl, hy, hr, h => by
    unfold chkL at h
    by_cases c : insOk ys x = true ∧ 0 ≤ insTo x ∧ insTo x < (m : Int)
    · rw [if_pos c] at h
      have hset : (ys ++ [false]).set (insTo x).toNat true = ys.set (insTo x).toNat true ++ [false] := List.set_append_left _ _ (by omega)
      have hsr : ∀ v, (rg ++ [0]).set (insTo x).toNat v = rg.set (insTo x).toNat v ++ [0] := fun v => List.set_append_left _ _ (by omega)
      have ih := more_reg bs m a (ys.set (insTo x).toNat true) yE (rg.set (insTo x).toNat (insVal bs rg x).1) (wl ++ [(insVal bs rg x).1]) (by rw [List.length_set]; exact hy) (by rw [List.length_set]; exact hr) h
      refine ⟨?_, ?_, ih.2.2.1, ?_⟩
      · unfold chkL
        rw [insOk_more, if_pos ⟨c.1, c.2.1, by omega⟩, hset]
        exact ih.1
      · unfold runL
        rw [insVal_reg]
        by_cases c2 : (insVal bs rg x).2 = 0
        · rw [if_pos c2, if_pos c2, hsr]; exact ih.2.1
        · rw [if_neg c2, if_neg c2]; rfl
      · intro w r hw
        unfold runL at hw
        by_cases c2 : (insVal bs rg x).2 = 0
        · rw [if_pos c2] at hw; exact ih.2.2.2 w r hw
        · rw [if_neg c2] at hw; cases hw
    · rw [if_neg c] at h; cases h
end Go.Proofs.YtbbembhfnapadaaDoor

/- The plain law of VmLast. -/
namespace Go.Proofs.YtbbembhfnapadaaDoor
open Go.RowKit Go.Proofs.YtbbembhfnapadaaDoorW.PrintWords Go.Proofs.YtbbembhfnapadaaDoorW.PrintLast Go.Proofs.YtbbembhfnapadaaDoorW.PrintMore PVmPlays Pl
set_option linter.unusedVariables false
set_option linter.unusedSimpArgs false

theorem last_lt (xs : List S37) (out : Int) : ∀ i, lastN xs out i < i ∧ -1 ≤ lastN xs out i
  | 0 => by unfold lastN; omega
  | i + 1 => by
    have := last_lt xs out i
    unfold lastN
    split <;> omega
theorem last_is (xs : List S37) (out : Int) : ∀ (i j : Nat), lastN xs out i = j → (rd_T37 xs j).f1 = out
  | 0, j, h => by unfold lastN at h; omega
  | i + 1, j, h => by
    unfold lastN at h
    by_cases e : (rd_T37 xs i).f1 = out
    · rw [if_pos e] at h
      have : i = j := by omega
      subst this
      exact e
    · rw [if_neg e] at h
      exact last_is xs out i j h
theorem last_at (xs : List S37) (out : Int) (j : Nat) (h : (rd_T37 xs j).f1 = out) : lastN xs out (j + 1) = j := by
  unfold lastN
  rw [if_pos h]
def litS (r n : Int) : S37 := ⟨1, r, 0, n, ⟨#[]⟩, []⟩
theorem trace_bad (zs : List Ins) (regs out : Int) (bs : List S39) (h : (traceP zs regs out bs).2 ≠ 0) : (runP zs regs out bs).2 = (traceP zs regs out bs).2 ∧ (traceP zs regs out bs).1 = [] ∧ (runP zs regs out bs).1 = 0 := by
  unfold traceP runP at *
  by_cases hc : chkP zs regs out = 0
  · rw [if_pos hc] at h ⊢
    rw [if_pos hc]
    cases hr : runL bs zs (List.replicate regs.toNat 0) [] with
    | none => exact ⟨rfl, rfl, rfl⟩
    | some p => rw [hr] at h; exact absurd rfl h
  · rw [if_neg hc] at h ⊢
    rw [if_neg hc]
    exact ⟨rfl, rfl, rfl⟩
theorem chk_of {xs : List Ins} {m : Nat} {out : Int} {y : List Bool} (hf : fitP xs.length m out) (hc : chkL (m : Int) xs (List.replicate m false) = some y) (hy : ybAt y out = true) : chkP xs m out = 0 := by
  unfold chkP
  rw [if_pos hf, Int.toNat_natCast, hc]
  exact if_pos hy
theorem run_of {xs : List Ins} {m : Nat} {out : Int} {bs : List S39} {p : List Int × List Int} (hc : chkP xs m out = 0) (hr : runL bs xs (List.replicate m 0) [] = some p) : runP xs m out bs = (rd p.2 out, 0) := by
  unfold runP
  rw [if_pos hc, Int.toNat_natCast, hr]
  rfl
theorem trace_good (xs : List S37) (regs out : Int) (bs : List S39) (h : (traceP (xs.map insOf) regs out bs).2 = 0) :
    ∃ (j : Nat) (v : Int), runP (xs.map insOf) regs out bs = (v, 0) ∧ (traceP (xs.map insOf) regs out bs).1.length = xs.length ∧ lastN xs out xs.length = j ∧ j < xs.length ∧ v = rd (traceP (xs.map insOf) regs out bs).1 j ∧ xs.length ≤ 128 ∧ 1 ≤ regs ∧ regs ≤ 64 ∧
      runP ((xs.take (j + 1)).map insOf) regs out bs = (v, 0) ∧ (regs < 64 → xs.length < 128 → runP ((xs ++ [litS regs 9]).map insOf) (regs + 1) out bs = (v, 0)) := by
  have hc : chkP (xs.map insOf) regs out = 0 := by
    by_cases hc : chkP (xs.map insOf) regs out = 0
    · exact hc
    · unfold traceP at h; rw [if_neg hc] at h; cases h
  have hT : traceP (xs.map insOf) regs out bs = traceE (runL bs (xs.map insOf) (List.replicate regs.toNat 0) []) := if_pos hc
  obtain ⟨hf, yE, hy⟩ := chk_zero hc
  have hyo : ybAt yE out = true := by
    have h2 := hc
    unfold chkP at h2
    rw [if_pos hf, hy] at h2
    by_cases hq : ybAt yE out = true
    · exact hq
    · have : chkE out (some yE) = 1 := if_neg hq
      omega
  have hf' := hf
  unfold fitP at hf'
  rw [List.length_map] at hf'
  obtain ⟨m, hm⟩ := Int.eq_ofNat_of_zero_le (show 0 ≤ regs by omega)
  subst hm
  rw [Int.toNat_natCast] at hT hy
  cases hr : runL bs (xs.map insOf) (List.replicate m 0) [] with
  | none => rw [hT, hr] at h; cases h
  | some p =>
    obtain ⟨wE, rE⟩ := p
    rw [hr] at hT
    have hT1 : (traceP (xs.map insOf) (m : Int) out bs).1 = wE := by rw [hT]; rfl
    have hall := at_all bs xs m out (by omega) (by omega) yE wE rE hy hr
    obtain ⟨ys, rg, wl, A⟩ := hall xs.length (Nat.le_refl _)
    have htk : (xs.map insOf).take xs.length = xs.map insOf := by rw [List.take_of_length_le (by rw [List.length_map]; exact Nat.le_refl _)]
    have hA1 := A.chk
    rw [htk, hy] at hA1
    obtain rfl := Option.some.inj hA1
    have hA2 := A.run
    rw [htk, hr] at hA2
    obtain ⟨rfl, rfl⟩ := Prod.mk.inj (Option.some.inj hA2)
    have hpos : 0 ≤ lastN xs out xs.length := by
      rcases Int.lt_or_le (lastN xs out xs.length) 0 with hn | hn
      · have := A.none hn; rw [hyo] at this; cases this
      · exact hn
    obtain ⟨j, hj⟩ := Int.eq_ofNat_of_zero_le hpos
    obtain ⟨l1, l2, _⟩ := A.last hpos
    rw [hj] at l1 l2
    have hjl : j < xs.length := by omega
    have hjo := last_is xs out xs.length j hj
    refine ⟨j, rd rE out, ?_, ?_, hj, hjl, ?_, by omega, by omega, by omega, ?_, ?_⟩
    · exact run_of hc hr
    · rw [hT1]; exact A.lw
    · rw [hT1]; exact l2
    · obtain ⟨ys2, rg2, wl2, B⟩ := hall (j + 1) (by omega)
      have hla := last_at xs out j hjo
      obtain ⟨_, b2, b3⟩ := B.last (by rw [hla]; omega)
      rw [hla] at b2
      have hmt : (xs.take (j + 1)).map insOf = (xs.map insOf).take (j + 1) := List.map_take
      have hlen : ((xs.map insOf).take (j + 1)).length = j + 1 := by rw [List.length_take, List.length_map]; omega
      have hcs : chkP ((xs.map insOf).take (j + 1)) (m : Int) out = 0 := chk_of (by unfold fitP; rw [hlen]; omega) B.chk b3
      rw [hmt, run_of hcs B.run]
      have hsp : xs.map insOf = (xs.map insOf).take (j + 1) ++ (xs.map insOf).drop (j + 1) := (List.take_append_drop _ _).symm
      have hr2 := hr
      rw [hsp, runL_append, B.run] at hr2
      simp only [Option.bind_some] at hr2
      obtain ⟨t, ht, _⟩ := runL_more_out bs _ _ _ _ _ hr2
      have hlw := B.lw
      have : rd rg2 out = rd rE out := by
        rw [b2, l2, ht]
        unfold rd
        rw [Int.toNat_natCast, List.getD_eq_getElem?_getD, List.getD_eq_getElem?_getD, List.getElem?_append_left (by omega)]
      rw [this]
    · intro g1 g2
      have hmo := more_reg bs m (xs.map insOf) (List.replicate m false) yE (List.replicate m 0) [] List.length_replicate List.length_replicate hy
      have e1 : List.replicate m false ++ [false] = List.replicate (m + 1) false := (List.replicate_succ' ..).symm
      have e2 : List.replicate m (0 : Int) ++ [0] = List.replicate (m + 1) 0 := (List.replicate_succ' ..).symm
      rw [e1, e2, hr] at hmo
      have hly := hmo.2.2.1
      have hlr := hmo.2.2.2 _ _ rfl
      have hins : insOf (litS (m : Int) 9) = .lit m 9 := rfl
      have hchk : chkL ((m + 1 : Nat) : Int) ((xs ++ [litS (m : Int) 9]).map insOf) (List.replicate (m + 1) false) = some ((yE ++ [false]).set m true) := by
        rw [List.map_append, chkL_append, show ((m + 1 : Nat) : Int) = (m : Int) + 1 by omega, hmo.1]
        simp only [Option.bind_some, List.map_cons, List.map_nil, hins, chkL]
        rw [if_pos ⟨rfl, by show (0 : Int) ≤ m; omega, by show (m : Int) < m + 1; omega⟩]
        rfl
      have hrun : runL bs ((xs ++ [litS (m : Int) 9]).map insOf) (List.replicate (m + 1) 0) [] = some (wE ++ [9], (rE ++ [0]).set m 9) := by
        rw [List.map_append, runL_append, hmo.2.1]
        simp only [Option.map_some, Option.bind_some, List.map_cons, List.map_nil, hins]
        rfl
      have hcs : chkP ((xs ++ [litS (m : Int) 9]).map insOf) ((m + 1 : Nat) : Int) out = 0 := by
        refine chk_of ?_ hchk ?_
        · unfold fitP
          rw [List.length_map, List.length_append, List.length_singleton]
          omega
        · have := yb_set (yE ++ [false]) (m : Int) out (by omega) (by omega) (by rw [List.length_append, List.length_singleton]; omega)
          rw [Int.toNat_natCast] at this
          rw [this, if_neg (by omega)]
          rw [← hyo]
          unfold ybAt
          rw [List.getD_eq_getElem?_getD, List.getD_eq_getElem?_getD, List.getElem?_append_left (by omega)]
      rw [show ((m : Int) + 1) = ((m + 1 : Nat) : Int) by omega, run_of hcs hrun]
      have := rd_set (rE ++ [0]) (m : Int) out 9 (by omega) (by omega) (by rw [List.length_append, List.length_singleton]; omega)
      rw [Int.toNat_natCast] at this
      show (rd ((rE ++ [0]).set m 9) out, (0 : Int)) = _
      rw [this, if_neg (by omega), rd_more]
/-- Elements of which something is known in a world that has been. -/
def kF (w0 : World) : Kd S37 where
  sz := 6
  E := []
  K := fun _ x cs => k37.K w0 x cs
  M := fun _ _ _ x cs => k37.K w0 x cs
  K_len := fun h => k37.K_len h
  K_one := fun h => k37.K_one h
  K_below := fun _ h => h
  K_of_M := fun h => h
  M_mono := fun _ h => h
  M_bound := fun h => h
  M_move := fun _ h => h
  M_lower := fun _ h => h
theorem info37 : (Tryd.prog.info? 37).map (fun i => (i.zero, i.size, i.bytes)) = some (some (.agg #[.int .i64 0, .int .i64 0, .int .i64 0, .int .i64 0, .string ⟨#[]⟩, .slice none 0 0]), 6, 72) := by kernel_rfl
end Go.Proofs.YtbbembhfnapadaaDoor
