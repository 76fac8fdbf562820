/- From the list of tables in a row to what the walks ask of the world. -/
import Derived.Test.YtbbembhfnapadaaDoorRows
import Derived.Test.YtbbembhfnapadaaDoorRunA
import Derived.Lib.LaidU8T
import Derived.LaidHandle
namespace Go.Proofs.YtbbembhfnapadaaDoor
open Go.RowKit Pl

theorem heap_of_var {P : Program} {w : World} {n : String} {g : Nat} {cs : Array Value} (hg : P.globalNamed n = some g) (h : w.var? P n = some cs) : ∃ t fr, w.heap[g]? = some (.cells cs t fr) := by
  simp only [World.var?, hg, Option.bind_some] at h
  split at h
  · rename_i cs' t fr he
    cases h
    exact ⟨_, _, he⟩
  · cases h

theorem letters_reads {W : World} (h : Lib.VarReads Tryd.prog W "sorrel/runes.letters" Rows.laid_sorrel_runes_letters) : ∃ t fr, W.heap[1]? = some (.cells lettersC t fr) := by
  obtain ⟨g, t, cs, fuel, p, hg, hty, hvar, hd⟩ := h
  obtain rfl := Option.some.inj ((show Tryd.prog.globalNamed "sorrel/runes.letters" = some 1 by kernel_rfl).symm.trans hg)
  obtain rfl := Option.some.inj ((show (Tryd.prog.globals[1]?).map (·.type) = some 210 by kernel_rfl).symm.trans hty)
  have hsz : cs.toList.length = 26 := by
    have hd' := hd
    cases fuel with
    | zero => simp [DataW.trod] at hd'
    | succ fuel =>
      simp only [DataW.trod, Tryd.underlying210] at hd'
      split at hd'
      · rename_i hl
        exact hl.trans (show Tryd.prog.cellsOf 210 = 26 by kernel_rfl)
      · cases hd'
  have hel : ∀ i, i < 13 → (cs.toList.drop (i * 2)).take 2 = [Value.int .i32 (lo i), .int .i32 (hi i)] := by
    intro i hi'
    obtain ⟨fuel', d, q, hdi, he⟩ := Lib.array_elem Tryd.underlying210 hd i hi'
    rw [show Tryd.prog.cellsOf 209 = 2 by kernel_rfl] at he
    have hdd : d = .agg ([lo i, hi i].map fun z => .lit (.int .i32 z)) := by
      rcases (show i = 0 ∨ i = 1 ∨ i = 2 ∨ i = 3 ∨ i = 4 ∨ i = 5 ∨ i = 6 ∨ i = 7 ∨ i = 8 ∨ i = 9 ∨ i = 10 ∨ i = 11 ∨ i = 12 by omega) with rfl | rfl | rfl | rfl | rfl | rfl | rfl | rfl | rfl | rfl | rfl | rfl | rfl
      all_goals exact (Option.some.inj hdi).symm
    subst hdd
    have hcs := Lib.ints_of_struct Tryd.underlying209 (fun j f hj => by
      match j, hj with
      | 0, hj => simp at hj; subst hj; exact ⟨Tryd.underlying21, rfl, by kernel_rfl⟩
      | 1, hj => simp at hj; subst hj; exact ⟨Tryd.underlying21, rfl, by kernel_rfl⟩
      | j + 2, hj => simp at hj) (by kernel_rfl) he
    exact hcs
  obtain ⟨t, fr, hh⟩ := heap_of_var hg hvar
  refine ⟨t, fr, ?_⟩
  rw [hh]
  congr 2
  apply Array.ext'
  apply List.ext_getElem?
  intro j
  by_cases hj : j < 26
  · have h2 := hel (j / 2) (by omega)
    have h3 := congrArg (·[j % 2]?) h2
    simp only [List.getElem?_take, List.getElem?_drop] at h3
    rw [if_pos (by omega), show j / 2 * 2 + j % 2 = j by omega] at h3
    rw [h3]
    rcases (show j = 0 ∨ j = 1 ∨ j = 2 ∨ j = 3 ∨ j = 4 ∨ j = 5 ∨ j = 6 ∨ j = 7 ∨ j = 8 ∨ j = 9 ∨ j = 10 ∨ j = 11 ∨ j = 12 ∨ j = 13 ∨ j = 14 ∨ j = 15 ∨ j = 16 ∨ j = 17 ∨ j = 18 ∨ j = 19 ∨ j = 20 ∨ j = 21 ∨ j = 22 ∨ j = 23 ∨ j = 24 ∨ j = 25 by omega) with rfl | rfl | rfl | rfl | rfl | rfl | rfl | rfl | rfl | rfl | rfl | rfl | rfl | rfl | rfl | rfl | rfl | rfl | rfl | rfl | rfl | rfl | rfl | rfl | rfl | rfl
    all_goals rfl
  · rw [List.getElem?_eq_none (by omega), List.getElem?_eq_none (by simp [lettersC]; omega)]

theorem zeros_reads {W : World} (h : Lib.VarReads Tryd.prog W "sorrel/runes.zeros" Rows.laid_sorrel_runes_zeros) : ∃ t fr, W.heap[4]? = some (.cells zerosC t fr) := by
  obtain ⟨g, t, cs, fuel, p, hg, hty, hvar, hd⟩ := h
  obtain rfl := Option.some.inj ((show Tryd.prog.globalNamed "sorrel/runes.zeros" = some 4 by kernel_rfl).symm.trans hg)
  obtain rfl := Option.some.inj ((show (Tryd.prog.globals[4]?).map (·.type) = some 225 by kernel_rfl).symm.trans hty)
  have hcs := Lib.cells_of_tab (zs := [48, 1632, 65296]) Tryd.underlying225 Tryd.underlying21 (by kernel_rfl) (by kernel_rfl) hd
  obtain ⟨t, fr, hh⟩ := heap_of_var hg hvar
  refine ⟨t, fr, ?_⟩
  rw [hh]
  congr 2
  apply Array.ext'
  rw [hcs]
  rfl

theorem tabs_of_laid {W : World} {laid : List (String × DataW Unit)} (h : laidMet Tryd.prog laid W) (ml : ("sorrel/runes.letters", Rows.laid_sorrel_runes_letters) ∈ laid) (mz : ("sorrel/runes.zeros", Rows.laid_sorrel_runes_zeros) ∈ laid) : Tabs W :=
  ⟨letters_reads (Lib.laidMet.reads h ml), zeros_reads (Lib.laidMet.reads h mz)⟩
end Go.Proofs.YtbbembhfnapadaaDoor
