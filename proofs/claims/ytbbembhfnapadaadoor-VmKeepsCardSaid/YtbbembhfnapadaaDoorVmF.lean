/- Apply and Get as plain functions; their contracts. -/
import Derived.Test.YtbbembhfnapadaaDoorVmE
namespace Go.Proofs.YtbbembhfnapadaaDoor
open Go.RowKit Go.Proofs.YtbbembhfnapadaaDoorW.PrintWords Go.Proofs.YtbbembhfnapadaaDoorW.PrintLast Go.Proofs.YtbbembhfnapadaaDoorW.PrintMore PVmPlays Pl
set_option linter.unusedVariables false
set_option linter.unusedSimpArgs false

def two (op a b : Int) : Int := (arith_two.f op a b).getD 0
/-- What an operator comes to; 12: it traps. -/
def apR (op : Int) (l : List Int) : Int × Int :=
  if op = 3 then (wrap64 (-(rd l 0)), 0) else if op = 4 then (Go.bits .xor .i64 (-1) (rd l 0), 0) else if op = 17 then (if rd l 0 ≠ 0 then (rd l 1, 0) else (rd l 2, 0))
  else if (op = 8 ∨ op = 9) ∧ rd l 1 = 0 then (0, 12) else (two op (rd l 0) (rd l 1), 0)
theorem two_some (op a b : Int) (h : (op = 8 ∨ op = 9) → b ≠ 0) : arith_two.f op a b = some (two op a b) := by
  have key : (arith_two.f op a b).isSome = true := by
    unfold arith_two.f
    by_cases h5 : op = 5
    · rw [if_pos h5]; rfl
    rw [if_neg h5]
    by_cases h6 : op = 6
    · rw [if_pos h6]; rfl
    rw [if_neg h6]
    by_cases h7 : op = 7
    · rw [if_pos h7]; rfl
    rw [if_neg h7]
    by_cases h8 : op = 8
    · rw [if_pos h8, if_neg (h (.inl h8))]; rfl
    rw [if_neg h8]
    by_cases h9 : op = 9
    · rw [if_pos h9, if_neg (h (.inr h9))]; rfl
    rw [if_neg h9]
    by_cases h10 : op = 10
    · rw [if_pos h10]; rfl
    rw [if_neg h10]
    by_cases h11 : op = 11
    · rw [if_pos h11]; rfl
    rw [if_neg h11]
    by_cases h12 : op = 12
    · rw [if_pos h12]; rfl
    rw [if_neg h12]
    by_cases h13 : op = 13
    · rw [if_pos h13, if_pos (bits_lo_u64 _ _ _)]; rfl
    rw [if_neg h13]
    by_cases h14 : op = 14
    · rw [if_pos h14, if_pos (bits_lo_u64 _ _ _)]; rfl
    rw [if_neg h14]
    by_cases h15 : op = 15
    · rw [if_pos h15]; unfold arith_bit.f; cases (a == b) <;> rfl
    rw [if_neg h15]
    unfold arith_bit.f
    cases (decide (a < b)) <;> rfl
  unfold two
  cases hh : arith_two.f op a b with
  | none => rw [hh] at key; cases key
  | some v => rfl
theorem group_some (op : Int) (k : Nat) (h3 : 3 ≤ op) (h : op ≤ 17) : ∃ g, arith_group.f (k + 1) op = some g ∧ (g = 1 ↔ (op = 8 ∨ op = 9)) := by
  unfold arith_group.f
  by_cases h8 : op = 8
  · subst h8; exact ⟨1, by simp [arith_group.j0], by simp⟩
  rw [if_neg h8]
  by_cases h9 : op = 9
  · subst h9; exact ⟨1, by simp [arith_group.j0], by simp⟩
  have g9 : (op == 9) = false := by simp [h9]
  rw [g9]
  simp only [arith_group.j0]
  rw [if_neg (by simp)]
  by_cases h13 : op = 13
  · rw [if_pos h13]; exact ⟨2, rfl, by omega⟩
  rw [if_neg h13]
  by_cases h14 : op = 14
  · rw [if_pos h14]; exact ⟨2, rfl, by omega⟩
  rw [if_neg h14]
  by_cases h15 : op = 15
  · rw [if_pos h15]; exact ⟨2, rfl, by omega⟩
  rw [if_neg h15]
  by_cases h16 : op = 16
  · rw [if_pos h16]; exact ⟨2, rfl, by omega⟩
  rw [if_neg h16]
  exact ⟨0, rfl, by omega⟩
theorem apply_some (op : Int) (l : List Int) (k : Nat) (he : arE op = 0) (hk : 0 < arK op) (hl : arK op = l.length) : arith_Apply.f (k + 4) op l = some (apR op l) := by
  have ho : 1 ≤ op ∧ op ≤ 17 := by
    unfold arE at he
    by_cases h : 1 ≤ op ∧ op ≤ 17
    · exact h
    · rw [if_neg h] at he; omega
  have ho3 : 3 ≤ op := by
    by_cases h : op = 1 ∨ op = 2
    · unfold arK at hk; rw [if_pos h] at hk; omega
    · omega
  unfold arith_Apply.f
  rw [show k + 4 = (k + 1) + 3 from rfl, arity_some op (k + 1)]
  simp only [Option.bind_some]
  rw [if_pos he, if_neg (by omega), hl]
  have hne : ((l.length : Int) != (l.length : Int)) = false := by simp
  rw [hne]
  unfold apR
  simp only [arith_Apply.j0]
  rw [if_neg (by simp)]
  by_cases h3 : op = 3
  · have : arK op = 1 := by subst h3; rfl
    rw [if_pos h3, if_pos h3, if_pos (by omega)]
  rw [if_neg h3, if_neg h3]
  by_cases h4 : op = 4
  · have : arK op = 1 := by subst h4; rfl
    rw [if_pos h4, if_pos h4, if_pos (by omega)]
  rw [if_neg h4, if_neg h4]
  by_cases h17 : op = 17
  · have : arK op = 3 := by subst h17; rfl
    rw [if_pos h17, if_pos h17, if_pos (by omega)]
    simp only [arith_Apply.j1]
    by_cases hz : rd l 0 = 0
    · have : (rd l 0 != 0) = false := by simp [hz]
      rw [this, if_neg (by simp), if_pos h17, if_pos (by omega), if_neg (by simp [hz])]
    · have : (rd l 0 != 0) = true := by simp [hz]
      rw [this, if_pos rfl, if_pos (by omega), if_pos hz]
  rw [if_neg h17, if_neg h17]
  have h2 : arK op = 2 := by
    unfold arK
    rw [if_neg (by omega), if_neg (by omega), if_neg h17, if_pos (by omega)]
  simp only [arith_Apply.j1]
  rw [if_neg (by simp), if_neg h17]
  obtain ⟨g, hg, hgi⟩ := group_some op (k + 1) ho3 ho.2
  rw [hg]
  simp only [Option.bind_some]
  by_cases h89 : op = 8 ∨ op = 9
  · rw [if_pos (hgi.2 h89), if_pos (by omega)]
    by_cases hz : rd l 1 = 0
    · rw [if_pos hz, if_pos ⟨h89, hz⟩]
    · rw [if_neg hz, if_pos (by omega), if_neg (fun h => hz h.2), two_some op _ _ (fun _ => hz)]
      rfl
  · rw [if_neg (fun h => h89 (hgi.1 h)), if_pos (by omega), if_pos (by omega), if_neg (fun h => h89 h.1), two_some op _ _ (fun h => absurd h h89)]
    rfl
theorem apply_calls (op : Int) (l : List Int) (A : Option Addr) (c : Nat) (w : World) (he : arE op = 0) (hk : 0 < arK op) (hl : arK op = l.length) (hC : (Kd.int .i64).C w A l.length l) (hc : l.length ≤ c) :
    Calls Tryd.prog 81 #[.int .i64 op, .slice A l.length c] w fun e w' => e = .returned (.tuple #[.int .i64 (apR op l).1, .int .i64 (apR op l).2]) ∧ Drawn0 w w' :=
  arith_Apply.calls 4 op A c l _ _ w hC hc (apply_some op l 0 he hk hl)

/-- The number of a name: the last binding's; 0: there is none. -/
def getP (l : List S39) (s : ByteArray) : Int := l.foldl (fun acc b => if b.f0.toList = s.toList then b.f1 else acc) 0
theorem getP_snoc (l : List S39) (b : S39) (s : ByteArray) : getP (l ++ [b]) s = if b.f0.toList = s.toList then b.f1 else getP l s := by
  unfold getP
  rw [List.foldl_append]
  rfl
theorem last_some (l : List S39) (s : ByteArray) (hl : l.length ≤ 9223372036854775807) : ∀ (d k : Nat), d ≤ l.length → d < k → ∃ t : Int, env_last.l0 k l s (wrap64 ((d : Int) - 1)) = some t ∧ (0 ≤ t → t < l.length ∧ (rd_T39 l t).f1 = getP (l.take d) s) ∧ (t < 0 → getP (l.take d) s = 0)
  | 0, k, _, hk => by
    obtain ⟨k, rfl⟩ : ∃ m, k = m + 1 := ⟨k - 1, by omega⟩
    refine ⟨-1, ?_, fun h => by omega, fun _ => by simp [getP]⟩
    have e : wrap64 (((0 : Nat) : Int) - 1) = -1 := by unfold wrap64; omega
    rw [e]
    simp only [env_last.l0]
    rw [if_neg (by omega)]
  | d + 1, k, hd, hk => by
    obtain ⟨k, rfl⟩ : ∃ m, k = m + 1 := ⟨k - 1, by omega⟩
    have e : wrap64 (((d + 1 : Nat) : Int) - 1) = d := by unfold wrap64; omega
    rw [e]
    simp only [env_last.l0]
    rw [if_pos (by omega), if_pos (by omega), if_pos (by omega)]
    have ht : l.take (d + 1) = l.take d ++ [rd_T39 l d] := by
      rw [List.take_succ_eq_append_getElem (by omega)]
      unfold rd_T39
      rw [Int.toNat_natCast, List.getD_eq_getElem?_getD, List.getElem?_eq_getElem (by omega)]
      rfl
    rw [ht, getP_snoc]
    by_cases hn : (rd_T39 l d).f0.toList = s.toList
    · rw [if_pos hn, if_pos hn]
      exact ⟨d, rfl, fun _ => ⟨by omega, rfl⟩, fun h => by omega⟩
    · rw [if_neg hn, if_neg hn]
      exact last_some l s hl d k (by omega) (by omega)
theorem get_some (l : List S39) (s : ByteArray) (hl : l.length ≤ 9223372036854775807) : env_Get.f (l.length + 1) l s = some (getP l s) := by
  obtain ⟨t, h1, h2, h3⟩ := last_some l s hl l.length (l.length + 1) (Nat.le_refl _) (by omega)
  unfold env_Get.f env_last.f
  rw [h1]
  simp only [Option.bind_some]
  rw [List.take_length] at h2 h3
  by_cases ht : t ≥ 0
  · rw [if_pos ht, if_pos ht, if_pos (h2 ht).1, (h2 ht).2]
  · rw [if_neg ht, h3 (by omega)]
theorem get_calls (l : List S39) (s : ByteArray) (A : Option Addr) (c : Nat) (w : World) (hC : k39.C w A l.length l) (hc : l.length ≤ c) (hl : l.length ≤ 9223372036854775807) :
    Calls Tryd.prog 80 #[.slice A l.length c, .string s] w fun e w' => e = .returned (.int .i64 (getP l s)) ∧ Drawn0 w w' :=
  env_Get.calls (l.length + 1) A c l s _ w hC hc (get_some l s hl)
end Go.Proofs.YtbbembhfnapadaaDoor
