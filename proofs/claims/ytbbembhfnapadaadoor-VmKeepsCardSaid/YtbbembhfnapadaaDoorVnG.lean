/- Rows of the call's own, cell by cell; a row that grows. -/
import Derived.Test.YtbbembhfnapadaaDoorVnA
import Derived.ArgAppend
namespace Go.Proofs.YtbbembhfnapadaaDoor
open Go.RowKit Go.Proofs.YtbbembhfnapadaaDoorW.PrintWords Go.Proofs.YtbbembhfnapadaaDoorW.PrintLast Go.Proofs.YtbbembhfnapadaaDoorW.PrintMore PVmPlays Pl
set_option linter.unusedVariables false
set_option linter.unusedSimpArgs false

/-- A row of the call's own, of elements of one cell. -/
def Ow (w : World) (e : TypeId) (v : Value) (xs : List Value) : Prop := w.ownsRow 0 e 1 v xs.length xs
section
variable {w w' : World} {e : TypeId} {v : Value} {xs : List Value}
theorem Ow_nil (w : World) (e : TypeId) : Ow w e (.slice none 0 0) [] := ⟨rfl, .inl ⟨rfl, rfl⟩⟩
theorem Ow_cases (h : Ow w e v xs) : (v = .slice none 0 0 ∧ xs = []) ∨ ∃ g cap cur, v = .slice (some ⟨g, 0, none⟩) xs.length cap ∧ w.heap[g]? = some (.cells cur e (0, 0)) ∧ xs.length ≤ cap ∧ cap ≤ maxLen ∧ cur.size = cap ∧ cur.toList.take xs.length = xs := by
  rcases h.2 with ⟨h1, h2⟩ | ⟨g, cap, cur, h1, _, h2, h3, h4, h5, h6⟩
  · exact .inl ⟨h1, List.eq_nil_of_length_eq_zero h2⟩
  · exact .inr ⟨g, cap, cur, h1, h2, h3, h4, by rw [h5, Nat.mul_one], by rw [Nat.mul_one] at h6; exact h6⟩
theorem Ow_mk {g cap : Nat} {cur : Array Value} (h2 : w.heap[g]? = some (.cells cur e (0, 0))) (h3 : xs.length ≤ cap) (h4 : cap ≤ maxLen) (h5 : cur.size = cap) (h6 : cur.toList.take xs.length = xs) : Ow w e (.slice (some ⟨g, 0, none⟩) xs.length cap) xs :=
  ⟨(Nat.mul_one _).symm, .inr ⟨g, cap, cur, rfl, Nat.zero_le _, h2, h3, h4, by rw [h5, Nat.mul_one], by rw [Nat.mul_one]; exact h6⟩⟩
theorem Ow_far (h : Ow w e v xs) (hk : ∀ k, v.ownBlock = some k → w'.heap[k]? = w.heap[k]?) : Ow w' e v xs := own_move h hk
theorem Ow_lt (h : Ow w e v xs) (k : Nat) (hk : v.ownBlock = some k) : k < w.heap.size := own_lt h k hk
theorem Ow_blk (h : Ow w e v xs) (k : Nat) (hk : v.ownBlock = some k) : ∃ cur, w.heap[k]? = some (.cells cur e (0, 0)) := by
  rcases Ow_cases h with ⟨rfl, _⟩ | ⟨g, cap, cur, rfl, hg, _⟩
  · cases hk
  · obtain rfl : g = k := by simpa [Value.ownBlock] using hk
    exact ⟨cur, hg⟩
theorem Ow_slice (h : Ow w e v xs) : ∃ A c, v = .slice A xs.length c := by
  rcases Ow_cases h with ⟨rfl, rfl⟩ | ⟨g, cap, cur, rfl, _⟩
  · exact ⟨none, 0, rfl⟩
  · exact ⟨_, _, rfl⟩
theorem take_at {l xs : List Value} {n : Nat} (h : l.take n = xs) (i : Nat) (hi : i < n) : l[i]? = xs[i]? := by rw [← h, List.getElem?_take, if_pos hi]
theorem Ow_cell (h : Ow w e v xs) (i : Nat) (hi : i < xs.length) : ∃ g cap, v = .slice (some ⟨g, 0, none⟩) xs.length cap ∧ w.cell? ⟨g, i, none⟩ = some xs[i] ∧ w.frozen? ⟨g, i, none⟩ = false := by
  rcases Ow_cases h with ⟨rfl, rfl⟩ | ⟨g, cap, cur, rfl, hg, _, _, _, h6⟩
  · exact absurd hi (Nat.not_lt_zero _)
  · refine ⟨g, cap, rfl, ?_, blk_frozen hg i⟩
    rw [blk_cell hg, ← Array.getElem?_toList, take_at h6 i hi, List.getElem?_eq_getElem hi]
theorem Ow_put {g cap : Nat} (h : Ow w e (.slice (some ⟨g, 0, none⟩) xs.length cap) xs) (i : Nat) (u : Value) (hi : i < xs.length) : Ow (w.setCell ⟨g, i, none⟩ u) e (.slice (some ⟨g, 0, none⟩) xs.length cap) (xs.set i u) := by
  rcases Ow_cases h with ⟨h1, rfl⟩ | ⟨g', cap', cur, h1, hg, h3, h4, h5, h6⟩
  · exact absurd hi (Nat.not_lt_zero _)
  · injection h1 with a1 a2 a3
    injection a1 with a1
    injection a1 with a1
    subst a1 a3
    have hp : (w.setCell ⟨g, i, none⟩ u).heap[g]? = some (.cells (cur.setIfInBounds i u) e (0, 0)) := blk_put hg i u rfl
    have := Ow_mk (xs := xs.set i u) hp (by rw [List.length_set]; exact h3) h4 (by simp [h5]) (by
      rw [List.length_set, Array.toList_setIfInBounds, List.take_set, h6])
    rw [List.length_set] at this
    exact this
/-- Reading: the first elements of a row. -/
def Rd (w : World) (v : Value) (xs : List Value) : Prop := xs = [] ∨ ∃ g cap, v = .slice (some ⟨g, 0, none⟩) xs.length cap ∧ ∀ t (h : t < xs.length), w.cell? ⟨g, t, none⟩ = some xs[t]
theorem Ow_Rd (h : Ow w e v xs) : Rd w v xs := by
  rcases Ow_cases h with ⟨rfl, rfl⟩ | ⟨g, cap, cur, rfl, hg, _, _, _, h6⟩
  · exact .inl rfl
  · refine .inr ⟨g, cap, rfl, fun t ht => ?_⟩
    rw [blk_cell hg, ← Array.getElem?_toList, take_at h6 t ht, List.getElem?_eq_getElem ht]
theorem Rd_far (h : Rd w v xs) (hk : ∀ k, v.ownBlock = some k → w'.heap[k]? = w.heap[k]?) : Rd w' v xs := by
  rcases h with h | ⟨g, cap, rfl, h⟩
  · exact .inl h
  · exact .inr ⟨g, cap, rfl, fun t ht => by rw [World.cell?_of_block (hk g rfl)]; exact h t ht⟩
theorem Rd_prefix {v1 : Value} {ys : List Value} (h : Rd w v xs) (h1 : Ow w' e v1 (xs ++ ys)) (hb : v1.ownBlock = v.ownBlock) : Rd w' v xs := by
  rcases h with h | ⟨g, cap, rfl, h⟩
  · exact .inl h
  · refine .inr ⟨g, cap, rfl, fun t ht => ?_⟩
    obtain ⟨g1, c1, rfl, hc, _⟩ := Ow_cell h1 t (by rw [List.length_append]; omega)
    obtain rfl : g1 = g := by simpa [Value.ownBlock] using hb
    rw [hc, List.getElem_append_left ht]
end

theorem set_one (w : World) (g o : Nat) (u : Value) : w.setCells g o [u] = w.setCell ⟨g, o, none⟩ u := rfl
section
variable {P : Program} {ops : Array Oper} {rest : List Oper} {o : Oper} {a : Act} {Q : Exit → Act → World → Prop}
/-- append(g, u): the row is where it was, or it is new and all else is as it was. -/
theorem wp_append_one {W : World} (hgd : o.guard = none) (s x : Operand) (t e : TypeId) (z : Value) (bytes : Nat)
    (ho : o.op = .call { callee := .builtin .append, args := #[s, x], argTypes := #[t, t] })
    (ht : P.underlying t = some (.slice e)) (hinfo : (P.info? e).map (fun i => (i.zero, i.size, i.bytes)) = some (some z, 1, bytes)) (hz : z.cells.size = 1) (hb0 : 0 < bytes)
    (v : Value) (xs : List Value) (u : Value) (hs : a.eval s = v) (hx : a.eval x = .slice (some ⟨W.heap.size, 0, none⟩) 1 1) (hu : u.oneCell' = true)
    (HO : Ow W e v xs) (hl : (xs.length + 1) * bytes ≤ 140737488355328) (hl2 : xs.length + 1 ≤ maxLen)
    (h : ∀ v1 w1, Ow w1 e v1 (xs ++ [u]) → W.grownBy w1 v.ownBlock → (v1.ownBlock = v.ownBlock ∨ (W.grownBy w1 none ∧ ∃ b, v1.ownBlock = some b ∧ W.heap.size ≤ b)) → wpList P ops Q rest (a.put o.dst v1) w1) :
    wpList P ops Q (o :: rest) a (W.alloc (.cells #[u] e)) := by
  obtain ⟨i0, hi, hzz⟩ := Option.map_eq_some_iff.1 hinfo
  simp only [Prod.mk.injEq] at hzz
  obtain ⟨hz0, hz1, hz2⟩ := hzz
  have hnew : ∀ j y, [u][j]? = some y → (W.alloc (.cells #[u] e)).cell? ((⟨W.heap.size, 0, none⟩ : Addr).add j) = some y := fun j y hj => by
    match j, hj with
    | 0, hj =>
      obtain rfl : u = y := Option.some.inj hj
      rw [add_plain, blk_cell (blk_new W (.cells #[u] e))]
      rfl
    | j + 1, hj => simp at hj
  have one : ∀ y ∈ [u], y.oneCell' = true := fun y hy => by rw [List.mem_singleton.1 hy]; exact hu
  rcases Ow_cases HO with ⟨rfl, rfl⟩ | ⟨g, cap, cur, rfl, hg, h3, h4, h5, h6⟩
  · refine wpList_append_grows (W.alloc (.cells #[u] e)) hgd s x t ho e i0 z 1 bytes ht hi hz0 hz1 hz2 hz (Nat.zero_lt_one) none 0 0 [] hs (fun _ => ⟨rfl, rfl⟩) rfl (fun b hb => by cases hb) ⟨W.heap.size, 0, none⟩ 1 1 [u] hx rfl hnew one (Nat.zero_lt_one) hl2 hl ?_
    intro v1 w1 hown hgr
    have hgr2 : W.grownBy w1 none := World.grownBy.trans (World.grownBy_alloc W _ _) hgr
    have hO : Ow w1 e v1 ([] ++ [u]) := own_weaken hown (Nat.zero_le _)
    refine h v1 w1 hO ⟨hgr2.os, hgr2.tape, hgr2.output, hgr2.size, fun k hk _ => hgr2.block k hk (by simp)⟩ (.inr ⟨hgr2, ?_⟩)
    rcases hown.2 with ⟨_, h9⟩ | ⟨g1, _, _, rfl, hb1, _⟩
    · exact absurd h9 (by simp)
    · exact ⟨g1, rfl, by rw [alloc_size] at hb1; omega⟩
  · have hgl := blk_lt hg
    have hg' : (W.alloc (.cells #[u] e)).heap[g]? = some (.cells cur e (0, 0)) := blk_alloc hg _
    refine wpList_append_arg (W.alloc (.cells #[u] e)) hgd s x t ho e i0 z 1 bytes ht hi hz0 hz1 hz2 hz (Nat.zero_lt_one) g 0 xs.length cap xs hs (Nat.mul_one _).symm (fun j y hj => ?_) ⟨W.heap.size, 0, none⟩ 1 1 [u] hx rfl hnew one (fun hr j hj => ?_) hl2 hl ?_ ?_
    · have hjl : j < xs.length := by
        rcases Nat.lt_or_ge j xs.length with h | h
        · exact h
        · rw [List.getElem?_eq_none h] at hj; cases hj
      rw [Nat.zero_add, blk_cell hg', ← Array.getElem?_toList, take_at h6 j hjl, hj]
    · have hj0 : j = 0 := by simpa using hj
      subst hj0
      refine ⟨?_, blk_frozen hg' _⟩
      have hlt : 0 + xs.length * 1 + 0 < cur.size := by omega
      rw [blk_cell hg', Array.getElem?_eq_getElem hlt]
      rfl
    · intro hr
      rw [set_one]
      have hp : ((W.alloc (.cells #[u] e)).setCell ⟨g, 0 + xs.length * 1, none⟩ u).heap[g]? = some (.cells (cur.setIfInBounds xs.length u) e (0, 0)) := by
        rw [Nat.zero_add, Nat.mul_one]
        exact blk_put hg' xs.length u rfl
      have hO : Ow ((W.alloc (.cells #[u] e)).setCell ⟨g, 0 + xs.length * 1, none⟩ u) e (.slice (some ⟨g, 0, none⟩) (xs.length + 1) cap) (xs ++ [u]) := by
        have := Ow_mk (xs := xs ++ [u]) hp (by rw [List.length_append]; exact hr) h4 (by simp [h5]) (by
          have hlt : xs.length < cur.toList.length := by have := Array.length_toList (xs := cur); omega
          rw [List.length_append, List.length_singleton, Array.toList_setIfInBounds, List.take_set, List.take_succ_eq_append_getElem hlt, h6, List.set_append_right _ _ (Nat.le_refl _), Nat.sub_self]
          rfl)
        rw [List.length_append] at this
        exact this
      refine h _ _ hO ⟨rfl, rfl, rfl, ?_, fun k hk hne => ?_⟩ (.inl rfl)
      · exact Nat.le_trans (World.grownBy_alloc W (.cells #[u] e) none).size (by simp [World.setCell])
      · have h1 := (World.grownBy_alloc W (.cells #[u] e) none).block k hk (by simp)
        rw [← h1]
        exact Below.heap_setCell _ _ _ k (fun e => hne (by rw [e]; rfl))
    · intro hfull v1 w1 hown hgr
      have hgr2 : W.grownBy w1 none := World.grownBy.trans (World.grownBy_alloc W _ _) hgr
      have hO : Ow w1 e v1 (xs ++ [u]) := by
        have := own_weaken hown (Nat.zero_le _)
        unfold Ow
        rw [List.length_append]
        exact this
      refine h v1 w1 hO ⟨hgr2.os, hgr2.tape, hgr2.output, hgr2.size, fun k hk _ => hgr2.block k hk (by simp)⟩ (.inr ⟨hgr2, ?_⟩)
      rcases hown.2 with ⟨_, h9⟩ | ⟨g1, _, _, rfl, hb1, _⟩
      · exact absurd h9 (by omega)
      · exact ⟨g1, rfl, by rw [alloc_size] at hb1; omega⟩
end
end Go.Proofs.YtbbembhfnapadaaDoor
