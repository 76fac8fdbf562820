/- The walk of apartNums: lists with memory of their own. -/
import Derived.Test.YtbbembhfnapadaaDoorVnG
namespace Go.Proofs.YtbbembhfnapadaaDoor
open Go.RowKit Go.Proofs.YtbbembhfnapadaaDoorW.PrintWords Go.Proofs.YtbbembhfnapadaaDoorW.PrintLast Go.Proofs.YtbbembhfnapadaaDoorW.PrintMore PVmPlays Pl
set_option linter.unusedVariables false
set_option linter.unusedSimpArgs false

/-- The numbers from a on. -/
def numL (a n : Nat) : List Value := (List.range n).map fun t => Value.int .i64 ((a + t : Nat) : Int)
theorem numL_len (a n : Nat) : (numL a n).length = n := by simp [numL]
theorem numL_succ (a n : Nat) : numL a (n + 1) = numL a n ++ [Value.int .i64 ((a + n : Nat) : Int)] := by simp [numL, List.range_succ]
theorem numL_get (a n t : Nat) (h : t < (numL a n).length) : (numL a n)[t] = Value.int .i64 ((a + t : Nat) : Int) := by simp [numL]
def off (L : Nat → Nat) : Nat → Nat
  | 0 => 0
  | i + 1 => off L i + L i
theorem off_le (L : Nat → Nat) (i : Nat) : ∀ d, off L i ≤ off L (i + d)
  | 0 => Nat.le_refl _
  | d + 1 => Nat.le_trans (off_le L i d) (Nat.le_add_right _ _)
theorem off_lt {L : Nat → Nat} {i n : Nat} (h : i < n) : off L i + L i ≤ off L n := by
  have := off_le L (i + 1) (n - (i + 1))
  rw [show i + 1 + (n - (i + 1)) = n by omega] at this
  exact this
def upd {α : Type} (f : Nat → α) (i : Nat) (y : α) : Nat → α := fun k => if k = i then y else f k
theorem upd_same {α : Type} (f : Nat → α) (i : Nat) (y : α) : upd f i y i = y := if_pos rfl
theorem upd_ne {α : Type} (f : Nat → α) (i : Nat) (y : α) {k : Nat} (h : k ≠ i) : upd f i y k = f k := if_neg h

/-- Lists whose memory is their own: their values V, their lengths L; they stand in block p; none below B. -/
structure Apt (w : World) (B p n : Nat) (cp : Array Value) (V : Nat → Value) (L : Nat → Nat) : Prop where
  pk : w.heap[p]? = some (.cells cp 43 (0, 0))
  at_ : ∀ k, k < n → cp[k]? = some (V k)
  dis : ∀ k j, k < n → j < n → k ≠ j → ∀ b, (V k).ownBlock = some b → (V j).ownBlock ≠ some b
  base : ∀ k, k < n → ∀ b, (V k).ownBlock = some b → B ≤ b
  lt : ∀ k, k < n → ∀ b, (V k).ownBlock = some b → b < w.heap.size
  small : off L n + 12 * n ≤ 8796093022208
  np : n ≤ 1099511627776
  nB : B ≤ w.heap.size
/-- The lists are written over. -/
structure P1 (w w' : World) (B p n : Nat) (cp : Array Value) (V : Nat → Value) (L : Nat → Nat) (X : Nat → List Value) : Prop where
  own : ∀ k, k < n → Ow w' 2 (V k) (X k)
  len : ∀ k, k < n → (X k).length = L k
  pk : w'.heap[p]? = some (.cells cp 43 (0, 0))
  below : Below B w w'
  size : w'.heap.size = w.heap.size
theorem P1_slice {w w' : World} {B p n : Nat} {cp : Array Value} {V : Nat → Value} {L : Nat → Nat} {X : Nat → List Value} (h : P1 w w' B p n cp V L X) (i : Nat) (hi : i < n) : ∃ A c, V i = .slice A (L i) c := by
  obtain ⟨A, c, e⟩ := Ow_slice (h.own i hi)
  rw [h.len i hi] at e
  exact ⟨A, c, e⟩
theorem P1_at {w w' : World} {B p n : Nat} {cp : Array Value} {V : Nat → Value} {L : Nat → Nat} {X : Nat → List Value} (h : P1 w w' B p n cp V L X) (i j : Nat) (hi : i < n) (hj : j < L i) : ∃ g c u, V i = .slice (some ⟨g, 0, none⟩) (L i) c ∧ w'.cell? ⟨g, j, none⟩ = some u ∧ w'.frozen? ⟨g, j, none⟩ = false := by
  obtain ⟨g, c, e, h1, h2⟩ := Ow_cell (h.own i hi) j (by rw [h.len i hi]; exact hj)
  rw [h.len i hi] at e
  exact ⟨g, c, _, e, h1, h2⟩
theorem P1_put {w w' : World} {B p n : Nat} {cp : Array Value} {V : Nat → Value} {L : Nat → Nat} {X : Nat → List Value} (hA : Apt w B p n cp V L) (h : P1 w w' B p n cp V L X) (i j g c : Nat) (hi : i < n) (hj : j < L i) (hv : V i = .slice (some ⟨g, 0, none⟩) (L i) c) (u : Value) : P1 w (w'.setCell ⟨g, j, none⟩ u) B p n cp V L (upd X i ((X i).set j u)) := by
  have hb : (V i).ownBlock = some g := by rw [hv]; rfl
  obtain ⟨cur, hcur⟩ := Ow_blk (h.own i hi) g hb
  refine ⟨fun k hk => ?_, fun k hk => ?_, ?_, h.below.setCell (hA.base i hi g hb) _, ?_⟩
  · by_cases e : k = i
    · subst e
      rw [upd_same]
      have ho := h.own k hi
      have hl := h.len k hi
      rw [hv, ← hl] at ho ⊢
      exact Ow_put ho j u (by rw [hl]; exact hj)
    · rw [upd_ne _ _ _ e]
      exact Ow_far (h.own k hk) (fun b hb2 => Below.heap_setCell _ _ _ b (fun e2 => hA.dis k i hk hi e b hb2 (by rw [hb, e2])))
  · by_cases e : k = i
    · subst e; rw [upd_same, List.length_set]; exact h.len k hi
    · rw [upd_ne _ _ _ e]; exact h.len k hk
  · exact blk_far h.pk (blk_ne h.pk hcur (by decide)) _
  · rw [← h.size]; simp [World.setCell]
/-- What is numbered. -/
def Tl (L : Nat → Nat) (k : Nat) : List Value := numL (1000000 + off L k) (L k)
theorem Tl_get (L : Nat → Nat) (k t : Nat) (h : t < (Tl L k).length) : (Tl L k)[t] = Value.int .i64 ((1000000 + off L k + t : Nat) : Int) := numL_get _ _ _ h
/-- The lists grow one after the other. -/
structure St (w w' : World) (B p n : Nat) (cp : Array Value) (V : Nat → Value) (L : Nat → Nat) (C : Nat → Value) (Y : Nat → List Value) (vG : Value) (gs : List Value) : Prop where
  own : ∀ k, k < n → Ow w' 2 (C k) (Y k)
  pre : ∀ k, k < n → ∃ ys, Y k = Tl L k ++ ys
  rd : ∀ k, k < n → Rd w' (V k) (Tl L k)
  d1 : ∀ k j, k < n → j < n → k ≠ j → ∀ b, (C k).ownBlock = some b → (C j).ownBlock ≠ some b
  d2 : ∀ k j, k < n → j < n → k ≠ j → ∀ b, (C k).ownBlock = some b → (V j).ownBlock ≠ some b
  base : ∀ k, k < n → ∀ b, (C k).ownBlock = some b → B ≤ b
  pk : w'.heap[p]? = some (.cells cp 43 (0, 0))
  below : Below B w w'
  size : w.heap.size ≤ w'.heap.size
  rowG : Ow w' 43 vG gs
  bG : ∀ b, vG.ownBlock = some b → w.heap.size ≤ b
theorem Below_grown {B : Nat} {w w1 w2 : World} (h : Below B w w1) (hs : w.heap.size ≤ w1.heap.size) (hB : B ≤ w.heap.size) {row : Option Nat} (hg : w1.grownBy w2 row) (hr : ∀ b, row = some b → B ≤ b) : Below B w w2 := h.grown hg (by omega) hr
theorem St_app {w w' w1 : World} {B p n : Nat} {cp : Array Value} {V : Nat → Value} {L : Nat → Nat} {C : Nat → Value} {Y : Nat → List Value} {vG : Value} {gs : List Value} (hA : Apt w B p n cp V L) (h : St w w' B p n cp V L C Y vG gs) (i : Nat) (hi : i < n) (v1 u : Value) (ho : Ow w1 2 v1 (Y i ++ [u])) (hg : w'.grownBy w1 (C i).ownBlock) (hat : v1.ownBlock = (C i).ownBlock ∨ (w'.grownBy w1 none ∧ ∃ b, v1.ownBlock = some b ∧ w'.heap.size ≤ b)) :
    St w w1 B p n cp V L (upd C i v1) (upd Y i (Y i ++ [u])) vG gs := by
  have hlt : ∀ k, k < n → ∀ b, (C k).ownBlock = some b → b < w'.heap.size := fun k hk b hb => Ow_lt (h.own k hk) b hb
  have hvl : ∀ k, k < n → ∀ b, (V k).ownBlock = some b → b < w'.heap.size := fun k hk b hb => Nat.lt_of_lt_of_le (hA.lt k hk b hb) h.size
  have v1b : ∀ b, v1.ownBlock = some b → (C i).ownBlock = some b ∨ w'.heap.size ≤ b := fun b hb => by
    rcases hat with hat | ⟨_, b1, hb1, hle⟩
    · exact .inl (by rw [← hat]; exact hb)
    · obtain rfl : b = b1 := Option.some.inj (hb.symm.trans hb1)
      exact .inr hle
  have two : ∀ k b, (C i).ownBlock = some b → w'.heap[k]? = some (.cells cp 43 (0, 0)) → k ≠ b := fun k b hb hk => by
    obtain ⟨cur, hc⟩ := Ow_blk (h.own i hi) b hb
    exact blk_ne hk hc (by decide)
  refine ⟨fun k hk => ?_, fun k hk => ?_, fun k hk => ?_, ?_, ?_, ?_, ?_, ?_, Nat.le_trans h.size hg.size, ?_, h.bG⟩
  · by_cases e : k = i
    · subst e; rw [upd_same, upd_same]; exact ho
    · rw [upd_ne _ _ _ e, upd_ne _ _ _ e]
      exact Ow_far (h.own k hk) (fun b hb => hg.block b (hlt k hk b hb) (fun e2 => h.d1 k i hk hi e b hb e2.symm))
  · by_cases e : k = i
    · subst e
      obtain ⟨ys, hy⟩ := h.pre k hi
      exact ⟨ys ++ [u], by rw [upd_same, hy, List.append_assoc]⟩
    · rw [upd_ne _ _ _ e]; exact h.pre k hk
  · by_cases e : ∃ b, (V k).ownBlock = some b ∧ (C i).ownBlock = some b
    · obtain ⟨b, e1, e2⟩ := e
      have hki : k = i := Classical.byContradiction fun hne => h.d2 i k hi hk (fun e => hne e.symm) b e2 e1
      subst hki
      rcases hat with hat | ⟨hn, _⟩
      · obtain ⟨ys, hy⟩ := h.pre k hi
        rw [hy, List.append_assoc] at ho
        exact Rd_prefix (h.rd k hi) ho (by rw [hat, e2, e1])
      · exact Rd_far (h.rd k hi) (fun b2 hb2 => hn.block b2 (hvl k hi b2 hb2) (by simp))
    · exact Rd_far (h.rd k hk) (fun b hb => hg.block b (hvl k hk b hb) (fun e2 => e ⟨b, hb, e2.symm⟩))
  · intro k j hk hj hne b hb
    by_cases ek : k = i
    · subst ek
      rw [upd_same] at hb
      rw [upd_ne _ _ _ (fun e => hne e.symm)]
      rcases v1b b hb with h1 | h1
      · exact h.d1 k j hk hj hne b h1
      · exact fun e2 => by have := hlt j hj b e2; omega
    · rw [upd_ne _ _ _ ek] at hb
      by_cases ej : j = i
      · subst ej
        rw [upd_same]
        intro e2
        rcases v1b b e2 with h1 | h1
        · exact h.d1 k j hk hj hne b hb h1
        · have := hlt k hk b hb; omega
      · rw [upd_ne _ _ _ ej]; exact h.d1 k j hk hj hne b hb
  · intro k j hk hj hne b hb
    by_cases ek : k = i
    · subst ek
      rw [upd_same] at hb
      rcases v1b b hb with h1 | h1
      · exact h.d2 k j hk hj hne b h1
      · exact fun e2 => by have := hvl j hj b e2; omega
    · rw [upd_ne _ _ _ ek] at hb; exact h.d2 k j hk hj hne b hb
  · intro k hk b hb
    by_cases ek : k = i
    · subst ek
      rw [upd_same] at hb
      rcases v1b b hb with h1 | h1
      · exact h.base k hk b h1
      · have := hA.nB; have := h.size; omega
    · rw [upd_ne _ _ _ ek] at hb; exact h.base k hk b hb
  · exact (hg.block p (blk_lt h.pk) (fun e => two p p e.symm h.pk rfl)).trans h.pk
  · exact Below_grown h.below h.size hA.nB hg (fun b hb => h.base i hi b hb)
  · refine Ow_far h.rowG (fun b hb => hg.block b (Ow_lt h.rowG b hb) (fun e => ?_))
    obtain ⟨cur, hc⟩ := Ow_blk h.rowG b hb
    obtain ⟨cur2, hc2⟩ := Ow_blk (h.own i hi) b e.symm
    exact blk_ne hc hc2 (by decide) rfl
theorem St_row {w w' w1 : World} {B p n : Nat} {cp : Array Value} {V : Nat → Value} {L : Nat → Nat} {C : Nat → Value} {Y : Nat → List Value} {vG : Value} {gs : List Value} (hA : Apt w B p n cp V L) (h : St w w' B p n cp V L C Y vG gs) (v1 u : Value) (ho : Ow w1 43 v1 (gs ++ [u])) (hg : w'.grownBy w1 vG.ownBlock) (hat : v1.ownBlock = vG.ownBlock ∨ (w'.grownBy w1 none ∧ ∃ b, v1.ownBlock = some b ∧ w'.heap.size ≤ b)) :
    St w w1 B p n cp V L C Y v1 (gs ++ [u]) := by
  have keep : ∀ (b : Nat) (cur : Array Value), w'.heap[b]? = some (.cells cur 2 (0, 0)) → w1.heap[b]? = w'.heap[b]? := fun b cur hb => hg.block b (blk_lt hb) (fun e => by
    obtain ⟨cur2, hc⟩ := Ow_blk h.rowG b e.symm
    exact blk_ne hb hc (by decide) rfl)
  refine ⟨fun k hk => ?_, h.pre, fun k hk => ?_, h.d1, h.d2, h.base, ?_, ?_, Nat.le_trans h.size hg.size, ho, ?_⟩
  · refine Ow_far (h.own k hk) (fun b hb => ?_)
    obtain ⟨cur, hc⟩ := Ow_blk (h.own k hk) b hb
    exact keep b cur hc
  · refine Rd_far (h.rd k hk) (fun b hb => hg.block b (Nat.lt_of_lt_of_le (hA.lt k hk b hb) h.size) (fun e => ?_))
    have h1 := hA.lt k hk b hb
    have h2 := h.bG b e.symm
    omega
  · refine (hg.block p (blk_lt h.pk) (fun e => ?_)).trans h.pk
    have h1 := h.bG p e.symm
    have h2 := blk_lt hA.pk
    omega
  · exact Below_grown h.below h.size hA.nB hg (fun b hb => Nat.le_trans hA.nB (h.bG b hb))
  · intro b hb
    rcases hat with hat | ⟨_, b1, hb1, hle⟩
    · exact h.bG b (by rw [← hat]; exact hb)
    · obtain rfl : b = b1 := Option.some.inj (hb.symm.trans hb1)
      exact Nat.le_trans h.size hle
theorem St_start {w w' : World} {B p n : Nat} {cp : Array Value} {V : Nat → Value} {L : Nat → Nat} {X : Nat → List Value} (hA : Apt w B p n cp V L) (h : P1 w w' B p n cp V L X) (hX : ∀ k, k < n → X k = Tl L k) : St w w' B p n cp V L V (Tl L) (.slice none 0 0) [] := by
  have ho : ∀ k, k < n → Ow w' 2 (V k) (Tl L k) := fun k hk => by rw [← hX k hk]; exact h.own k hk
  exact ⟨ho, fun k _ => ⟨[], by simp⟩, fun k hk => Ow_Rd (ho k hk), hA.dis, hA.dis, hA.base, h.pk, h.below, by rw [h.size]; exact Nat.le_refl _, Ow_nil _ _, fun b hb => by cases hb⟩
theorem info43 : (Tryd.prog.info? 43).map (fun i => (i.zero, i.size, i.bytes)) = some (some (.slice none 0 0), 1, 24) := by kernel_rfl

set_option maxRecDepth 20000 in
set_option maxHeartbeats 2000000 in
theorem apartnums_calls (B p n cc : Nat) (cp : Array Value) (V : Nat → Value) (L : Nat → Nat) (X0 : Nat → List Value) (w : World) (hA : Apt w B p n cp V L) (h0 : P1 w w B p n cp V L X0) :
    Calls Tryd.prog 53 #[.slice (some ⟨p, 0, none⟩) n cc] w fun e w' => e = .returned (.bool true) ∧ Below B w w' := by
  have HA := Aside0.mk hA
  have HP0 := Aside0.mk h0
  have HS := Aside0.mk hA.small
  have HN := Aside0.mk hA.np
  clear hA h0
  go_enter Tryd.func53, Tryd.ntmps53
  go_wp2_with fail
  go_loopw [3, 5, 6] (fun v3 v5 _ w' => ∃ (i : Nat) (X : Nat → List Value), v5 = .int .i64 i ∧ i ≤ n ∧ v3 = .int .i64 ((1000000 + off L i : Nat) : Int) ∧ Aside0 (P1 w w' B p n cp V L X) ∧ Aside0 (∀ k, k < i → X k = Tl L k)) (fun _ v5 _ _ => n - (intOf v5).toNat)
  case atStart => exact ⟨0, X0, rfl, Nat.zero_le _, rfl, HP0, ⟨fun k hk => absurd hk (Nat.not_lt_zero _)⟩⟩
  case round =>
    obtain ⟨i, X, rfl, hi, rfl, HP, HX⟩ := hrel
    by_cases h2 : i < n
    · have b1 : decide ((i : Int) < (n : Int)) = true := decide_eq_true (by omega)
      have hw1 : wrap64 ((i : Int) + 1) = ((i + 1 : Nat) : Int) := by unfold wrap64; have := HN.out; omega
      have HW1 := Aside0.mk hw1; clear hw1
      have HI := Aside0.mk h2
      have hof := off_lt (L := L) h2
      have HOF := Aside0.mk hof; clear hof
      clear hi
      have q0 : (0 ≤ (i : Int)) = True := eq_true (by omega)
      have q1 : ((i : Int) < (n : Int)) = True := eq_true (by omega)
      obtain ⟨A, c, hV⟩ := P1_slice HP.out i h2
      have HVI := Aside0.mk hV; clear hV
      clear h2
      obtain ⟨m, hm⟩ : ∃ m, m = L i := ⟨_, rfl⟩
      rw [← hm] at HVI HOF
      have HM := Aside0.mk hm; clear hm
      go_wp2_with fail
      go_loopw [3, 6] (fun v3 v6 w' => ∃ (j : Nat) (X : Nat → List Value), v6 = .int .i64 j ∧ j ≤ m ∧ v3 = .int .i64 ((1000000 + off L i + j : Nat) : Int) ∧ Aside0 (P1 w w' B p n cp V L X) ∧ Aside0 (∀ k, k < i → X k = Tl L k) ∧ Aside0 ((X i).take j = numL (1000000 + off L i) j)) (fun _ v6 _ => m - (intOf v6).toNat)
      case atStart => exact ⟨0, X, rfl, Nat.zero_le _, rfl, HP, HX, ⟨rfl⟩⟩
      case round =>
        clear HP HX
        obtain ⟨j, X, rfl, hj, rfl, HP, HX, HT⟩ := hrel
        have e0 : wr.cell? ⟨p, i, none⟩ = some (.slice A m c) := by
          rw [blk_cell HP.out.pk, HA.out.at_ i HI.out, HVI.out]
        by_cases j2 : j < m
        · have b2 : decide ((j : Int) < (m : Int)) = true := decide_eq_true (by omega)
          have q2 : (0 ≤ (j : Int)) = True := eq_true (by omega)
          have q3 : ((j : Int) < (m : Int)) = True := eq_true (by omega)
          obtain ⟨g, c', u, hv', e1, z1⟩ := P1_at HP.out i j HI.out (by rw [← HM.out]; exact j2)
          rw [HVI.out, ← HM.out] at hv'
          injection hv' with a1 a2 a3
          subst a1 a3
          have HP2 := Aside0.mk (P1_put HA.out HP.out i j g c HI.out (by rw [← HM.out]; exact j2) (by rw [HVI.out, HM.out]) (.int .i64 ((1000000 + off L i + j : Nat) : Int)))
          have hxl : (X i).length = m := by rw [HP.out.len i HI.out, HM.out]
          have HX2 : Aside0 (∀ k, k < i → upd X i ((X i).set j (.int .i64 ((1000000 + off L i + j : Nat) : Int))) k = Tl L k) := ⟨fun k hk => by rw [upd_ne _ _ _ (by omega)]; exact HX.out k hk⟩
          have HT2 : Aside0 ((upd X i ((X i).set j (.int .i64 ((1000000 + off L i + j : Nat) : Int))) i).take (j + 1) = numL (1000000 + off L i) (j + 1)) := ⟨by
            rw [upd_same, numL_succ, ← HT.out, List.take_succ_eq_append_getElem (by rw [List.length_set]; omega), List.take_set, List.set_eq_of_length_le (by rw [List.length_take]; omega), List.getElem_set_self]⟩
          have hw2 : wrap64 ((j : Int) + 1) = ((j + 1 : Nat) : Int) := by unfold wrap64; have := HOF.out; have := HS.out; omega
          have hw3 : wrap64 (((1000000 + off L i + j : Nat) : Int) + 1) = ((1000000 + off L i + (j + 1) : Nat) : Int) := by unfold wrap64; have := HOF.out; have := HS.out; omega
          have HW2 := Aside0.mk hw2; have HW3 := Aside0.mk hw3; have HJ := Aside0.mk j2
          generalize upd X i ((X i).set j (.int .i64 ((1000000 + off L i + j : Nat) : Int))) = X2 at *
          generalize hN : ((1000000 + off L i + j : Nat) : Int) = N at *
          clear hw2 hw3 hxl HP HX HT j2 hj
          go_wp2_with fail
          refine ⟨⟨j + 1, X2, by rw [HW2.out], by have := HJ.out; omega, by rw [HW3.out], HP2, HX2, HT2⟩, ?_⟩
          rw [HW2.out]
          have := HJ.out
          simp [intOf]
          omega
        · have b2 : decide ((j : Int) < (m : Int)) = false := decide_eq_false (by omega)
          have hjm : m = j := by omega
          subst hjm
          have HX2 : Aside0 (∀ k, k < i + 1 → X k = Tl L k) := ⟨fun k hk => by
            by_cases e : k = i
            · subst e
              have h1 := HT.out
              rw [List.take_of_length_le (by rw [HP.out.len k HI.out, HM.out]; exact Nat.le_refl _)] at h1
              rw [h1, HM.out]
              rfl
            · exact HX.out k (by omega)⟩
          have HE : Aside0 (1000000 + off L i + m = 1000000 + off L (i + 1)) := ⟨by rw [HM.out, Nat.add_assoc]; rfl⟩
          clear j2
          go_wp2_with fail
          refine ⟨⟨i + 1, X, by rw [HW1.out], HI.out, by rw [HE.out], HP, HX2⟩, ?_⟩
          rw [HW1.out]
          have := HI.out
          simp [intOf]
          omega
    · have b1 : decide ((i : Int) < (n : Int)) = false := decide_eq_false (by omega)
      have hin : n = i := by omega
      subst hin
      have HST : Aside0 (St w wr B p n cp V L V (Tl L) (.slice none 0 0) []) := ⟨St_start HA.out HP.out HX.out⟩
      have HVS : Aside0 (∀ k, k < n → ∃ A c, V k = .slice A (L k) c) := ⟨fun k hk => P1_slice HP.out k hk⟩
      clear HP HX h2 hi b1 HP0
      go_wp2_with fail
      go_loopw [3, 4, 7, 8, 9] (fun v3 v4 v7 _ _ w' => ∃ (i : Nat) (C : Nat → Value) (Y : Nat → List Value) (AG : Option Addr) (cG : Nat) (gs : List Value), v7 = .int .i64 i ∧ i ≤ n ∧ v3 = .int .i64 ((1000000 + off L n + 12 * i : Nat) : Int) ∧ v4 = .slice AG i cG ∧ Aside0 (St w w' B p n cp V L C Y (.slice AG i cG) gs) ∧ Aside0 (gs.length = i) ∧ Aside0 (∀ k, k < i → gs[k]? = some (C k)) ∧ Aside0 (∀ k, k < i → Y k = Tl L k ++ numL (1000000 + off L n + 12 * k) 12) ∧ Aside0 (∀ k, i ≤ k → k < n → C k = V k ∧ Y k = Tl L k)) (fun _ _ v7 _ _ _ => n - (intOf v7).toNat)
      case atStart => exact ⟨0, V, Tl L, none, 0, [], rfl, Nat.zero_le _, by rw [Nat.mul_zero, Nat.add_zero], rfl, HST, ⟨rfl⟩, ⟨fun k hk => absurd hk (Nat.not_lt_zero _)⟩, ⟨fun k hk => absurd hk (Nat.not_lt_zero _)⟩, ⟨fun k _ _ => ⟨rfl, rfl⟩⟩⟩
      case round =>
        clear HST
        obtain ⟨i, C, Y, AG, cG, gs, rfl, hi, rfl, rfl, HT, HGL, HG, HY, HC⟩ := hrel
        by_cases h2 : i < n
        · have b1 : decide ((i : Int) < (n : Int)) = true := decide_eq_true (by omega)
          have hw1 : wrap64 ((i : Int) + 1) = ((i + 1 : Nat) : Int) := by unfold wrap64; have := HN.out; omega
          have HW1 := Aside0.mk hw1; clear hw1
          have HI := Aside0.mk h2
          have HOF := Aside0.mk (off_lt (L := L) h2)
          obtain ⟨hc0, hy0⟩ := HC.out i (Nat.le_refl _) h2
          obtain ⟨A8, c8, e8⟩ := Ow_slice (HT.out.own i h2)
          have hyl : (Y i).length = L i := by rw [hy0]; exact numL_len _ _
          rw [hyl] at e8
          obtain ⟨m, hm⟩ : ∃ m, m = L i := ⟨_, rfl⟩
          rw [← hm] at e8 HOF
          have HM := Aside0.mk hm; clear hm hyl
          have e0 : wr.cell? ⟨p, i, none⟩ = some (.slice A8 m c8) := by rw [blk_cell HT.out.pk, HA.out.at_ i h2, ← hc0, e8]
          have q0 : (0 ≤ (i : Int)) = True := eq_true (by omega)
          have q1 : ((i : Int) < (n : Int)) = True := eq_true (by omega)
          have HC8 := Aside0.mk e8
          have HY8 : Aside0 (Y i = Tl L i ++ numL (1000000 + off L n + 12 * i) 0) := ⟨by rw [hy0]; simp [numL]⟩
          have HC2 : Aside0 (∀ k, i < k → k < n → C k = V k ∧ Y k = Tl L k) := ⟨fun k h1 h2 => HC.out k (by omega) h2⟩
          clear hc0 hy0 e8 h2 hi HC
          go_wp2_with fail
          go_loopw [3, 8, 9] (fun v3 v8 v9 w' => ∃ (t : Nat) (C : Nat → Value) (Y : Nat → List Value) (A8 : Option Addr) (c8 : Nat), v9 = .int .i64 t ∧ t ≤ 12 ∧ v3 = .int .i64 ((1000000 + off L n + 12 * i + t : Nat) : Int) ∧ v8 = .slice A8 (m + t) c8 ∧ Aside0 (C i = .slice A8 (m + t) c8) ∧ Aside0 (St w w' B p n cp V L C Y (.slice AG i cG) gs) ∧ Aside0 (∀ k, k < i → gs[k]? = some (C k)) ∧ Aside0 (∀ k, k < i → Y k = Tl L k ++ numL (1000000 + off L n + 12 * k) 12) ∧ Aside0 (∀ k, i < k → k < n → C k = V k ∧ Y k = Tl L k) ∧ Aside0 (Y i = Tl L i ++ numL (1000000 + off L n + 12 * i) t)) (fun _ _ v9 _ => 12 - (intOf v9).toNat)
          case atStart => exact ⟨0, C, Y, A8, c8, rfl, Nat.zero_le _, rfl, rfl, HC8, HT, HG, HY, HC2, HY8⟩
          case round =>
            clear HC8 HT HG HY HC2 HY8 e0
            obtain ⟨t, C, Y, A8, c8, rfl, ht, rfl, rfl, HC8, HT, HG, HY, HC2, HY8⟩ := hrel
            have hyl : (Y i).length = m + t := by rw [HY8.out, List.length_append, numL_len, HM.out]; unfold Tl; rw [numL_len]
            by_cases t2 : t < 12
            · have b2 : decide ((t : Int) < 12) = true := decide_eq_true (by omega)
              have HOW : Aside0 (Ow wr 2 (.slice A8 (m + t) c8) (Y i)) := ⟨by rw [← HC8.out]; exact HT.out.own i HI.out⟩
              have hln : ((Y i).length + 1) * 8 ≤ 140737488355328 := by rw [hyl]; have := HOF.out; have := HS.out; omega
              have hlm : (Y i).length + 1 ≤ maxLen := by rw [hyl]; unfold maxLen; have := HOF.out; have := HS.out; omega
              have HLN := Aside0.mk hln; have HLM := Aside0.mk hlm; have HYL := Aside0.mk hyl; have HTT := Aside0.mk t2
              have hw2 : wrap64 ((t : Int) + 1) = ((t + 1 : Nat) : Int) := by unfold wrap64; omega
              have hw3 : wrap64 (((1000000 + off L n + 12 * i + t : Nat) : Int) + 1) = ((1000000 + off L n + 12 * i + (t + 1) : Nat) : Int) := by unfold wrap64; have := HI.out; have := HS.out; omega
              have HW2 := Aside0.mk hw2; have HW3 := Aside0.mk hw3
              obtain ⟨N, hN⟩ : ∃ N : Int, N = ((1000000 + off L n + 12 * i + t : Nat) : Int) := ⟨_, rfl⟩
              rw [← hN] at HW3
              have hns : numL (1000000 + off L n + 12 * i) (t + 1) = numL (1000000 + off L n + 12 * i) t ++ [.int .i64 N] := by rw [numL_succ, hN]
              have HNS := Aside0.mk hns
              rw [← hN]
              clear hln hlm hyl t2 ht hw2 hw3 hN hns
              go_wp2_with (first | ((with_reducible refine gate_builtin (b := .append) (xs := #[.tmp 52, .tmp 54]) rfl ?_); at_builtin; refine wp_append_one (W := wr) rfl (.tmp 52) (.tmp 54) 43 2 (.int .i64 0) 8 rfl Tryd.underlying43 info2 rfl (by decide) (.slice A8 (m + t) c8) (Y i) (.int .i64 N) rfl rfl rfl HOW.out HLN.out HLM.out ?_; intro v55 w55 ho55 hg55 hat55; obtain ⟨A9, c9, hv9⟩ := Ow_slice ho55; rw [List.length_append, HYL.out, List.length_singleton] at hv9; subst hv9; have HO55 := Aside0.mk ho55; have HG55 := Aside0.mk hg55; have HAT := Aside0.mk hat55; clear ho55 hg55 hat55))
              refine ⟨⟨t + 1, upd C i (.slice A9 (m + t + 1) c9), upd Y i (Y i ++ [.int .i64 N]), A9, c9, by rw [HW2.out], HTT.out, by rw [HW3.out], rfl, ⟨by rw [upd_same]; rfl⟩, ⟨?_⟩, ⟨fun k hk => ?_⟩, ⟨fun k hk => ?_⟩, ⟨fun k h1 h2 => ?_⟩, ⟨?_⟩⟩, ?_⟩
              · exact St_app HA.out HT.out i HI.out _ _ HO55.out (by rw [HC8.out]; exact HG55.out) (by rw [HC8.out]; exact HAT.out)
              · rw [upd_ne _ _ _ (by omega)]; exact HG.out k hk
              · rw [upd_ne _ _ _ (by omega)]; exact HY.out k hk
              · rw [upd_ne _ _ _ (by omega), upd_ne _ _ _ (by omega)]; exact HC2.out k h1 h2
              · rw [upd_same, HY8.out, HNS.out, List.append_assoc]
              · rw [HW2.out]
                have := HTT.out
                simp [intOf]
                omega
            · have b2 : decide ((t : Int) < 12) = false := decide_eq_false (by omega)
              have ht12 : t = 12 := by omega
              subst ht12
              have HOG := Aside0.mk HT.out.rowG
              have hln : (gs.length + 1) * 24 ≤ 140737488355328 := by rw [HGL.out]; have := HI.out; have := HN.out; omega
              have hlm : gs.length + 1 ≤ maxLen := by rw [HGL.out]; unfold maxLen; have := HI.out; have := HN.out; omega
              have HLN := Aside0.mk hln; have HLM := Aside0.mk hlm
              clear hln hlm hyl t2 ht
              go_wp2_with (first | ((with_reducible refine gate_builtin (b := .append) (xs := #[.tmp 58, .tmp 60]) rfl ?_); at_builtin; refine wp_append_one (W := wr) rfl (.tmp 58) (.tmp 60) 51 43 (.slice none 0 0) 24 rfl Tryd.underlying51 info43 rfl (by decide) (.slice AG i cG) gs (.slice A8 (m + 12) c8) rfl rfl rfl HOG.out HLN.out HLM.out ?_; intro v61 w61 ho61 hg61 hat61; obtain ⟨A9, c9, hv9⟩ := Ow_slice ho61; rw [List.length_append, HGL.out, List.length_singleton] at hv9; subst hv9; have HO61 := Aside0.mk ho61; have HG61 := Aside0.mk hg61; have HAT := Aside0.mk hat61; clear ho61 hg61 hat61))
              refine ⟨⟨i + 1, C, Y, A9, c9, gs ++ [.slice A8 (m + 12) c8], by rw [HW1.out], HI.out, by first | (congr 1; done) | (congr 1; omega), rfl, ⟨St_row HA.out HT.out _ _ HO61.out HG61.out HAT.out⟩, ⟨by rw [List.length_append, HGL.out]; rfl⟩, ⟨fun k hk => ?_⟩, ⟨fun k hk => ?_⟩, ⟨fun k h1 h2 => HC2.out k (by omega) h2⟩⟩, ?_⟩
              · by_cases e : k = i
                · subst e
                  rw [List.getElem?_append_right (by rw [HGL.out]; exact Nat.le_refl _), HGL.out, Nat.sub_self, HC8.out]
                  rfl
                · rw [List.getElem?_append_left (by rw [HGL.out]; omega)]
                  exact HG.out k (by omega)
              · by_cases e : k = i
                · subst e; exact HY8.out
                · exact HY.out k (by omega)
              · rw [HW1.out]
                have := HI.out
                simp [intOf]
                omega
        · have b1 : decide ((i : Int) < (n : Int)) = false := decide_eq_false (by omega)
          have hin : n = i := by omega
          subst hin
          clear h2 hi HC
          obtain ⟨wq, hwq⟩ : ∃ wq : World, wq = wr := ⟨_, rfl⟩
          subst hwq
          go_wp2_with fail
          go_loopw [3, 10, 11] (fun v3 v10 _ w' => ∃ (i : Nat), v10 = .int .i64 i ∧ i ≤ n ∧ v3 = .int .i64 ((1000000 + off L i : Nat) : Int) ∧ wq = w') (fun _ v10 _ _ => n - (intOf v10).toNat)
          case atStart => exact ⟨0, rfl, Nat.zero_le _, rfl, rfl⟩
          case round =>
            obtain ⟨i, rfl, hi, rfl, rfl⟩ := hrel
            by_cases h2 : i < n
            · have b1 : decide ((i : Int) < (n : Int)) = true := decide_eq_true (by omega)
              have hw1 : wrap64 ((i : Int) + 1) = ((i + 1 : Nat) : Int) := by unfold wrap64; have := HN.out; omega
              have HW1 := Aside0.mk hw1; clear hw1
              have HI := Aside0.mk h2
              have HOF := Aside0.mk (off_lt (L := L) h2)
              obtain ⟨A, c, hV⟩ := HVS.out i h2
              have hrd := HT.out.rd i h2
              obtain ⟨m, hm⟩ : ∃ m, m = L i := ⟨_, rfl⟩
              rw [← hm] at hV HOF
              have HM := Aside0.mk hm
              have e0 : wq.cell? ⟨p, i, none⟩ = some (.slice A m c) := by rw [blk_cell HT.out.pk, HA.out.at_ i h2, hV]
              have HRD : Aside0 (∀ j, j < m → ∃ g, A = some ⟨g, 0, none⟩ ∧ wq.cell? ⟨g, j, none⟩ = some (.int .i64 ((1000000 + off L i + j : Nat) : Int))) := ⟨fun j hj => by
                rcases hrd with h | ⟨g, cap, hv, hcell⟩
                · have h3 := congrArg List.length h
                  unfold Tl at h3
                  rw [numL_len] at h3
                  simp at h3
                  omega
                · rw [hV] at hv
                  injection hv with a1 a2 a3
                  have hjl : j < (Tl L i).length := by unfold Tl; rw [numL_len]; omega
                  exact ⟨g, a1, by rw [hcell j hjl, Tl_get]⟩⟩
              have q0 : (0 ≤ (i : Int)) = True := eq_true (by omega)
              have q1 : ((i : Int) < (n : Int)) = True := eq_true (by omega)
              clear hm hV hrd h2 hi
              go_wp2_with fail
              go_loopw [3, 11] (fun v3 v11 w' => ∃ (j : Nat), v11 = .int .i64 j ∧ j ≤ m ∧ v3 = .int .i64 ((1000000 + off L i + j : Nat) : Int) ∧ wq = w') (fun _ v11 _ => m - (intOf v11).toNat)
              case atStart => exact ⟨0, rfl, Nat.zero_le _, rfl, rfl⟩
              case round =>
                obtain ⟨j, rfl, hj, rfl, rfl⟩ := hrel
                by_cases j2 : j < m
                · have b2 : decide ((j : Int) < (m : Int)) = true := decide_eq_true (by omega)
                  have q2 : (0 ≤ (j : Int)) = True := eq_true (by omega)
                  have q3 : ((j : Int) < (m : Int)) = True := eq_true (by omega)
                  obtain ⟨g, hg, e1⟩ := HRD.out j j2
                  subst hg
                  have hw2 : wrap64 ((j : Int) + 1) = ((j + 1 : Nat) : Int) := by unfold wrap64; have := HOF.out; have := HS.out; omega
                  have hw3 : wrap64 (((1000000 + off L i + j : Nat) : Int) + 1) = ((1000000 + off L i + (j + 1) : Nat) : Int) := by unfold wrap64; have := HOF.out; have := HS.out; omega
                  have HW2 := Aside0.mk hw2; have HW3 := Aside0.mk hw3; have HJ := Aside0.mk j2
                  generalize hN : ((1000000 + off L i + j : Nat) : Int) = N at *
                  clear hw2 hw3 j2 hj hN
                  go_wp2_with fail
                  refine ⟨⟨j + 1, by rw [HW2.out], HJ.out, by rw [HW3.out], by first | rfl | trivial⟩, ?_⟩
                  rw [HW2.out]
                  have := HJ.out
                  simp [intOf]
                  omega
                · have b2 : decide ((j : Int) < (m : Int)) = false := decide_eq_false (by omega)
                  have hjm : m = j := by omega
                  subst hjm
                  have HE : Aside0 (1000000 + off L i + m = 1000000 + off L (i + 1)) := ⟨by rw [HM.out, Nat.add_assoc]; rfl⟩
                  clear j2
                  go_wp2_with fail
                  refine ⟨⟨i + 1, by rw [HW1.out], HI.out, by rw [HE.out], by first | rfl | trivial⟩, ?_⟩
                  rw [HW1.out]
                  have := HI.out
                  simp [intOf]
                  omega
            · have b1 : decide ((i : Int) < (n : Int)) = false := decide_eq_false (by omega)
              have hin : n = i := by omega
              subst hin
              clear h2 hi
              go_wp2_with fail
              go_loopw [3, 12, 13] (fun v3 v12 _ w' => ∃ (i : Nat), v12 = .int .i64 i ∧ i ≤ n ∧ v3 = .int .i64 ((1000000 + off L n + 12 * i : Nat) : Int) ∧ wq = w') (fun _ v12 _ _ => n - (intOf v12).toNat)
              case atStart => exact ⟨0, rfl, Nat.zero_le _, by rw [Nat.mul_zero, Nat.add_zero], rfl⟩
              case round =>
                obtain ⟨i, rfl, hi, rfl, rfl⟩ := hrel
                by_cases h2 : i < n
                · have b1 : decide ((i : Int) < (n : Int)) = true := decide_eq_true (by omega)
                  have hw1 : wrap64 ((i : Int) + 1) = ((i + 1 : Nat) : Int) := by unfold wrap64; have := HN.out; omega
                  have HW1 := Aside0.mk hw1; clear hw1
                  have HI := Aside0.mk h2
                  have HOF := Aside0.mk (off_lt (L := L) h2)
                  obtain ⟨A, c, hV⟩ := HVS.out i h2
                  obtain ⟨m, hm⟩ : ∃ m, m = L i := ⟨_, rfl⟩
                  rw [← hm] at hV HOF
                  have HM := Aside0.mk hm
                  have e0 : wq.cell? ⟨p, i, none⟩ = some (.slice A m c) := by rw [blk_cell HT.out.pk, HA.out.at_ i h2, hV]
                  obtain ⟨gG, cG', hvG, eG, -⟩ := Ow_cell HT.out.rowG i (by rw [HGL.out]; exact h2)
                  injection hvG with a1 a2 a3
                  subst a1
                  have hgi : gs[i]'(by rw [HGL.out]; exact h2) = C i := Option.some.inj ((List.getElem?_eq_getElem (by rw [HGL.out]; exact h2)).symm.trans (HG.out i h2))
                  rw [hgi] at eG
                  have hyi := HY.out i h2
                  have hyl : (Y i).length = m + 12 := by rw [hyi, List.length_append, numL_len, hm]; unfold Tl; rw [numL_len]
                  obtain ⟨g8, c8, h8, -, -⟩ := Ow_cell (HT.out.own i h2) m (by omega)
                  rw [hyl] at h8
                  rw [h8] at eG
                  have HRD : Aside0 (∀ t, t < 12 → wq.cell? ⟨g8, m + t, none⟩ = some (.int .i64 ((1000000 + off L n + 12 * i + t : Nat) : Int))) := ⟨fun t ht => by
                    obtain ⟨g9, c9, h9, e9, _⟩ := Ow_cell (HT.out.own i h2) (m + t) (by omega)
                    rw [h8] at h9
                    injection h9 with a1
                    injection a1 with a1
                    injection a1 with a1
                    subst a1
                    rw [e9]
                    have hl : (Tl L i).length = m := by unfold Tl; rw [numL_len, hm]
                    have : (Y i)[m + t]? = some (.int .i64 ((1000000 + off L n + 12 * i + t : Nat) : Int)) := by
                      rw [hyi, List.getElem?_append_right (by omega), hl, Nat.add_sub_cancel_left, List.getElem?_eq_getElem (by rw [numL_len]; exact ht), numL_get]
                    rw [List.getElem?_eq_getElem (by omega)] at this
                    exact this⟩
                  have q0 : (0 ≤ (i : Int)) = True := eq_true (by omega)
                  have q1 : ((i : Int) < (n : Int)) = True := eq_true (by omega)
                  obtain ⟨m12, hm12⟩ : ∃ m12, m12 = m + 12 := ⟨_, rfl⟩
                  rw [← hm12] at eG
                  have HM12 := Aside0.mk hm12
                  clear hm hV h2 hi hgi hyi hyl h8 a2 a3 hm12
                  go_wp2_with fail
                  go_loopw [3, 13] (fun v3 v13 w' => ∃ (t q : Nat), Aside0 (q = m + t) ∧ v13 = .int .i64 q ∧ t ≤ 12 ∧ v3 = .int .i64 ((1000000 + off L n + 12 * i + t : Nat) : Int) ∧ wq = w') (fun _ v13 _ => m + 12 - (intOf v13).toNat)
                  case atStart => exact ⟨0, m, ⟨rfl⟩, rfl, Nat.zero_le _, rfl, rfl⟩
                  case round =>
                    obtain ⟨t, q, HQ, rfl, ht, rfl, rfl⟩ := hrel
                    have hq := HQ.out
                    have hm12 := HM12.out
                    by_cases t2 : t < 12
                    · have b2 : decide ((q : Int) < (m12 : Int)) = true := decide_eq_true (by omega)
                      have q2 : (0 ≤ (q : Int)) = True := eq_true (by omega)
                      have q3 : ((q : Int) < (m12 : Int)) = True := eq_true (by omega)
                      have e1 := HRD.out t t2
                      rw [← hq] at e1
                      have hw2 : wrap64 ((q : Int) + 1) = ((q + 1 : Nat) : Int) := by unfold wrap64; have := HOF.out; have := HS.out; omega
                      have hw3 : wrap64 (((1000000 + off L n + 12 * i + t : Nat) : Int) + 1) = ((1000000 + off L n + 12 * i + (t + 1) : Nat) : Int) := by unfold wrap64; have := HI.out; have := HS.out; omega
                      have HW2 := Aside0.mk hw2; have HW3 := Aside0.mk hw3; have HTT := Aside0.mk t2
                      generalize hN : ((1000000 + off L n + 12 * i + t : Nat) : Int) = N at *
                      clear hw2 hw3 t2 ht hN hq hm12
                      go_wp2_with fail
                      refine ⟨⟨t + 1, q + 1, ⟨by rw [HQ.out, Nat.add_assoc]⟩, by rw [HW2.out], HTT.out, by rw [HW3.out], by first | rfl | trivial⟩, ?_⟩
                      rw [HW2.out]
                      have := HTT.out
                      have := HQ.out
                      simp [intOf]
                      omega
                    · have b2 : decide ((q : Int) < (m12 : Int)) = false := decide_eq_false (by omega)
                      have ht12 : t = 12 := by omega
                      subst ht12
                      have hqm : m12 = q := by omega
                      clear t2 hq hm12
                      subst hqm
                      go_wp2_with fail
                      refine ⟨⟨i + 1, by rw [HW1.out], HI.out, by first | (congr 1; done) | (congr 1; omega), by first | rfl | trivial⟩, ?_⟩
                      rw [HW1.out]
                      have := HI.out
                      simp [intOf]
                      omega
                · have b1 : decide ((i : Int) < (n : Int)) = false := decide_eq_false (by omega)
                  have HB := Aside0.mk HT.out.below
                  have hin : n = i := by omega
                  subst hin
                  clear h2 hi
                  go_wp2_with fail
                  go_ret
                  exact ⟨rfl, HB.out⟩
end Go.Proofs.YtbbembhfnapadaaDoor
