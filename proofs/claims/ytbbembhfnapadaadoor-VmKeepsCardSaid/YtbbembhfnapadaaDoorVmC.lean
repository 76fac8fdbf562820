/- The walks of code.to and of what it calls. -/
import Derived.Test.YtbbembhfnapadaaDoorVmB
namespace Go.Proofs.YtbbembhfnapadaaDoor
open Go.RowKit Go.Proofs.YtbbembhfnapadaaDoorW.PrintWords Go.Proofs.YtbbembhfnapadaaDoorW.PrintLast Go.Proofs.YtbbembhfnapadaaDoorW.PrintMore PVmPlays
set_option linter.unusedVariables false
set_option linter.unusedSimpArgs false

def ybAt (ys : List Bool) (r : Int) : Bool := ys.getD r.toNat false
/-- Is a register none, or not written yet? -/
def badR (ys : List Bool) (r : Int) : Bool := if r < 0 then true else if (ys.length : Int) ≤ r then true else !ybAt ys r
theorem bool_at {w : World} {A : Option Addr} {n : Nat} {ys : List Bool} (h : Kd.bool.C w A n ys) (i : Int) (h0 : 0 ≤ i) (h1 : i < n) : ∃ ad, A = some ad ∧ w.cell? (ad.add i.toNat) = some (.bool (ybAt ys i)) := by
  obtain ⟨ad, cc, eA, _, hK, hcell⟩ := Kd.C_get h false i h0 h1
  obtain rfl := (show cc = [Value.bool (ys.getD i.toNat false)] from hK)
  have h2 := hcell 0 _ rfl
  rw [show i.toNat * Kd.bool.sz + 0 = i.toNat from Nat.mul_one _] at h2
  exact ⟨ad, eA, h2⟩
theorem int_at {k : IntKind} {w : World} {A : Option Addr} {n : Nat} {xs : List Int} (h : (Kd.int k).C w A n xs) (i : Int) (h0 : 0 ≤ i) (h1 : i < n) : ∃ ad, A = some ad ∧ w.cell? (ad.add i.toNat) = some (.int k (rd xs i)) := by
  obtain ⟨ad, cc, eA, _, hK, hcell⟩ := Kd.C_get h 0 i h0 h1
  obtain rfl := (show cc = [Value.int k (xs.getD i.toNat 0)] from hK)
  have h2 := hcell 0 _ rfl
  rw [show i.toNat * (Kd.int k).sz + 0 = i.toNat from Nat.mul_one _] at h2
  exact ⟨ad, eA, h2⟩

theorem to1_calls (ys : List Bool) (A : Option Addr) (c g : Nat) (r : Int) (w : World) (hC : Kd.bool.C w A ys.length ys) (hbox : w.cell? ⟨g, 0, none⟩ = some (.slice A ys.length c)) :
    Calls Tryd.prog 96 #[.int .i64 r, .pointer (some ⟨g, 0, none⟩)] w fun e w' => e = .returned (.bool (badR ys r)) ∧ w = w' := by
  by_cases h0 : r < 0
  · have b0 : decide (r < 0) = true := decide_eq_true h0
    have e1 : badR ys r = true := by unfold badR; rw [if_pos h0]
    have E1 := Lib.hid e1; clear e1
    have H0 := Lib.hid h0; clear h0
    go_enter Tryd.func96, Tryd.ntmps96
    go_wp2_with fail
    go_ret
    exact ⟨by rw [E1.out]; rfl, rfl⟩
  have b0 : decide (r < 0) = false := decide_eq_false h0
  by_cases h1 : (ys.length : Int) ≤ r
  · have b1 : decide ((ys.length : Int) ≤ r) = true := decide_eq_true h1
    have e1 : badR ys r = true := by unfold badR; rw [if_neg h0, if_pos h1]
    have E1 := Lib.hid e1; clear e1
    have H0 := Lib.hid h0; clear h0
    have H1 := Lib.hid h1; clear h1
    go_enter Tryd.func96, Tryd.ntmps96
    go_wp2_with fail
    go_ret
    exact ⟨by rw [E1.out]; rfl, rfl⟩
  have b1 : decide ((ys.length : Int) ≤ r) = false := decide_eq_false h1
  obtain ⟨ad, eA, hc⟩ := bool_at hC r (by omega) (by omega)
  cases eA
  have e1 : badR ys r = !ybAt ys r := by unfold badR; rw [if_neg h0, if_neg h1]
  have E1 := Lib.hid e1; clear e1
  have p0 : (0 ≤ r) = True := eq_true (by omega)
  have p1 : (r < (ys.length : Int)) = True := eq_true (by omega)
  have H0 := Lib.hid h0; clear h0
  have H1 := Lib.hid h1; clear h1
  generalize ybAt ys r = bb at *
  rcases Bool.eq_false_or_eq_true bb with rfl | rfl
  · go_enter Tryd.func96, Tryd.ntmps96
    go_wp2_with fail
    go_ret
    exact ⟨by rw [E1.out]; rfl, rfl⟩
  · go_enter Tryd.func96, Tryd.ntmps96
    go_wp2_with fail
    go_ret
    exact ⟨by rw [E1.out]; rfl, rfl⟩

/-- The first place from i on whose register is bad; -1: none. -/
def firstR (ys : List Bool) : List Int → Nat → Int
  | [], _ => -1
  | r :: rs, i => if badR ys r = true then (i : Int) else firstR ys rs (i + 1)
theorem firstR_any (ys : List Bool) : ∀ (rs : List Int) (i : Nat), decide (0 ≤ firstR ys rs i) = rs.any (badR ys)
  | [], _ => by simp [firstR]
  | r :: rs, i => by
    unfold firstR
    rw [List.any_cons]
    by_cases h : badR ys r = true
    · rw [if_pos h, h]; simp
    · rw [if_neg h, firstR_any ys rs (i + 1)]
      simp only [Bool.not_eq_true] at h
      rw [h]; rfl
theorem firstR_at (ys : List Bool) (xs : List Int) (i : Nat) (h : i < xs.length) : firstR ys (xs.drop i) i = if badR ys (rd xs i) = true then (i : Int) else firstR ys (xs.drop (i + 1)) (i + 1) := by
  rw [List.drop_eq_getElem_cons h]
  have : rd xs i = xs[i] := by unfold rd; rw [Int.toNat_natCast, List.getD_eq_getElem?_getD, List.getElem?_eq_getElem h]; rfl
  rw [this]
  rfl
set_option maxHeartbeats 400000 in
theorem ifun_calls (ys : List Bool) (A : Option Addr) (c g : Nat) (xs : List Int) (B : Option Addr) (d : Nat) (w : World) (hC : Kd.bool.C w A ys.length ys) (hbox : w.cell? ⟨g, 0, none⟩ = some (.slice A ys.length c)) (hX : (Kd.int .i64).C w B xs.length xs) (hd : xs.length ≤ 140737488351232) :
    Calls Tryd.prog 127 #[.slice B xs.length d, .func (.func 96) #[] #[.pointer (some ⟨g, 0, none⟩)]] w fun e w' => e = .returned (.int .i64 (firstR ys xs 0)) ∧ w = w' := by
  have HC := Lib.hid hC; clear hC
  have HX := Lib.hid hX; clear hX
  have HB := Lib.hid hbox; clear hbox
  go_enter Tryd.func127, Tryd.ntmps127
  go_wp2_with fail
  go_loopw [5, 8] (fun _ v8 w' => ∃ i : Nat, v8 = .int .i64 i ∧ i ≤ xs.length ∧ Hid (firstR ys (xs.drop i) i = firstR ys xs 0) ∧ w = w') (fun _ v8 _ => xs.length - (intOf v8).toNat)
  case atStart => exact ⟨0, rfl, by omega, Lib.hid rfl, rfl⟩
  case round =>
    obtain ⟨i, rfl, hi, H, rfl⟩ := hrel
    by_cases h1 : i < xs.length
    · obtain ⟨ad, eA, hc⟩ := int_at HX.out (i : Int) (by omega) (by omega)
      cases eA
      have hst := Lib.hid (firstR_at ys xs i h1)
      have p0 : (0 ≤ (i : Int)) = True := eq_true (by omega)
      have p1 : ((i : Int) < (xs.length : Int)) = True := eq_true (by omega)
      have b1 : decide ((i : Int) < (xs.length : Int)) = true := decide_eq_true (by omega)
      rw [Int.toNat_natCast] at hc
      go_wp2_with fail
      refine (to1_calls ys A c g (rd xs i) w HC.out HB.out).mono ?_
      rintro e w' ⟨rfl, rfl⟩
      rcases Bool.eq_false_or_eq_true (badR ys (rd xs i)) with hb | hb
      · have e1 : firstR ys (xs.drop i) i = i := by rw [hst.out, if_pos hb]
        rw [hb]
        have Hb := Lib.hid hb; clear hb
        have E1 := Lib.hid e1; clear e1
        go_wp2_with fail
        go_ret
        exact ⟨by rw [← H.out, E1.out]; rfl, rfl⟩
      · have e1 : firstR ys (xs.drop i) i = firstR ys (xs.drop (i + 1)) (i + 1) := by rw [hst.out, if_neg (by rw [hb]; exact Bool.false_ne_true)]
        rw [hb]
        have Hb := Lib.hid hb; clear hb
        have E1 := Lib.hid e1; clear e1
        go_wp2_with fail
        exact ⟨⟨i + 1, by go_num, by omega, Lib.hid (by rw [← E1.out]; exact H.out), by first | trivial | rfl⟩, by simp [intOf]; omega⟩
    · have b1 : decide ((i : Int) < (xs.length : Int)) = false := decide_eq_false (by omega)
      have e1 : firstR ys xs 0 = -1 := by rw [← H.out, List.drop_of_length_le (by omega)]; rfl
      have E1 := Lib.hid e1; clear e1
      go_wp2_with fail
      go_ret
      exact ⟨by rw [E1.out]; rfl, rfl⟩
theorem cfun_calls (ys : List Bool) (A : Option Addr) (c g : Nat) (xs : List Int) (B : Option Addr) (d : Nat) (w : World) (hC : Kd.bool.C w A ys.length ys) (hbox : w.cell? ⟨g, 0, none⟩ = some (.slice A ys.length c)) (hX : (Kd.int .i64).C w B xs.length xs) (hd : xs.length ≤ 140737488351232) :
    Calls Tryd.prog 95 #[.slice B xs.length d, .func (.func 96) #[] #[.pointer (some ⟨g, 0, none⟩)]] w fun e w' => e = .returned (.bool (xs.any (badR ys))) ∧ w = w' := by
  have e1 := firstR_any ys xs 0
  have E1 := Lib.hid e1; clear e1
  have HC := Lib.hid hC; clear hC
  have HX := Lib.hid hX; clear hX
  have HB := Lib.hid hbox; clear hbox
  go_enter Tryd.func95, Tryd.ntmps95
  go_wp2_with fail
  refine (ifun_calls ys A c g xs B d w HC.out HB.out HX.out hd).mono ?_
  rintro e w' ⟨rfl, rfl⟩
  go_wp2_with fail
  go_ret
  exact ⟨by rw [← E1.out]; rfl, rfl⟩

/-- How many parts an operator has, and the error's number. -/
def arK (op : Int) : Int := if op = 1 ∨ op = 2 then 0 else if op = 3 ∨ op = 4 then 1 else if op = 17 then 3 else if 5 ≤ op ∧ op ≤ 16 then 2 else 0
def arE (op : Int) : Int := if 1 ≤ op ∧ op ≤ 17 then 0 else 2
theorem arity_some (op : Int) (k : Nat) : expr_Arity.f (k + 3) op = some (arK op, arE op) := by
  unfold expr_Arity.f arK arE
  by_cases h1 : op = 1
  · subst h1; simp [expr_Arity.j0]
  by_cases h2 : op = 2
  · subst h2; simp [expr_Arity.j0]
  by_cases h3 : op = 3
  · subst h3; simp [expr_Arity.j0, expr_Arity.j1]
  by_cases h4 : op = 4
  · subst h4; simp [expr_Arity.j0, expr_Arity.j1]
  by_cases h17 : op = 17
  · subst h17; simp [expr_Arity.j0, expr_Arity.j1]
  have g2 : (op == 2) = false := by simp [h2]
  have g4 : (op == 4) = false := by simp [h4]
  rw [if_neg h1, g2]
  simp only [expr_Arity.j0, expr_Arity.j1]
  rw [if_neg (by simp), if_neg h3, g4, if_neg (by simp), if_neg h17]
  by_cases h5 : 5 ≤ op
  · by_cases h16 : op ≤ 16
    · rw [if_pos h5, if_pos h16, if_neg (by omega), if_neg (by omega), if_neg (by omega), if_pos ⟨h5, h16⟩, if_pos (by omega)]
    · rw [if_pos h5, if_neg h16, if_neg (by omega), if_neg (by omega), if_neg (by omega), if_neg (by omega), if_neg (by omega)]
  · rw [if_neg h5, if_neg (by omega), if_neg (by omega), if_neg (by omega), if_neg (by omega), if_neg (by omega)]
theorem arity_calls (op : Int) (w : World) :
    Calls Tryd.prog 94 #[.int .i64 op] w fun e w' => e = .returned (.tuple #[.int .i64 (arK op), .int .i64 (arE op)]) ∧ Drawn0 w w' := expr_Arity.calls 3 op _ _ w (arity_some op 0)
end Go.Proofs.YtbbembhfnapadaaDoor
