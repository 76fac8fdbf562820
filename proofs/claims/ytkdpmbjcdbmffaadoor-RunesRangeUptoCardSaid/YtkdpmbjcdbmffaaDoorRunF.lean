/- The walks of Check and of the statement RunesOrder. -/
import Derived.Test.YtkdpmbjcdbmffaaDoorRunD
import Derived.Test.YtkdpmbjcdbmffaaDoorPlE
import Derived.WalkLawsBesides
import Derived.Deep.DeepCutAuto
namespace Go.Proofs.YtkdpmbjcdbmffaaDoor
open Go.RowKit Pl

/-- what Check answers -/
def chkV : Option Nat → Value
  | some p => .tuple #[.int .i64 p, .int .i64 4]
  | none => .tuple #[.int .i64 0, .int .i64 0]

set_option maxHeartbeats 2000000 in
theorem check_calls (s : ByteArray) (hs : s.size ≤ maxLen) (w : World) :
    Calls Tryd.prog 17 #[.string s] w fun e w' => e = .returned (chkV (firstBad s 0)) ∧ Below w.heap.size w w' := by
  have hs' := hs
  unfold maxLen at hs'
  go_enter Tryd.func17, Tryd.ntmps17
  go_wp2
  go_loopw [4, 5] (fun _ _ w' => ∃ p : Nat, p ≤ s.size ∧ w' = w.iter s p ∧ firstBad s p = firstBad s 0) (fun _ _ w' => s.size - w'.iterPos w.heap.size)
  case atStart => exact ⟨0, by omega, rfl, rfl⟩
  case round =>
    obtain ⟨p, hp, rfl, hc⟩ := hrel
    have Hc := Lib.hid hc; clear hc
    by_cases hlt : p < s.size
    · have hnx : ∀ ty, (Instr.next (.pointer (some ⟨w.heap.size, 0, none⟩)) true ty).run Tryd.prog (w.iter s p) = _ := fun ty => run_next_any w s p ty hlt
      have hd := decode_int s p
      have hwp := wd_pos s p
      have hwl := wd_le s p hlt
      go_wp2_with fail
      refine (bad_calls s p hs hlt _).mono ?_
      rintro e w' ⟨rfl, rfl⟩
      rcases Bool.eq_false_or_eq_true (badB s p) with hb | hb
      · rw [hb]
        have Hb := Lib.hid hb; clear hb
        go_wp2_with fail
        go_ret2
        exact ⟨by rw [← Hc.out, firstBad_step hlt, if_pos Hb.out]; rfl, (Below.refl _ _).alloc (Nat.le_refl _) _⟩
      · rw [hb]
        have Hb := Lib.hid hb; clear hb
        go_wp2_with fail
        refine ⟨⟨_, hwl, rfl, ?_⟩, by simp; omega⟩
        rw [← Hc.out, firstBad_step hlt, Hb.out]
        rfl
    · have hnx : ∀ ty, (Instr.next (.pointer (some ⟨w.heap.size, 0, none⟩)) true ty).run Tryd.prog (w.iter s p) = _ := fun ty => run_next_end w s p ty hlt
      go_wp2_with fail
      go_ret2
      exact ⟨by rw [← Hc.out, firstBad_end hlt]; rfl, (Below.refl _ _).alloc (Nat.le_refl _) _⟩

/-- the runes of what is put together behind an x -/
theorem runes_x (a b : ByteArray) : runes (a ++ ⟨#[120]⟩ ++ b) 0 = runes a 0 ++ (120 :: runes b 0) := by
  have e : a ++ ⟨#[120]⟩ ++ b = a ++ (⟨#[120]⟩ ++ b) := by rw [ByteArray.append_assoc]
  have hx : firstBad ⟨#[120]⟩ 0 = none := by kernel_rfl
  have hx2 : runes ⟨#[120]⟩ 0 = [120] := by kernel_rfl
  rw [e, runes_cut a _ (by rw [cat_size]; show 0 < 1 + b.size; omega) (by rw [cat_data]; show (120 : UInt8).toNat / 64 ≠ 2; decide) _ 0 (by omega) (Nat.le_refl _), runes_cat _ b _ 0 (by omega) (Nat.le_refl _) hx, hx2]
  rfl
theorem runes_x0 (a : ByteArray) : runes (a ++ ⟨#[120]⟩) 0 = runes a 0 ++ [120] := by
  have hx2 : runes ⟨#[120]⟩ 0 = [120] := by kernel_rfl
  rw [runes_cut a _ (by decide) (by decide) _ 0 (by omega) (Nat.le_refl _), hx2]
/-- behind more comes what has more -/
theorem order_x (a b : ByteArray) (hb : 0 < b.size) : cmpL (runes (a ++ ⟨#[120]⟩ ++ b) 0) (runes (a ++ ⟨#[120]⟩) 0) = 1 := by
  obtain ⟨r, l, h⟩ := runes_cons hb
  rw [runes_x, runes_x0, h, show runes a 0 ++ (120 :: r :: l) = (runes a 0 ++ [120]) ++ r :: l by simp]
  exact cmpL_longer _ _ _
theorem order_head (a b : ByteArray) (ha : firstBad a 0 = none) : cmpL (runes a 0) (runes (a ++ b) 0) ≤ 0 := by
  rw [runes_cat a b _ 0 (by omega) (Nat.le_refl _) ha]
  exact cmpL_prefix _ _

set_option maxRecDepth 100000 in
set_option maxHeartbeats 4000000 in
theorem RunesOrder_walk (a b c : ByteArray) (ha : a.size ≤ 1048576) (hb : b.size ≤ 1048576) (hc : c.size ≤ 1048576) (w : World) (hT : Tabs w) :
    Calls Tryd.prog 5 #[.string a, .string b, .string c] w fun e w' => e = .returned (.bool true) ∧ Below w.heap.size w w' := by
  have ham : a.size ≤ maxLen := by unfold maxLen; omega
  have hbm : b.size ≤ maxLen := by unfold maxLen; omega
  have hsab : (a ++ b).size = a.size + b.size := cat_size a b
  go_enter Tryd.func5, Tryd.ntmps5
  go_wp2_with fail
  refine (awake_calls w hT).mono ?_
  rintro e w1 ⟨rfl, hB1⟩
  go_wp2_with fail
  refine (order_calls a a (by omega) (by omega) w1).mono ?_
  rintro e w2 ⟨rfl, hb2⟩
  have hB2 : Below w.heap.size w w2 := hB1.trans (hb2.mono hB1.size)
  clear hb2
  rw [cmpL_refl]
  go_wp2_with fail
  refine (order_calls a b (by omega) (by omega) w2).mono ?_
  rintro e w3 ⟨rfl, hb3⟩
  have hB3 : Below w.heap.size w w3 := hB2.trans (hb3.mono hB2.size)
  clear hb3
  have hbd := cmpL_bd (runes a 0) (runes b 0)
  have hba := cmpL_anti (runes b 0) (runes a 0)
  generalize hab : cmpL (runes a 0) (runes b 0) = o at *
  have Hab := Lib.hid hab; clear hab
  have Hba := Lib.hid hba; clear hba
  go_wp2_with fail
  refine (order_calls b a (by omega) (by omega) w3).mono ?_
  rintro e w4 ⟨rfl, hb4⟩
  have hB4 : Below w.heap.size w w4 := hB3.trans (hb4.mono hB3.size)
  clear hb4
  rw [Hba.out]
  have n1 : (o == - -o) = true := by simp
  have n2 : (o != - -o) = false := by simp
  have n3 : - -o = o := by omega
  go_upto_region 3 with (fail)
  clear n1 n2 n3 hB1 hB2 hB3
  go_cut [45] (fun s wx => s = .bool false ∧ Below w.heap.size w wx)
  case first =>
    go_wp2_with fail
    refine (order_calls a b (by omega) (by omega) w4).mono ?_
    rintro e w5 ⟨rfl, hb5⟩
    have hB5 : Below w.heap.size w w5 := hB4.trans (hb5.mono hB4.size)
    clear hb5
    rw [Hab.out]
    by_cases o1 : o ≤ 0
    · go_wp2_with fail
      refine (order_calls b c (by omega) (by omega) w5).mono ?_
      rintro e w6 ⟨rfl, hb6⟩
      have hB6 : Below w.heap.size w w6 := hB5.trans (hb6.mono hB5.size)
      clear hb6
      have htr := cmpL_trans (runes a 0) (runes b 0) (runes c 0) (by rw [Hab.out]; exact o1)
      generalize cmpL (runes b 0) (runes c 0) = o2 at *
      have Htr := Lib.hid htr; clear htr
      by_cases o3 : o2 ≤ 0
      · have h4 := Htr.out o3
        go_wp2_with fail
        refine (order_calls a c (by omega) (by omega) w6).mono ?_
        rintro e W ⟨rfl, hbW⟩
        have hB : Below w.heap.size w W := hB6.trans (hbW.mono hB6.size)
        clear hbW
        generalize cmpL (runes a 0) (runes c 0) = o4 at *
        go_wp2_with fail
        go_meet
        case rel => exact ⟨by simp; omega, hB⟩
      · go_wp2_with fail
        go_meet
        case rel => exact ⟨rfl, hB6⟩
    · go_wp2_with fail
      go_meet
      case rel => exact ⟨rfl, hB5⟩
  case rest =>
    obtain ⟨rfl, hB⟩ := hcut
    clear hB4
    go_wp2_with fail
    refine (check_calls a ham wc).mono ?_
    rintro e W1 ⟨rfl, hb1⟩
    have hB1 : Below w.heap.size w W1 := hB.trans (hb1.mono hB.size)
    clear hb1 hB
    have hxx : 0 < b.size → cmpL (runes (a ++ ⟨#[120]⟩ ++ b) 0) (runes (a ++ ⟨#[120]⟩) 0) = 1 := order_x a b
    have hx1 : (a ++ ⟨#[120]⟩ ++ b).size ≤ 70368744177664 := by rw [cat_size, cat_size]; show a.size + 1 + b.size ≤ _; omega
    have hx2 : (a ++ ⟨#[120]⟩).size ≤ 70368744177664 := by rw [cat_size]; show a.size + 1 ≤ _; omega
    have Hxx := Lib.hid hxx; clear hxx
    have Hx1 := Lib.hid hx1; clear hx1
    have Hx2 := Lib.hid hx2; clear hx2
    cases hfa : firstBad a 0 with
    | some q =>
      have Hfa := Lib.hid hfa; clear hfa
      simp only [chkV]
      go_upto_region 6 with (fail)
      go_cut [75] (fun s wx => s = .bool false ∧ Below w.heap.size w wx)
      case first =>
        by_cases hb0 : 0 < b.size
        · go_wp2_with fail
          refine (order_calls _ _ Hx1.out Hx2.out W1).mono ?_
          rintro e W2 ⟨rfl, hb2⟩
          rw [Hxx.out hb0]
          go_wp2_with fail
          go_meet
          case rel => exact ⟨rfl, hB1.trans (hb2.mono hB1.size)⟩
        · go_wp2_with fail
          go_meet
          case rel => exact ⟨rfl, hB1⟩
      case rest =>
        obtain ⟨rfl, hB⟩ := hcut
        rename World => W3
        go_wp2_with fail
        refine (check_calls b hbm _).mono ?_
        rintro e W4 ⟨rfl, hb4⟩
        have hB4 : Below w.heap.size w W4 := hB.trans (hb4.mono hB.size)
        cases hfb : firstBad b 0 with
        | some q2 =>
          simp only [chkV]
          go_wp2_with fail
          go_ret
          exact ⟨rfl, hB4⟩
        | none =>
          simp only [chkV]
          go_wp2_with fail
          go_ret
          exact ⟨rfl, hB4⟩
    | none =>
      have Hfa := Lib.hid hfa
      have hh := order_head a b hfa
      clear hfa
      simp only [chkV]
      generalize hoo : cmpL (runes a 0) (runes (a ++ b) 0) = oo at *
      have Hoo := Lib.hid hoo; clear hoo
      go_upto_region 6 with (fail)
      go_cut [75] (fun s wx => s = .bool false ∧ Below w.heap.size w wx)
      case first =>
        by_cases hb0 : 0 < b.size
        · go_wp2_with fail
          refine (order_calls a (a ++ b) (by omega) (by omega) W1).mono ?_
          rintro e W2 ⟨rfl, hb2⟩
          have hB2 : Below w.heap.size w W2 := hB1.trans (hb2.mono hB1.size)
          rw [Hoo.out]
          go_wp2_with fail
          refine (order_calls _ _ Hx1.out Hx2.out W2).mono ?_
          rintro e W3 ⟨rfl, hb3⟩
          rw [Hxx.out hb0]
          go_wp2_with fail
          go_meet
          case rel => exact ⟨by simp; try omega, hB2.trans (hb3.mono hB2.size)⟩
        · go_wp2_with fail
          refine (order_calls a (a ++ b) (by omega) (by omega) W1).mono ?_
          rintro e W2 ⟨rfl, hb2⟩
          have hB2 : Below w.heap.size w W2 := hB1.trans (hb2.mono hB1.size)
          rw [Hoo.out]
          go_wp2_with fail
          go_meet
          case rel => exact ⟨by simp; try omega, hB2⟩
      case rest =>
        obtain ⟨rfl, hB⟩ := hcut
        clear hB1 hh
        go_wp2_with fail
        refine (check_calls b hbm _).mono ?_
        rintro e W4 ⟨rfl, hb4⟩
        have hB4 : Below w.heap.size w W4 := hB.trans (hb4.mono hB.size)
        clear hb4 hB
        cases hfb : firstBad b 0 with
        | some q2 =>
          simp only [chkV]
          go_wp2_with fail
          go_ret
          exact ⟨rfl, hB4⟩
        | none =>
          have hob := order_bytes a b Hfa.out hfb
          clear hfb
          simp only [chkV]
          rcases hob with ⟨ho, hl, he⟩ | ⟨ho, hl, he⟩ | ⟨ho, hl, he⟩
          all_goals
            have Ho := Lib.hid ho
            clear ho
            go_wp2_with fail
            refine (order_calls a b (by omega) (by omega) W4).mono ?_
            rintro e W5 ⟨rfl, hb5⟩
            rw [Ho.out]
            go_wp2_with fail
            go_ret
            exact ⟨rfl, hB4.trans (hb5.mono hB4.size)⟩
end Go.Proofs.YtkdpmbjcdbmffaaDoor
