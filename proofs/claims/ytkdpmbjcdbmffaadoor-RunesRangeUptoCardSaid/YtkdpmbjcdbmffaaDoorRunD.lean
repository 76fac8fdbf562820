/- The walks of the statements on kinds: what a program that does nothing does not answer, and the kind of every rune. -/
import Derived.Test.YtkdpmbjcdbmffaaDoorRunC
namespace Go.Proofs.YtkdpmbjcdbmffaaDoor
open Go.RowKit Pl

theorem aw1 : kindI 97 = 1 := by decide
theorem aw2 : nameL (runes ⟨#[195, 169]⟩ 0) = true := by kernel_rfl
theorem aw3 : cmpL (runes ⟨#[98]⟩ 0) (runes ⟨#[97]⟩ 0) = 1 := by kernel_rfl

set_option maxHeartbeats 1000000 in
theorem awake_calls (w : World) (hT : Tabs w) :
    Calls Tryd.prog 10 #[] w fun e w' => e = .returned (.bool true) ∧ Below w.heap.size w w' := by
  go_enter Tryd.func10, Tryd.ntmps10
  go_wp2_with fail
  refine (kind_calls 97 (by omega) (by omega) w hT).mono ?_
  rintro e w1 ⟨rfl, hb1⟩
  rw [aw1]
  go_wp2_with fail
  refine (name_calls _ (by decide) w1 (hT.below hb1)).mono ?_
  rintro e w2 ⟨rfl, hb2⟩
  rw [aw2]
  go_wp2_with fail
  refine (order_calls _ _ (by decide) (by decide) w2).mono ?_
  rintro e w3 ⟨rfl, hb3⟩
  rw [aw3]
  go_wp2_with fail
  go_ret
  have hB : Below w.heap.size w w2 := hb1.trans (hb2.mono hb1.size)
  exact ⟨rfl, hB.trans (hb3.mono hB.size)⟩

set_option maxHeartbeats 1000000 in
theorem RunesKinds_walk (r : Int) (h0 : -2147483648 ≤ r) (h1 : r ≤ 2147483647) (w : World) (hT : Tabs w) :
    Calls Tryd.prog 3 #[.int .i32 r] w fun e w' => e = .returned (.bool true) ∧ Below w.heap.size w w' := by
  go_enter Tryd.func3, Tryd.ntmps3
  go_wp2_with fail
  refine (awake_calls w hT).mono ?_
  rintro e w1 ⟨rfl, hb1⟩
  have hT1 := hT.below hb1
  go_wp2_with fail
  refine (kind_calls r h0 h1 w1 hT1).mono ?_
  rintro e w2 ⟨rfl, hb2⟩
  have hB : Below w.heap.size w w2 := hb1.trans (hb2.mono hb1.size)
  go_wp2_with fail
  refine (refkind_calls r h0 h1 w2).mono ?_
  rintro e w3 ⟨rfl, hb3⟩
  go_wp2_with fail
  go_ret
  exact ⟨by simp, hB.trans (hb3.mono hB.size)⟩
end Go.Proofs.YtkdpmbjcdbmffaaDoor
