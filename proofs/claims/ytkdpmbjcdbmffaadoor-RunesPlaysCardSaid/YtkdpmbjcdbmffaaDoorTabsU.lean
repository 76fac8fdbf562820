/- From the list of tables in a row to what the walks ask of the tables of unicode/utf8. -/
import Derived.Test.YtkdpmbjcdbmffaaDoorTabs
import Derived.Test.YtkdpmbjcdbmffaaDoorShelf
import Derived.Lib.LaidU8T
namespace Go.Proofs.YtkdpmbjcdbmffaaDoor
open Go.RowKit Pl

theorem first_eq : Rows.laid_unicode_utf8_first = Lib.firstData := by kernel_rfl
theorem accept_eq : Rows.laid_unicode_utf8_acceptRanges = Lib.acceptData := by kernel_rfl
theorem utf8_of_laid {W : World} {laid : List (String × DataW Unit)} (h : laidMet Tryd.prog laid W) (mf : ("unicode/utf8.first", Rows.laid_unicode_utf8_first) ∈ laid) (ma : ("unicode/utf8.acceptRanges", Rows.laid_unicode_utf8_acceptRanges) ∈ laid) :
    Lib.Utf8Tabs 2 3 W :=
  utf8Tabs_of_readsT (ρ := Go.Proofs.Tryd.lays197_ren) { Go.Proofs.Tryd.lays197 with } ⟨by kernel_rfl, by kernel_rfl, by kernel_rfl, by kernel_rfl, by kernel_rfl, by kernel_rfl, by kernel_rfl⟩
    (first_eq ▸ Lib.laidMet.reads h mf) (accept_eq ▸ Lib.laidMet.reads h ma)
/-- the cells of the two tables, for a witness -/
def firstC : Array Value := ((List.range 256).map fun c => Value.int .u8 (Lib.firstT c)).toArray
def acceptC : Array Value := ((List.range 16).flatMap fun i => [Value.int .u8 (Lib.accLo i), Value.int .u8 (Lib.accHi i)]).toArray
end Go.Proofs.YtkdpmbjcdbmffaaDoor
