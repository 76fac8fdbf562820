/-
  DERIVED. GIVEN WITH THE SEED: THE CARDS: each row of YtkdpmbjcdbmffaaDoorRows.lean that lists a variable, with what it lists TIED to the program's text (the seventh form; the later family's looks); each row that meets fmt, with fmt's text TOLD by the authors' own Lean function (tested against real Go, not proved from fmt's source: count such statements apart). THE CARD IS WHAT COUNTS. Prove the row's statement (the work); the ties are given (YtkdpmbjcdbmffaaDoorTie.lean); close each card by the builder's one call (the guide's Derived/Test/ToyasCard.lean, 'card_holds'). Laid BY PROGRAM, IN A SANDBOX (cutbox-door.mjs). By AI agents, Wed Nov 11 2026. No macro, syntax, notation, axiom, sorry.
-/
import Derived.Test.YtkdpmbjcdbmffaaDoorRows
import GoSem.ClaimSeven
namespace Go.Proofs.YtkdpmbjcdbmffaaDoor
namespace Rows

/-- THE TIED CARD OF 'sorrellaw01.RunesKinds'. -/
def runesKindsCard : Claim7 := { stood := { row := runesKindsRow, standIns := [], harness := (true, "e49a1b4d0ee928a03b8a90a79dd8500189ea19df50be06409ea163134e832683"), looks := false }, kinds := [], alts := [], laidByText := true, laidKinds := [.data, .data], laidTests := true, laidLooks := .later }
def RunesKindsCardSaid : Prop := Claim7.holds Tryd.pinned (.plain (OpenSpec.ofChange runesKindsSpec)) runesKindsCard

/-- THE TIED CARD OF 'sorrellaw01.RunesNames'. -/
def runesNamesCard : Claim7 := { stood := { row := runesNamesRow, standIns := [], harness := (true, "e49a1b4d0ee928a03b8a90a79dd8500189ea19df50be06409ea163134e832683"), looks := false }, kinds := [], alts := [], laidByText := true, laidKinds := [.data, .data], laidTests := true, laidLooks := .later }
def RunesNamesCardSaid : Prop := Claim7.holds Tryd.pinned (.plain (OpenSpec.ofChange runesNamesSpec)) runesNamesCard

/-- THE TIED CARD OF 'sorrellaw01.RunesOrder'. -/
def runesOrderCard : Claim7 := { stood := { row := runesOrderRow, standIns := [], harness := (true, "e49a1b4d0ee928a03b8a90a79dd8500189ea19df50be06409ea163134e832683"), looks := false }, kinds := [], alts := [], laidByText := true, laidKinds := [.data, .data], laidTests := true, laidLooks := .later }
def RunesOrderCardSaid : Prop := Claim7.holds Tryd.pinned (.plain (OpenSpec.ofChange runesOrderSpec)) runesOrderCard

/-- THE TIED CARD OF 'sorrellaw01.RunesSpans'. -/
def runesSpansCard : Claim7 := { stood := { row := runesSpansRow, standIns := [], harness := (true, "e49a1b4d0ee928a03b8a90a79dd8500189ea19df50be06409ea163134e832683"), looks := false }, kinds := [], alts := [], laidByText := true, laidKinds := [.data, .data, .data, .pinned], laidTests := true, laidLooks := .later }
def RunesSpansCardSaid : Prop := Claim7.holds Tryd.pinned (.plain (OpenSpec.ofChange runesSpansSpec)) runesSpansCard

/-- THE TIED CARD OF 'sorrellaw01.RunesDigits'. -/
def runesDigitsCard : Claim7 := { stood := { row := runesDigitsRow, standIns := [], harness := (true, "e49a1b4d0ee928a03b8a90a79dd8500189ea19df50be06409ea163134e832683"), looks := false }, kinds := [], alts := [], laidByText := true, laidKinds := [.data, .data, .data, .pinned], laidTests := true, laidLooks := .later }
def RunesDigitsCardSaid : Prop := Claim7.holds Tryd.pinned (.plain (OpenSpec.ofChange runesDigitsSpec)) runesDigitsCard

/-- THE TIED CARD OF 'sorrellaw01.RunesRange'. -/
def runesRangeCard : Claim7 := { stood := { row := runesRangeRow, standIns := [], harness := (true, "e49a1b4d0ee928a03b8a90a79dd8500189ea19df50be06409ea163134e832683"), looks := false }, kinds := [], alts := [], laidByText := true, laidKinds := [.data, .data], laidTests := true, laidLooks := .later }
def RunesRangeCardSaid : Prop := Claim7.holds Tryd.pinned (.plain (OpenSpec.ofChange runesRangeSpec)) runesRangeCard

/-- THE TIED CARD OF 'sorrellaw01.RunesPlays'. -/
def runesPlaysCard : Claim7 := { stood := { row := runesPlaysRow, standIns := [], harness := (true, "e49a1b4d0ee928a03b8a90a79dd8500189ea19df50be06409ea163134e832683"), looks := false }, kinds := [], alts := [], laidByText := true, laidKinds := [.data, .data, .data, .pinned], laidTests := true, laidLooks := .later }
def RunesPlaysCardSaid : Prop := Claim7.holds Tryd.pinned (.plain (OpenSpec.ofChange runesPlaysSpec)) runesPlaysCard

/-- THE SECOND FORM's CARD OF 'sorrellaw01.RunesKinds'. -/
def runesKindsUptoCard : Claim7 := { stood := { row := runesKindsUptoRow, standIns := [], harness := (true, "e49a1b4d0ee928a03b8a90a79dd8500189ea19df50be06409ea163134e832683"), looks := false }, kinds := [], alts := [], laidByText := true, laidKinds := [.data, .data], laidTests := true, laidLooks := .later }
def RunesKindsUptoCardSaid : Prop := Claim7.holds Tryd.pinned (.plain (OpenSpec.upto runesKindsSpec)) runesKindsUptoCard

/-- THE SECOND FORM's CARD OF 'sorrellaw01.RunesNames'. -/
def runesNamesUptoCard : Claim7 := { stood := { row := runesNamesUptoRow, standIns := [], harness := (true, "e49a1b4d0ee928a03b8a90a79dd8500189ea19df50be06409ea163134e832683"), looks := false }, kinds := [], alts := [], laidByText := true, laidKinds := [.data, .data], laidTests := true, laidLooks := .later }
def RunesNamesUptoCardSaid : Prop := Claim7.holds Tryd.pinned (.plain (OpenSpec.upto runesNamesSpec)) runesNamesUptoCard

/-- THE SECOND FORM's CARD OF 'sorrellaw01.RunesOrder'. -/
def runesOrderUptoCard : Claim7 := { stood := { row := runesOrderUptoRow, standIns := [], harness := (true, "e49a1b4d0ee928a03b8a90a79dd8500189ea19df50be06409ea163134e832683"), looks := false }, kinds := [], alts := [], laidByText := true, laidKinds := [.data, .data], laidTests := true, laidLooks := .later }
def RunesOrderUptoCardSaid : Prop := Claim7.holds Tryd.pinned (.plain (OpenSpec.upto runesOrderSpec)) runesOrderUptoCard

/-- THE SECOND FORM's CARD OF 'sorrellaw01.RunesSpans'. -/
def runesSpansUptoCard : Claim7 := { stood := { row := runesSpansUptoRow, standIns := [], harness := (true, "e49a1b4d0ee928a03b8a90a79dd8500189ea19df50be06409ea163134e832683"), looks := false }, kinds := [], alts := [], laidByText := true, laidKinds := [.data, .data, .data, .pinned], laidTests := true, laidLooks := .later }
def RunesSpansUptoCardSaid : Prop := Claim7.holds Tryd.pinned (.plain (OpenSpec.upto runesSpansSpec)) runesSpansUptoCard

/-- THE SECOND FORM's CARD OF 'sorrellaw01.RunesDigits'. -/
def runesDigitsUptoCard : Claim7 := { stood := { row := runesDigitsUptoRow, standIns := [], harness := (true, "e49a1b4d0ee928a03b8a90a79dd8500189ea19df50be06409ea163134e832683"), looks := false }, kinds := [], alts := [], laidByText := true, laidKinds := [.data, .data, .data, .pinned], laidTests := true, laidLooks := .later }
def RunesDigitsUptoCardSaid : Prop := Claim7.holds Tryd.pinned (.plain (OpenSpec.upto runesDigitsSpec)) runesDigitsUptoCard

/-- THE SECOND FORM's CARD OF 'sorrellaw01.RunesRange'. -/
def runesRangeUptoCard : Claim7 := { stood := { row := runesRangeUptoRow, standIns := [], harness := (true, "e49a1b4d0ee928a03b8a90a79dd8500189ea19df50be06409ea163134e832683"), looks := false }, kinds := [], alts := [], laidByText := true, laidKinds := [.data, .data], laidTests := true, laidLooks := .later }
def RunesRangeUptoCardSaid : Prop := Claim7.holds Tryd.pinned (.plain (OpenSpec.upto runesRangeSpec)) runesRangeUptoCard

/-- THE SECOND FORM's CARD OF 'sorrellaw01.RunesPlays'. -/
def runesPlaysUptoCard : Claim7 := { stood := { row := runesPlaysUptoRow, standIns := [], harness := (true, "e49a1b4d0ee928a03b8a90a79dd8500189ea19df50be06409ea163134e832683"), looks := false }, kinds := [], alts := [], laidByText := true, laidKinds := [.data, .data, .data, .pinned], laidTests := true, laidLooks := .later }
def RunesPlaysUptoCardSaid : Prop := Claim7.holds Tryd.pinned (.plain (OpenSpec.upto runesPlaysSpec)) runesPlaysUptoCard
end Rows
end Go.Proofs.YtkdpmbjcdbmffaaDoor
