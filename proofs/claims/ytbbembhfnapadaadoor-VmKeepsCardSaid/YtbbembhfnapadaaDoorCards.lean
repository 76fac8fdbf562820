/-
  DERIVED. GIVEN WITH THE SEED: THE CARDS: each row of YtbbembhfnapadaaDoorRows.lean that lists a variable, with what it lists TIED to the program's text (the seventh form; the later family's looks); each row that meets fmt, with fmt's text TOLD by the authors' own Lean function (tested against real Go, not proved from fmt's source: count such statements apart). THE CARD IS WHAT COUNTS. Prove the row's statement (the work); the ties are given (YtbbembhfnapadaaDoorTie.lean); close each card by the builder's one call (the guide's Derived/Test/ToyasCard.lean, 'card_holds'). Laid BY PROGRAM, IN A SANDBOX (cutbox-door.mjs). By AI agents, Wed Nov 11 2026. No macro, syntax, notation, axiom, sorry.
-/
import Derived.Test.YtbbembhfnapadaaDoorRows
import GoSem.ClaimSeven
namespace Go.Proofs.YtbbembhfnapadaaDoor
namespace Rows

/-- THE TIED CARD OF 'sorrellaw24.VmNames'. -/
def vmNamesCard : Claim7 := { stood := { row := vmNamesRow, standIns := [], harness := (true, "43eaaf0ea3fe7419b6915e423454c23bfe42244b17583be6bb4a2e278b0d4830"), looks := true }, kinds := [], alts := [], laidByText := true, laidKinds := [.data, .data], laidTests := true, laidLooks := .later }
def VmNamesCardSaid : Prop := Claim7.holds Tryd.pinned (.plain (OpenSpec.ofChange vmNamesSpec)) vmNamesCard

/-- THE TIED CARD OF 'sorrellaw24.VmPlays'. -/
def vmPlaysCard : Claim7 := { stood := { row := vmPlaysRow, standIns := [], harness := (true, "43eaaf0ea3fe7419b6915e423454c23bfe42244b17583be6bb4a2e278b0d4830"), looks := true }, kinds := [], alts := [], laidByText := true, laidKinds := [.data, .data], laidTests := true, laidLooks := .later }
def VmPlaysCardSaid : Prop := Claim7.holds Tryd.pinned (.plain (OpenSpec.ofChange vmPlaysSpec)) vmPlaysCard

/-- THE TIED CARD OF 'sorrellaw24.VmLast'. -/
def vmLastCard : Claim7 := { stood := { row := vmLastRow, standIns := [], harness := (true, "43eaaf0ea3fe7419b6915e423454c23bfe42244b17583be6bb4a2e278b0d4830"), looks := true }, kinds := [], alts := [], laidByText := true, laidKinds := [.data, .data], laidTests := true, laidLooks := .later }
def VmLastCardSaid : Prop := Claim7.holds Tryd.pinned (.plain (OpenSpec.ofChange vmLastSpec)) vmLastCard

/-- THE TIED CARD OF 'sorrellaw24.VmKeeps'. -/
def vmKeepsCard : Claim7 := { stood := { row := vmKeepsRow, standIns := [], harness := (true, "43eaaf0ea3fe7419b6915e423454c23bfe42244b17583be6bb4a2e278b0d4830"), looks := true }, kinds := [], alts := [], laidByText := true, laidKinds := [.data, .data], laidTests := true, laidLooks := .later }
def VmKeepsCardSaid : Prop := Claim7.holds Tryd.pinned (.plain (OpenSpec.ofChange vmKeepsSpec)) vmKeepsCard

/-- THE TIED CARD OF 'sorrellaw23.CodeShares'. -/
def codeSharesCard : Claim7 := { stood := { row := codeSharesRow, standIns := [], harness := (true, "43eaaf0ea3fe7419b6915e423454c23bfe42244b17583be6bb4a2e278b0d4830"), looks := true }, kinds := [], alts := [], laidByText := true, laidKinds := [.data, .data, .data, .data, .data], laidTests := true, laidLooks := .later }
def CodeSharesCardSaid : Prop := Claim7.holds Tryd.pinned (.plain (OpenSpec.ofChange codeSharesSpec)) codeSharesCard

/-- THE TIED CARD OF 'sorrellaw23.CodeCompiles'. -/
def codeCompilesCard : Claim7 := { stood := { row := codeCompilesRow, standIns := [], harness := (true, "43eaaf0ea3fe7419b6915e423454c23bfe42244b17583be6bb4a2e278b0d4830"), looks := true }, kinds := [], alts := [], laidByText := true, laidKinds := [.data, .data, .data, .data, .data], laidTests := true, laidLooks := .later }
def CodeCompilesCardSaid : Prop := Claim7.holds Tryd.pinned (.plain (OpenSpec.ofChange codeCompilesSpec)) codeCompilesCard

/-- THE TIED CARD OF 'sorrellaw23.CodePlays'. -/
def codePlaysCard : Claim7 := { stood := { row := codePlaysRow, standIns := [], harness := (true, "43eaaf0ea3fe7419b6915e423454c23bfe42244b17583be6bb4a2e278b0d4830"), looks := true }, kinds := [], alts := [], laidByText := true, laidKinds := [.data, .data, .data, .data, .data, .widerDeep], laidTests := true, laidLooks := .later }
def CodePlaysCardSaid : Prop := Claim7.holds Tryd.pinned (.plain (OpenSpec.ofChange codePlaysSpec)) codePlaysCard

/-- THE TIED CARD OF 'sorrellaw24.VmMeans'. -/
def vmMeansCard : Claim7 := { stood := { row := vmMeansRow, standIns := [], harness := (true, "43eaaf0ea3fe7419b6915e423454c23bfe42244b17583be6bb4a2e278b0d4830"), looks := true }, kinds := [], alts := [], laidByText := true, laidKinds := [.data, .data, .data, .data, .data], laidTests := true, laidLooks := .later }
def VmMeansCardSaid : Prop := Claim7.holds Tryd.pinned (.plain (OpenSpec.ofChange vmMeansSpec)) vmMeansCard

/-- THE TIED CARD OF 'sorrellaw23.CodeReads'. -/
def codeReadsCard : Claim7 := { stood := { row := codeReadsRow, standIns := [], harness := (true, "43eaaf0ea3fe7419b6915e423454c23bfe42244b17583be6bb4a2e278b0d4830"), looks := true }, kinds := [], alts := [], laidByText := true, laidKinds := [.data, .data, .data, .data, .data, .data, .widerDeep, .pinned], laidTests := true, laidLooks := .later }
def CodeReadsCardSaid : Prop := Claim7.holds Tryd.pinned (.plain (OpenSpec.ofChange codeReadsSpec)) codeReadsCard

/-- THE TIED CARD OF 'sorrellaw23.CodeBack'. -/
def codeBackCard : Claim7 := { stood := { row := codeBackRow, standIns := [], harness := (true, "43eaaf0ea3fe7419b6915e423454c23bfe42244b17583be6bb4a2e278b0d4830"), looks := true }, kinds := [], alts := [], laidByText := true, laidKinds := [.data, .data, .data, .data, .data, .data, .widerDeep, .pinned], laidTests := true, laidLooks := .later }
def CodeBackCardSaid : Prop := Claim7.holds Tryd.pinned (.plain (OpenSpec.ofChange codeBackSpec)) codeBackCard

/-- THE TIED CARD OF 'sorrellaw23.CodeKeeps'. -/
def codeKeepsCard : Claim7 := { stood := { row := codeKeepsRow, standIns := [], harness := (true, "43eaaf0ea3fe7419b6915e423454c23bfe42244b17583be6bb4a2e278b0d4830"), looks := true }, kinds := [], alts := [], laidByText := true, laidKinds := [.data, .data, .data, .data, .data, .data, .widerDeep, .pinned], laidTests := true, laidLooks := .later }
def CodeKeepsCardSaid : Prop := Claim7.holds Tryd.pinned (.plain (OpenSpec.ofChange codeKeepsSpec)) codeKeepsCard

/-- THE SECOND FORM's CARD OF 'sorrellaw24.VmNames'. -/
def vmNamesUptoCard : Claim7 := { stood := { row := vmNamesUptoRow, standIns := [], harness := (true, "43eaaf0ea3fe7419b6915e423454c23bfe42244b17583be6bb4a2e278b0d4830"), looks := true }, kinds := [], alts := [], laidByText := true, laidKinds := [.data, .data], laidTests := true, laidLooks := .later }
def VmNamesUptoCardSaid : Prop := Claim7.holds Tryd.pinned (.plain (OpenSpec.upto vmNamesSpec)) vmNamesUptoCard

/-- THE SECOND FORM's CARD OF 'sorrellaw24.VmPlays'. -/
def vmPlaysUptoCard : Claim7 := { stood := { row := vmPlaysUptoRow, standIns := [], harness := (true, "43eaaf0ea3fe7419b6915e423454c23bfe42244b17583be6bb4a2e278b0d4830"), looks := true }, kinds := [], alts := [], laidByText := true, laidKinds := [.data, .data], laidTests := true, laidLooks := .later }
def VmPlaysUptoCardSaid : Prop := Claim7.holds Tryd.pinned (.plain (OpenSpec.upto vmPlaysSpec)) vmPlaysUptoCard

/-- THE SECOND FORM's CARD OF 'sorrellaw24.VmLast'. -/
def vmLastUptoCard : Claim7 := { stood := { row := vmLastUptoRow, standIns := [], harness := (true, "43eaaf0ea3fe7419b6915e423454c23bfe42244b17583be6bb4a2e278b0d4830"), looks := true }, kinds := [], alts := [], laidByText := true, laidKinds := [.data, .data], laidTests := true, laidLooks := .later }
def VmLastUptoCardSaid : Prop := Claim7.holds Tryd.pinned (.plain (OpenSpec.upto vmLastSpec)) vmLastUptoCard

/-- THE SECOND FORM's CARD OF 'sorrellaw24.VmKeeps'. -/
def vmKeepsUptoCard : Claim7 := { stood := { row := vmKeepsUptoRow, standIns := [], harness := (true, "43eaaf0ea3fe7419b6915e423454c23bfe42244b17583be6bb4a2e278b0d4830"), looks := true }, kinds := [], alts := [], laidByText := true, laidKinds := [.data, .data], laidTests := true, laidLooks := .later }
def VmKeepsUptoCardSaid : Prop := Claim7.holds Tryd.pinned (.plain (OpenSpec.upto vmKeepsSpec)) vmKeepsUptoCard

/-- THE SECOND FORM's CARD OF 'sorrellaw23.CodeShares'. -/
def codeSharesUptoCard : Claim7 := { stood := { row := codeSharesUptoRow, standIns := [], harness := (true, "43eaaf0ea3fe7419b6915e423454c23bfe42244b17583be6bb4a2e278b0d4830"), looks := true }, kinds := [], alts := [], laidByText := true, laidKinds := [.data, .data, .data, .data, .data], laidTests := true, laidLooks := .later }
def CodeSharesUptoCardSaid : Prop := Claim7.holds Tryd.pinned (.plain (OpenSpec.upto codeSharesSpec)) codeSharesUptoCard

/-- THE SECOND FORM's CARD OF 'sorrellaw23.CodeCompiles'. -/
def codeCompilesUptoCard : Claim7 := { stood := { row := codeCompilesUptoRow, standIns := [], harness := (true, "43eaaf0ea3fe7419b6915e423454c23bfe42244b17583be6bb4a2e278b0d4830"), looks := true }, kinds := [], alts := [], laidByText := true, laidKinds := [.data, .data, .data, .data, .data], laidTests := true, laidLooks := .later }
def CodeCompilesUptoCardSaid : Prop := Claim7.holds Tryd.pinned (.plain (OpenSpec.upto codeCompilesSpec)) codeCompilesUptoCard

/-- THE SECOND FORM's CARD OF 'sorrellaw23.CodePlays'. -/
def codePlaysUptoCard : Claim7 := { stood := { row := codePlaysUptoRow, standIns := [], harness := (true, "43eaaf0ea3fe7419b6915e423454c23bfe42244b17583be6bb4a2e278b0d4830"), looks := true }, kinds := [], alts := [], laidByText := true, laidKinds := [.data, .data, .data, .data, .data, .widerDeep], laidTests := true, laidLooks := .later }
def CodePlaysUptoCardSaid : Prop := Claim7.holds Tryd.pinned (.plain (OpenSpec.upto codePlaysSpec)) codePlaysUptoCard

/-- THE SECOND FORM's CARD OF 'sorrellaw24.VmMeans'. -/
def vmMeansUptoCard : Claim7 := { stood := { row := vmMeansUptoRow, standIns := [], harness := (true, "43eaaf0ea3fe7419b6915e423454c23bfe42244b17583be6bb4a2e278b0d4830"), looks := true }, kinds := [], alts := [], laidByText := true, laidKinds := [.data, .data, .data, .data, .data], laidTests := true, laidLooks := .later }
def VmMeansUptoCardSaid : Prop := Claim7.holds Tryd.pinned (.plain (OpenSpec.upto vmMeansSpec)) vmMeansUptoCard

/-- THE SECOND FORM's CARD OF 'sorrellaw23.CodeReads'. -/
def codeReadsUptoCard : Claim7 := { stood := { row := codeReadsUptoRow, standIns := [], harness := (true, "43eaaf0ea3fe7419b6915e423454c23bfe42244b17583be6bb4a2e278b0d4830"), looks := true }, kinds := [], alts := [], laidByText := true, laidKinds := [.data, .data, .data, .data, .data, .data, .widerDeep, .pinned], laidTests := true, laidLooks := .later }
def CodeReadsUptoCardSaid : Prop := Claim7.holds Tryd.pinned (.plain (OpenSpec.upto codeReadsSpec)) codeReadsUptoCard

/-- THE SECOND FORM's CARD OF 'sorrellaw23.CodeBack'. -/
def codeBackUptoCard : Claim7 := { stood := { row := codeBackUptoRow, standIns := [], harness := (true, "43eaaf0ea3fe7419b6915e423454c23bfe42244b17583be6bb4a2e278b0d4830"), looks := true }, kinds := [], alts := [], laidByText := true, laidKinds := [.data, .data, .data, .data, .data, .data, .widerDeep, .pinned], laidTests := true, laidLooks := .later }
def CodeBackUptoCardSaid : Prop := Claim7.holds Tryd.pinned (.plain (OpenSpec.upto codeBackSpec)) codeBackUptoCard

/-- THE SECOND FORM's CARD OF 'sorrellaw23.CodeKeeps'. -/
def codeKeepsUptoCard : Claim7 := { stood := { row := codeKeepsUptoRow, standIns := [], harness := (true, "43eaaf0ea3fe7419b6915e423454c23bfe42244b17583be6bb4a2e278b0d4830"), looks := true }, kinds := [], alts := [], laidByText := true, laidKinds := [.data, .data, .data, .data, .data, .data, .widerDeep, .pinned], laidTests := true, laidLooks := .later }
def CodeKeepsUptoCardSaid : Prop := Claim7.holds Tryd.pinned (.plain (OpenSpec.upto codeKeepsSpec)) codeKeepsUptoCard
end Rows
end Go.Proofs.YtbbembhfnapadaaDoor
