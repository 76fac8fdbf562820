/-
  NARROWER THAN 'FOR EVERY INPUT', by the rows' own cells (each row's printed sentence says how): RunesKinds: laid · RunesNames: laid · RunesOrder: laid · RunesSpans: laid · RunesDigits: laid · RunesRange: laid · RunesPlays: laid.
  DERIVED. THE GIVEN ROWS OF THIS SEAT. 7 by the template 'for every input the law returns true; each argument reads behind the call as it read before'; 0 by the template 'total and deterministic' (their statements: YtkdpmbjcdbmffaaDoorTotals.lean).
  GIVEN WITH THE SEED: the statements are not yours to turn. If you find one false, say at which input.
  Laid BY PROGRAM, IN A SANDBOX (cutbox-rows.mjs): the forced cells as the released guide's own fill.sh prints them over the translation 0f3e31af3a2d8d28… (all of the seat's roots in one cut). By AI agents, Wed Nov 11 2026. No macro, syntax, notation, axiom, sorry.
-/
import Derived.Test.YtkdpmbjcdbmffaaDoorChecked
import GoSem.PinnedTables
import GoSem.Claim
import GoSem.ClaimJoined
import GoSem.ClaimMapViews
import Derived.JoinedTies
import Derived.KernelRfl
namespace Go.Proofs.YtkdpmbjcdbmffaaDoor
/- THE CELL 'sum', in the pinned program and in every row, IS THE sha256 OF THE DUMP (.gsa) THAT YtkdpmbjcdbmffaaDoorProg.lean LOADS. Nothing in Lean hashes anything: it is a label: what it is worth is what the hold of that sum in a sandbox is worth. -/
noncomputable def Tryd.pinned : Pinned := { name := "ytkdpmbjcdbmffaadoor", sum := "0f3e31af3a2d8d28ac41fc5a81f19ec2b63c239e51aaeacb1b42d87f7b73cffb", checked := Tryd.checked }
namespace Rows
def none {H : Type} : Left H := { results := [], args := [] }

/- WHAT THE LISTED PACKAGE-LEVEL VARIABLES READ AS WHEN THE CALL BEGINS. Each datum BY PROGRAM (the guide's laid-datum.mjs) off the statement by which the dump's own 'gosem.cut.vars' lays the variable. In a bare row this is a premise. The card (YtkdpmbjcdbmffaaDoorCards.lean) ties it to the program's text. -/
def laid_sorrel_runes_letters {H : Type} : DataW H := .agg [.agg [.lit (.int .i32 97), .lit (.int .i32 122)], .agg [.lit (.int .i32 65), .lit (.int .i32 90)], .agg [.lit (.int .i32 95), .lit (.int .i32 95)], .agg [.lit (.int .i32 192), .lit (.int .i32 214)], .agg [.lit (.int .i32 216), .lit (.int .i32 246)], .agg [.lit (.int .i32 248), .lit (.int .i32 591)], .agg [.lit (.int .i32 880), .lit (.int .i32 893)], .agg [.lit (.int .i32 895), .lit (.int .i32 902)], .agg [.lit (.int .i32 904), .lit (.int .i32 1023)], .agg [.lit (.int .i32 1024), .lit (.int .i32 1153)], .agg [.lit (.int .i32 1162), .lit (.int .i32 1327)], .agg [.lit (.int .i32 19968), .lit (.int .i32 40959)], .agg [.lit (.int .i32 66560), .lit (.int .i32 66639)]]
def laid_sorrel_runes_zeros {H : Type} : DataW H := .agg [.lit (.int .i32 48), .lit (.int .i32 1632), .lit (.int .i32 65296)]
def laid_unicode_utf8_acceptRanges {H : Type} : DataW H := .agg [.agg [.lit (.int .u8 128), .lit (.int .u8 191)], .agg [.lit (.int .u8 160), .lit (.int .u8 191)], .agg [.lit (.int .u8 128), .lit (.int .u8 159)], .agg [.lit (.int .u8 144), .lit (.int .u8 191)], .agg [.lit (.int .u8 128), .lit (.int .u8 143)], .agg [.lit (.int .u8 0), .lit (.int .u8 0)], .agg [.lit (.int .u8 0), .lit (.int .u8 0)], .agg [.lit (.int .u8 0), .lit (.int .u8 0)], .agg [.lit (.int .u8 0), .lit (.int .u8 0)], .agg [.lit (.int .u8 0), .lit (.int .u8 0)], .agg [.lit (.int .u8 0), .lit (.int .u8 0)], .agg [.lit (.int .u8 0), .lit (.int .u8 0)], .agg [.lit (.int .u8 0), .lit (.int .u8 0)], .agg [.lit (.int .u8 0), .lit (.int .u8 0)], .agg [.lit (.int .u8 0), .lit (.int .u8 0)], .agg [.lit (.int .u8 0), .lit (.int .u8 0)]]
/-- One of Go's own tables, pinned by name: the form's constant. -/
def laid_unicode_utf8_first : DataW Unit := Go.Pinned.utf8First

/-- 'sorrellaw01.RunesKinds': WHATEVER THE INPUT: true; the input reads as it did. -/
def runesKindsSpec : ChangeSpec := { name := "runesKinds", fn := fun _ => fun
  | [d] => { results := [.lit (.bool true)], args := [d] }
  | _ => none }
def runesKindsRow : OpenClaim := { program := "ytkdpmbjcdbmffaadoor", sum := "0f3e31af3a2d8d28ac41fc5a81f19ec2b63c239e51aaeacb1b42d87f7b73cffb", func := "sorrel/sorrellaw01.RunesKinds", spec := "runesKinds", named := ["sorrel/runes.letters", "sorrel/runes.zeros"], apart := false, laid := [("sorrel/runes.letters", laid_sorrel_runes_letters), ("sorrel/runes.zeros", laid_sorrel_runes_zeros)] }
def RunesKindsSaid : Prop := runesKindsRow.holds Tryd.pinned (OpenSpec.ofChange runesKindsSpec)

/-- ITS FALSE NEIGHBOUR: 'it returns false'. Refute it at one input. -/
def runesKindsWrong : ChangeSpec := { name := "runesKinds", fn := fun _ => fun
  | [d] => { results := [.lit (.bool false)], args := [d] }
  | _ => none }
def RunesKindsWrongFalsely : Prop := runesKindsRow.holds Tryd.pinned (OpenSpec.ofChange runesKindsWrong)

/-- 'sorrellaw01.RunesNames': WHATEVER THE INPUT: true; the input reads as it did. -/
def runesNamesSpec : ChangeSpec := { name := "runesNames", fn := fun _ => fun
  | [d1, d2] => { results := [.lit (.bool true)], args := [d1, d2] }
  | _ => none }
def runesNamesRow : OpenClaim := { program := "ytkdpmbjcdbmffaadoor", sum := "0f3e31af3a2d8d28ac41fc5a81f19ec2b63c239e51aaeacb1b42d87f7b73cffb", func := "sorrel/sorrellaw01.RunesNames", spec := "runesNames", named := ["sorrel/runes.letters", "sorrel/runes.zeros"], apart := false, laid := [("sorrel/runes.letters", laid_sorrel_runes_letters), ("sorrel/runes.zeros", laid_sorrel_runes_zeros)] }
def RunesNamesSaid : Prop := runesNamesRow.holds Tryd.pinned (OpenSpec.ofChange runesNamesSpec)

/-- ITS FALSE NEIGHBOUR: 'it returns false'. Refute it at one input. -/
def runesNamesWrong : ChangeSpec := { name := "runesNames", fn := fun _ => fun
  | [d1, d2] => { results := [.lit (.bool false)], args := [d1, d2] }
  | _ => none }
def RunesNamesWrongFalsely : Prop := runesNamesRow.holds Tryd.pinned (OpenSpec.ofChange runesNamesWrong)

/-- 'sorrellaw01.RunesOrder': WHATEVER THE INPUT: true; the input reads as it did. -/
def runesOrderSpec : ChangeSpec := { name := "runesOrder", fn := fun _ => fun
  | [d1, d2, d3] => { results := [.lit (.bool true)], args := [d1, d2, d3] }
  | _ => none }
def runesOrderRow : OpenClaim := { program := "ytkdpmbjcdbmffaadoor", sum := "0f3e31af3a2d8d28ac41fc5a81f19ec2b63c239e51aaeacb1b42d87f7b73cffb", func := "sorrel/sorrellaw01.RunesOrder", spec := "runesOrder", named := ["sorrel/runes.letters", "sorrel/runes.zeros"], apart := false, laid := [("sorrel/runes.letters", laid_sorrel_runes_letters), ("sorrel/runes.zeros", laid_sorrel_runes_zeros)] }
def RunesOrderSaid : Prop := runesOrderRow.holds Tryd.pinned (OpenSpec.ofChange runesOrderSpec)

/-- ITS FALSE NEIGHBOUR: 'it returns false'. Refute it at one input. -/
def runesOrderWrong : ChangeSpec := { name := "runesOrder", fn := fun _ => fun
  | [d1, d2, d3] => { results := [.lit (.bool false)], args := [d1, d2, d3] }
  | _ => none }
def RunesOrderWrongFalsely : Prop := runesOrderRow.holds Tryd.pinned (OpenSpec.ofChange runesOrderWrong)

/-- 'sorrellaw01.RunesSpans': WHATEVER THE INPUT: true; the input reads as it did. -/
def runesSpansSpec : ChangeSpec := { name := "runesSpans", fn := fun _ => fun
  | [d] => { results := [.lit (.bool true)], args := [d] }
  | _ => none }
def runesSpansRow : OpenClaim := { program := "ytkdpmbjcdbmffaadoor", sum := "0f3e31af3a2d8d28ac41fc5a81f19ec2b63c239e51aaeacb1b42d87f7b73cffb", func := "sorrel/sorrellaw01.RunesSpans", spec := "runesSpans", named := ["sorrel/runes.letters", "sorrel/runes.zeros", "unicode/utf8.first", "unicode/utf8.acceptRanges"], apart := false, laid := [("unicode/utf8.acceptRanges", laid_unicode_utf8_acceptRanges), ("sorrel/runes.letters", laid_sorrel_runes_letters), ("sorrel/runes.zeros", laid_sorrel_runes_zeros), ("unicode/utf8.first", laid_unicode_utf8_first)] }
def RunesSpansSaid : Prop := runesSpansRow.holds Tryd.pinned (OpenSpec.ofChange runesSpansSpec)

/-- ITS FALSE NEIGHBOUR: 'it returns false'. Refute it at one input. -/
def runesSpansWrong : ChangeSpec := { name := "runesSpans", fn := fun _ => fun
  | [d] => { results := [.lit (.bool false)], args := [d] }
  | _ => none }
def RunesSpansWrongFalsely : Prop := runesSpansRow.holds Tryd.pinned (OpenSpec.ofChange runesSpansWrong)

/-- 'sorrellaw01.RunesDigits': WHATEVER THE INPUT: true; the input reads as it did. -/
def runesDigitsSpec : ChangeSpec := { name := "runesDigits", fn := fun _ => fun
  | [d1, d2, d3] => { results := [.lit (.bool true)], args := [d1, d2, d3] }
  | _ => none }
def runesDigitsRow : OpenClaim := { program := "ytkdpmbjcdbmffaadoor", sum := "0f3e31af3a2d8d28ac41fc5a81f19ec2b63c239e51aaeacb1b42d87f7b73cffb", func := "sorrel/sorrellaw01.RunesDigits", spec := "runesDigits", named := ["sorrel/runes.letters", "sorrel/runes.zeros", "unicode/utf8.first", "unicode/utf8.acceptRanges"], apart := false, laid := [("unicode/utf8.acceptRanges", laid_unicode_utf8_acceptRanges), ("sorrel/runes.letters", laid_sorrel_runes_letters), ("sorrel/runes.zeros", laid_sorrel_runes_zeros), ("unicode/utf8.first", laid_unicode_utf8_first)] }
def RunesDigitsSaid : Prop := runesDigitsRow.holds Tryd.pinned (OpenSpec.ofChange runesDigitsSpec)

/-- ITS FALSE NEIGHBOUR: 'it returns false'. Refute it at one input. -/
def runesDigitsWrong : ChangeSpec := { name := "runesDigits", fn := fun _ => fun
  | [d1, d2, d3] => { results := [.lit (.bool false)], args := [d1, d2, d3] }
  | _ => none }
def RunesDigitsWrongFalsely : Prop := runesDigitsRow.holds Tryd.pinned (OpenSpec.ofChange runesDigitsWrong)

/-- 'sorrellaw01.RunesRange': WHATEVER THE INPUT: true; the input reads as it did. -/
def runesRangeSpec : ChangeSpec := { name := "runesRange", fn := fun _ => fun
  | [d] => { results := [.lit (.bool true)], args := [d] }
  | _ => none }
def runesRangeRow : OpenClaim := { program := "ytkdpmbjcdbmffaadoor", sum := "0f3e31af3a2d8d28ac41fc5a81f19ec2b63c239e51aaeacb1b42d87f7b73cffb", func := "sorrel/sorrellaw01.RunesRange", spec := "runesRange", inPlace := ["internal/bytealg.CountString", "internal/bytealg.IndexByteString", "internal/bytealg.IndexString"], named := ["sorrel/runes.letters", "sorrel/runes.zeros", "internal/bytealg.MaxLen"], apart := false, laid := [("sorrel/runes.letters", laid_sorrel_runes_letters), ("sorrel/runes.zeros", laid_sorrel_runes_zeros)] }
def RunesRangeSaid : Prop := runesRangeRow.holds Tryd.pinned (OpenSpec.ofChange runesRangeSpec)

/-- ITS FALSE NEIGHBOUR: 'it returns false'. Refute it at one input. -/
def runesRangeWrong : ChangeSpec := { name := "runesRange", fn := fun _ => fun
  | [d] => { results := [.lit (.bool false)], args := [d] }
  | _ => none }
def RunesRangeWrongFalsely : Prop := runesRangeRow.holds Tryd.pinned (OpenSpec.ofChange runesRangeWrong)

/-- 'sorrellaw01.RunesPlays': WHATEVER THE INPUT: true; the input reads as it did. -/
def runesPlaysSpec : ChangeSpec := { name := "runesPlays", fn := fun _ => fun
  | [d1, d2] => { results := [.lit (.bool true)], args := [d1, d2] }
  | _ => none }
def runesPlaysRow : OpenClaim := { program := "ytkdpmbjcdbmffaadoor", sum := "0f3e31af3a2d8d28ac41fc5a81f19ec2b63c239e51aaeacb1b42d87f7b73cffb", func := "sorrel/sorrellaw01.RunesPlays", spec := "runesPlays", inPlace := ["internal/bytealg.CountString", "internal/bytealg.IndexByteString", "internal/bytealg.IndexString"], named := ["sorrel/runes.letters", "sorrel/runes.zeros", "unicode/utf8.first", "unicode/utf8.acceptRanges", "internal/bytealg.MaxLen"], apart := false, laid := [("unicode/utf8.acceptRanges", laid_unicode_utf8_acceptRanges), ("sorrel/runes.letters", laid_sorrel_runes_letters), ("sorrel/runes.zeros", laid_sorrel_runes_zeros), ("unicode/utf8.first", laid_unicode_utf8_first)] }
def RunesPlaysSaid : Prop := runesPlaysRow.holds Tryd.pinned (OpenSpec.ofChange runesPlaysSpec)

/-- ITS FALSE NEIGHBOUR: 'it returns false'. Refute it at one input. -/
def runesPlaysWrong : ChangeSpec := { name := "runesPlays", fn := fun _ => fun
  | [d1, d2] => { results := [.lit (.bool false)], args := [d1, d2] }
  | _ => none }
def RunesPlaysWrongFalsely : Prop := runesPlaysRow.holds Tryd.pinned (OpenSpec.ofChange runesPlaysWrong)

/- THE SECOND FORM. 'bulk': how many values and letters a reading holds, each counted each time it is reached (what is shared counts as often as it is met; a slice's spare places count too). A statement '..UptoSaid' is the law's where the arguments, and the package variables that the reading takes, are together of bulk at most 1048576: NARROWER than '..Said'. Prove '..Said' where nothing that the law and all that it calls make is longer than what came in: it says more and counts as full. Else prove '..UptoSaid'. A law counts once. -/
mutual
def uptoBulk {H : Type} : DataW H → Nat
  | .lit (.string bytes) => bytes.length + 1
  | .lit _ => 1
  | .nil => 1
  | .ptr d => uptoBulk d + 1
  | .slice elems spare => uptoBulkAll elems + uptoBulkAll spare + 1
  | .agg parts => uptoBulkAll parts + 1
  | .iface _ d => uptoBulk d + 1
  | .map entries => uptoBulkEntries entries + 1
  | .held _ => 1
def uptoBulkAll {H : Type} : List (DataW H) → Nat
  | [] => 0
  | d :: r => uptoBulk d + uptoBulkAll r
def uptoBulkEntries {H : Type} : List (Lit × DataW H) → Nat
  | [] => 0
  | x :: r => uptoBulkEntry x + uptoBulkEntries r
def uptoBulkEntry {H : Type} : Lit × DataW H → Nat
  | (.string bytes, d) => bytes.length + uptoBulk d + 1
  | (_, d) => uptoBulk d + 1
 end
def uptoSmall : (H : Type) → List (DataW H) → Bool := fun _ ds => decide (uptoBulkAll ds ≤ 1048576)
def OpenSpec.upto (s : _root_.Go.ChangeSpec) : _root_.Go.OpenSpec := { _root_.Go.OpenSpec.ofChange s with cond := some uptoSmall }

/-- 'sorrellaw01.RunesKinds', WHERE WHAT IT READS IS OF BULK AT MOST 1048576: true; the input reads as it did. -/
def runesKindsUptoRow : OpenClaim := { program := "ytkdpmbjcdbmffaadoor", sum := "0f3e31af3a2d8d28ac41fc5a81f19ec2b63c239e51aaeacb1b42d87f7b73cffb", func := "sorrel/sorrellaw01.RunesKinds", spec := "runesKinds", named := ["sorrel/runes.letters", "sorrel/runes.zeros"], apart := false, laid := [("sorrel/runes.letters", laid_sorrel_runes_letters), ("sorrel/runes.zeros", laid_sorrel_runes_zeros)], narrowed := true }
def RunesKindsUptoSaid : Prop := runesKindsUptoRow.holds Tryd.pinned (OpenSpec.upto runesKindsSpec)

/-- 'sorrellaw01.RunesNames', WHERE WHAT IT READS IS OF BULK AT MOST 1048576: true; the input reads as it did. -/
def runesNamesUptoRow : OpenClaim := { program := "ytkdpmbjcdbmffaadoor", sum := "0f3e31af3a2d8d28ac41fc5a81f19ec2b63c239e51aaeacb1b42d87f7b73cffb", func := "sorrel/sorrellaw01.RunesNames", spec := "runesNames", named := ["sorrel/runes.letters", "sorrel/runes.zeros"], apart := false, laid := [("sorrel/runes.letters", laid_sorrel_runes_letters), ("sorrel/runes.zeros", laid_sorrel_runes_zeros)], narrowed := true }
def RunesNamesUptoSaid : Prop := runesNamesUptoRow.holds Tryd.pinned (OpenSpec.upto runesNamesSpec)

/-- 'sorrellaw01.RunesOrder', WHERE WHAT IT READS IS OF BULK AT MOST 1048576: true; the input reads as it did. -/
def runesOrderUptoRow : OpenClaim := { program := "ytkdpmbjcdbmffaadoor", sum := "0f3e31af3a2d8d28ac41fc5a81f19ec2b63c239e51aaeacb1b42d87f7b73cffb", func := "sorrel/sorrellaw01.RunesOrder", spec := "runesOrder", named := ["sorrel/runes.letters", "sorrel/runes.zeros"], apart := false, laid := [("sorrel/runes.letters", laid_sorrel_runes_letters), ("sorrel/runes.zeros", laid_sorrel_runes_zeros)], narrowed := true }
def RunesOrderUptoSaid : Prop := runesOrderUptoRow.holds Tryd.pinned (OpenSpec.upto runesOrderSpec)

/-- 'sorrellaw01.RunesSpans', WHERE WHAT IT READS IS OF BULK AT MOST 1048576: true; the input reads as it did. -/
def runesSpansUptoRow : OpenClaim := { program := "ytkdpmbjcdbmffaadoor", sum := "0f3e31af3a2d8d28ac41fc5a81f19ec2b63c239e51aaeacb1b42d87f7b73cffb", func := "sorrel/sorrellaw01.RunesSpans", spec := "runesSpans", named := ["sorrel/runes.letters", "sorrel/runes.zeros", "unicode/utf8.first", "unicode/utf8.acceptRanges"], apart := false, laid := [("unicode/utf8.acceptRanges", laid_unicode_utf8_acceptRanges), ("sorrel/runes.letters", laid_sorrel_runes_letters), ("sorrel/runes.zeros", laid_sorrel_runes_zeros), ("unicode/utf8.first", laid_unicode_utf8_first)], narrowed := true }
def RunesSpansUptoSaid : Prop := runesSpansUptoRow.holds Tryd.pinned (OpenSpec.upto runesSpansSpec)

/-- 'sorrellaw01.RunesDigits', WHERE WHAT IT READS IS OF BULK AT MOST 1048576: true; the input reads as it did. -/
def runesDigitsUptoRow : OpenClaim := { program := "ytkdpmbjcdbmffaadoor", sum := "0f3e31af3a2d8d28ac41fc5a81f19ec2b63c239e51aaeacb1b42d87f7b73cffb", func := "sorrel/sorrellaw01.RunesDigits", spec := "runesDigits", named := ["sorrel/runes.letters", "sorrel/runes.zeros", "unicode/utf8.first", "unicode/utf8.acceptRanges"], apart := false, laid := [("unicode/utf8.acceptRanges", laid_unicode_utf8_acceptRanges), ("sorrel/runes.letters", laid_sorrel_runes_letters), ("sorrel/runes.zeros", laid_sorrel_runes_zeros), ("unicode/utf8.first", laid_unicode_utf8_first)], narrowed := true }
def RunesDigitsUptoSaid : Prop := runesDigitsUptoRow.holds Tryd.pinned (OpenSpec.upto runesDigitsSpec)

/-- 'sorrellaw01.RunesRange', WHERE WHAT IT READS IS OF BULK AT MOST 1048576: true; the input reads as it did. -/
def runesRangeUptoRow : OpenClaim := { program := "ytkdpmbjcdbmffaadoor", sum := "0f3e31af3a2d8d28ac41fc5a81f19ec2b63c239e51aaeacb1b42d87f7b73cffb", func := "sorrel/sorrellaw01.RunesRange", spec := "runesRange", inPlace := ["internal/bytealg.CountString", "internal/bytealg.IndexByteString", "internal/bytealg.IndexString"], named := ["sorrel/runes.letters", "sorrel/runes.zeros", "internal/bytealg.MaxLen"], apart := false, laid := [("sorrel/runes.letters", laid_sorrel_runes_letters), ("sorrel/runes.zeros", laid_sorrel_runes_zeros)], narrowed := true }
def RunesRangeUptoSaid : Prop := runesRangeUptoRow.holds Tryd.pinned (OpenSpec.upto runesRangeSpec)

/-- 'sorrellaw01.RunesPlays', WHERE WHAT IT READS IS OF BULK AT MOST 1048576: true; the input reads as it did. -/
def runesPlaysUptoRow : OpenClaim := { program := "ytkdpmbjcdbmffaadoor", sum := "0f3e31af3a2d8d28ac41fc5a81f19ec2b63c239e51aaeacb1b42d87f7b73cffb", func := "sorrel/sorrellaw01.RunesPlays", spec := "runesPlays", inPlace := ["internal/bytealg.CountString", "internal/bytealg.IndexByteString", "internal/bytealg.IndexString"], named := ["sorrel/runes.letters", "sorrel/runes.zeros", "unicode/utf8.first", "unicode/utf8.acceptRanges", "internal/bytealg.MaxLen"], apart := false, laid := [("unicode/utf8.acceptRanges", laid_unicode_utf8_acceptRanges), ("sorrel/runes.letters", laid_sorrel_runes_letters), ("sorrel/runes.zeros", laid_sorrel_runes_zeros), ("unicode/utf8.first", laid_unicode_utf8_first)], narrowed := true }
def RunesPlaysUptoSaid : Prop := runesPlaysUptoRow.holds Tryd.pinned (OpenSpec.upto runesPlaysSpec)

end Rows
end Go.Proofs.YtkdpmbjcdbmffaaDoor
