/-
  NARROWER THAN 'FOR EVERY INPUT', by the rows' own cells (each row's printed sentence says how): VmNames: laid · VmPlays: laid · VmLast: laid · VmKeeps: laid · CodeShares: laid · CodeCompiles: laid · CodePlays: laid · VmMeans: laid · CodeReads: laid · CodeBack: laid · CodeKeeps: laid.
  DERIVED. THE GIVEN ROWS OF THIS SEAT. 11 by the template 'for every input the law returns true; each argument reads behind the call as it read before'; 0 by the template 'total and deterministic' (their statements: YtbbembhfnapadaaDoorTotals.lean).
  GIVEN WITH THE SEED: the statements are not yours to turn. If you find one false, say at which input.
  Laid BY PROGRAM, IN A SANDBOX (cutbox-rows.mjs): the forced cells as the released guide's own fill.sh prints them over the translation bc04d5587099b242… (all of the seat's roots in one cut). By AI agents, Wed Nov 11 2026. No macro, syntax, notation, axiom, sorry.
-/
import Derived.Test.YtbbembhfnapadaaDoorChecked
import GoSem.PinnedTables
import GoSem.Claim
import GoSem.ClaimJoined
import GoSem.ClaimMapViews
import Derived.JoinedTies
import Derived.KernelRfl
namespace Go.Proofs.YtbbembhfnapadaaDoor
/- THE CELL 'sum', in the pinned program and in every row, IS THE sha256 OF THE DUMP (.gsa) THAT YtbbembhfnapadaaDoorProg.lean LOADS. Nothing in Lean hashes anything: it is a label: what it is worth is what the hold of that sum in a sandbox is worth. -/
noncomputable def Tryd.pinned : Pinned := { name := "ytbbembhfnapadaadoor", sum := "bc04d5587099b2422383a8dd3348d360976d9cc3b9be530e3eb1078da5826564", checked := Tryd.checked }
namespace Rows
def none {H : Type} : Left H := { results := [], args := [] }

/- WHAT THE LISTED PACKAGE-LEVEL VARIABLES READ AS WHEN THE CALL BEGINS. Each datum BY PROGRAM (the guide's laid-datum.mjs) off the statement by which the dump's own 'gosem.cut.vars' lays the variable. In a bare row this is a premise. The card (YtbbembhfnapadaaDoorCards.lean) ties it to the program's text. -/
def laid_sorrel_runes_letters {H : Type} : DataW H := .agg [.agg [.lit (.int .i32 97), .lit (.int .i32 122)], .agg [.lit (.int .i32 65), .lit (.int .i32 90)], .agg [.lit (.int .i32 95), .lit (.int .i32 95)], .agg [.lit (.int .i32 192), .lit (.int .i32 214)], .agg [.lit (.int .i32 216), .lit (.int .i32 246)], .agg [.lit (.int .i32 248), .lit (.int .i32 591)], .agg [.lit (.int .i32 880), .lit (.int .i32 893)], .agg [.lit (.int .i32 895), .lit (.int .i32 902)], .agg [.lit (.int .i32 904), .lit (.int .i32 1023)], .agg [.lit (.int .i32 1024), .lit (.int .i32 1153)], .agg [.lit (.int .i32 1162), .lit (.int .i32 1327)], .agg [.lit (.int .i32 19968), .lit (.int .i32 40959)], .agg [.lit (.int .i32 66560), .lit (.int .i32 66639)]]
def laid_sorrel_runes_zeros {H : Type} : DataW H := .agg [.lit (.int .i32 48), .lit (.int .i32 1632), .lit (.int .i32 65296)]
def laid_math_bits_deBruijn32tab {H : Type} : DataW H := .agg [.lit (.int .u8 0), .lit (.int .u8 1), .lit (.int .u8 28), .lit (.int .u8 2), .lit (.int .u8 29), .lit (.int .u8 14), .lit (.int .u8 24), .lit (.int .u8 3), .lit (.int .u8 30), .lit (.int .u8 22), .lit (.int .u8 20), .lit (.int .u8 15), .lit (.int .u8 25), .lit (.int .u8 17), .lit (.int .u8 4), .lit (.int .u8 8), .lit (.int .u8 31), .lit (.int .u8 27), .lit (.int .u8 13), .lit (.int .u8 23), .lit (.int .u8 21), .lit (.int .u8 19), .lit (.int .u8 16), .lit (.int .u8 7), .lit (.int .u8 26), .lit (.int .u8 12), .lit (.int .u8 18), .lit (.int .u8 6), .lit (.int .u8 11), .lit (.int .u8 5), .lit (.int .u8 10), .lit (.int .u8 9)]
def laid_math_bits_deBruijn64tab {H : Type} : DataW H := .agg [.lit (.int .u8 0), .lit (.int .u8 1), .lit (.int .u8 56), .lit (.int .u8 2), .lit (.int .u8 57), .lit (.int .u8 49), .lit (.int .u8 28), .lit (.int .u8 3), .lit (.int .u8 61), .lit (.int .u8 58), .lit (.int .u8 42), .lit (.int .u8 50), .lit (.int .u8 38), .lit (.int .u8 29), .lit (.int .u8 17), .lit (.int .u8 4), .lit (.int .u8 62), .lit (.int .u8 47), .lit (.int .u8 59), .lit (.int .u8 36), .lit (.int .u8 45), .lit (.int .u8 43), .lit (.int .u8 51), .lit (.int .u8 22), .lit (.int .u8 53), .lit (.int .u8 39), .lit (.int .u8 33), .lit (.int .u8 30), .lit (.int .u8 24), .lit (.int .u8 18), .lit (.int .u8 12), .lit (.int .u8 5), .lit (.int .u8 63), .lit (.int .u8 55), .lit (.int .u8 48), .lit (.int .u8 27), .lit (.int .u8 60), .lit (.int .u8 41), .lit (.int .u8 37), .lit (.int .u8 16), .lit (.int .u8 46), .lit (.int .u8 35), .lit (.int .u8 44), .lit (.int .u8 21), .lit (.int .u8 52), .lit (.int .u8 32), .lit (.int .u8 23), .lit (.int .u8 11), .lit (.int .u8 54), .lit (.int .u8 26), .lit (.int .u8 40), .lit (.int .u8 15), .lit (.int .u8 34), .lit (.int .u8 20), .lit (.int .u8 31), .lit (.int .u8 10), .lit (.int .u8 25), .lit (.int .u8 14), .lit (.int .u8 19), .lit (.int .u8 9), .lit (.int .u8 13), .lit (.int .u8 8), .lit (.int .u8 7), .lit (.int .u8 6)]
def laid_internal_strconv_uint64pow10 {H : Type} : DataW H := .agg [.lit (.int .u64 1), .lit (.int .u64 10), .lit (.int .u64 100), .lit (.int .u64 1000), .lit (.int .u64 10000), .lit (.int .u64 100000), .lit (.int .u64 1000000), .lit (.int .u64 10000000), .lit (.int .u64 100000000), .lit (.int .u64 1000000000), .lit (.int .u64 10000000000), .lit (.int .u64 100000000000), .lit (.int .u64 1000000000000), .lit (.int .u64 10000000000000), .lit (.int .u64 100000000000000), .lit (.int .u64 1000000000000000), .lit (.int .u64 10000000000000000), .lit (.int .u64 100000000000000000), .lit (.int .u64 1000000000000000000), .lit (.int .u64 10000000000000000000)]
def laid_sorrel_code_words {H : Type} : DataW H := .agg [.lit (.string []), .lit (.string []), .lit (.string []), .lit (.string [110, 101, 103]), .lit (.string [110, 111, 116]), .lit (.string [97, 100, 100]), .lit (.string [115, 117, 98]), .lit (.string [109, 117, 108]), .lit (.string [100, 105, 118]), .lit (.string [114, 101, 109]), .lit (.string [97, 110, 100]), .lit (.string [111, 114]), .lit (.string [120, 111, 114]), .lit (.string [115, 104, 108]), .lit (.string [115, 104, 114]), .lit (.string [101, 113]), .lit (.string [108, 116]), .lit (.string [105, 102])]
def laid_unicode_utf8_acceptRanges {H : Type} : DataW H := .agg [.agg [.lit (.int .u8 128), .lit (.int .u8 191)], .agg [.lit (.int .u8 160), .lit (.int .u8 191)], .agg [.lit (.int .u8 128), .lit (.int .u8 159)], .agg [.lit (.int .u8 144), .lit (.int .u8 191)], .agg [.lit (.int .u8 128), .lit (.int .u8 143)], .agg [.lit (.int .u8 0), .lit (.int .u8 0)], .agg [.lit (.int .u8 0), .lit (.int .u8 0)], .agg [.lit (.int .u8 0), .lit (.int .u8 0)], .agg [.lit (.int .u8 0), .lit (.int .u8 0)], .agg [.lit (.int .u8 0), .lit (.int .u8 0)], .agg [.lit (.int .u8 0), .lit (.int .u8 0)], .agg [.lit (.int .u8 0), .lit (.int .u8 0)], .agg [.lit (.int .u8 0), .lit (.int .u8 0)], .agg [.lit (.int .u8 0), .lit (.int .u8 0)], .agg [.lit (.int .u8 0), .lit (.int .u8 0)], .agg [.lit (.int .u8 0), .lit (.int .u8 0)]]
/-- One of Go's own tables, pinned by name: the form's constant. -/
def laid_unicode_utf8_first : DataW Unit := Go.Pinned.utf8First

/-- 'sorrellaw24.VmNames': WHATEVER THE INPUT: true; the input reads as it did. -/
def vmNamesSpec : ChangeSpec := { name := "vmNames", fn := fun _ => fun
  | [d1, d2, d3, d4] => { results := [.lit (.bool true)], args := [d1, d2, d3, d4] }
  | _ => none }
def vmNamesRow : OpenClaim := { program := "ytbbembhfnapadaadoor", sum := "bc04d5587099b2422383a8dd3348d360976d9cc3b9be530e3eb1078da5826564", func := "sorrel/sorrellaw24.VmNames", spec := "vmNames", unfollowed := true, recurses := true, named := ["sorrel/runes.letters", "sorrel/runes.zeros"], apart := false, laid := [("sorrel/runes.letters", laid_sorrel_runes_letters), ("sorrel/runes.zeros", laid_sorrel_runes_zeros)] }
def VmNamesSaid : Prop := vmNamesRow.holds Tryd.pinned (OpenSpec.ofChange vmNamesSpec)

/-- ITS FALSE NEIGHBOUR: 'it returns false'. Refute it at one input. -/
def vmNamesWrong : ChangeSpec := { name := "vmNames", fn := fun _ => fun
  | [d1, d2, d3, d4] => { results := [.lit (.bool false)], args := [d1, d2, d3, d4] }
  | _ => none }
def VmNamesWrongFalsely : Prop := vmNamesRow.holds Tryd.pinned (OpenSpec.ofChange vmNamesWrong)

/-- 'sorrellaw24.VmPlays': WHATEVER THE INPUT: true; the input reads as it did. -/
def vmPlaysSpec : ChangeSpec := { name := "vmPlays", fn := fun _ => fun
  | [d1, d2] => { results := [.lit (.bool true)], args := [d1, d2] }
  | _ => none }
def vmPlaysRow : OpenClaim := { program := "ytbbembhfnapadaadoor", sum := "bc04d5587099b2422383a8dd3348d360976d9cc3b9be530e3eb1078da5826564", func := "sorrel/sorrellaw24.VmPlays", spec := "vmPlays", unfollowed := true, recurses := true, named := ["sorrel/runes.letters", "sorrel/runes.zeros"], apart := false, laid := [("sorrel/runes.letters", laid_sorrel_runes_letters), ("sorrel/runes.zeros", laid_sorrel_runes_zeros)] }
def VmPlaysSaid : Prop := vmPlaysRow.holds Tryd.pinned (OpenSpec.ofChange vmPlaysSpec)

/-- ITS FALSE NEIGHBOUR: 'it returns false'. Refute it at one input. -/
def vmPlaysWrong : ChangeSpec := { name := "vmPlays", fn := fun _ => fun
  | [d1, d2] => { results := [.lit (.bool false)], args := [d1, d2] }
  | _ => none }
def VmPlaysWrongFalsely : Prop := vmPlaysRow.holds Tryd.pinned (OpenSpec.ofChange vmPlaysWrong)

/-- 'sorrellaw24.VmLast': WHATEVER THE INPUT: true; the input reads as it did. -/
def vmLastSpec : ChangeSpec := { name := "vmLast", fn := fun _ => fun
  | [d1, d2] => { results := [.lit (.bool true)], args := [d1, d2] }
  | _ => none }
def vmLastRow : OpenClaim := { program := "ytbbembhfnapadaadoor", sum := "bc04d5587099b2422383a8dd3348d360976d9cc3b9be530e3eb1078da5826564", func := "sorrel/sorrellaw24.VmLast", spec := "vmLast", unfollowed := true, recurses := true, named := ["sorrel/runes.letters", "sorrel/runes.zeros"], apart := false, laid := [("sorrel/runes.letters", laid_sorrel_runes_letters), ("sorrel/runes.zeros", laid_sorrel_runes_zeros)] }
def VmLastSaid : Prop := vmLastRow.holds Tryd.pinned (OpenSpec.ofChange vmLastSpec)

/-- ITS FALSE NEIGHBOUR: 'it returns false'. Refute it at one input. -/
def vmLastWrong : ChangeSpec := { name := "vmLast", fn := fun _ => fun
  | [d1, d2] => { results := [.lit (.bool false)], args := [d1, d2] }
  | _ => none }
def VmLastWrongFalsely : Prop := vmLastRow.holds Tryd.pinned (OpenSpec.ofChange vmLastWrong)

/-- 'sorrellaw24.VmKeeps': WHATEVER THE INPUT: true; the input reads as it did. -/
def vmKeepsSpec : ChangeSpec := { name := "vmKeeps", fn := fun _ => fun
  | [d1, d2] => { results := [.lit (.bool true)], args := [d1, d2] }
  | _ => none }
def vmKeepsRow : OpenClaim := { program := "ytbbembhfnapadaadoor", sum := "bc04d5587099b2422383a8dd3348d360976d9cc3b9be530e3eb1078da5826564", func := "sorrel/sorrellaw24.VmKeeps", spec := "vmKeeps", unfollowed := true, recurses := true, named := ["sorrel/runes.letters", "sorrel/runes.zeros"], apart := false, laid := [("sorrel/runes.letters", laid_sorrel_runes_letters), ("sorrel/runes.zeros", laid_sorrel_runes_zeros)] }
def VmKeepsSaid : Prop := vmKeepsRow.holds Tryd.pinned (OpenSpec.ofChange vmKeepsSpec)

/-- ITS FALSE NEIGHBOUR: 'it returns false'. Refute it at one input. -/
def vmKeepsWrong : ChangeSpec := { name := "vmKeeps", fn := fun _ => fun
  | [d1, d2] => { results := [.lit (.bool false)], args := [d1, d2] }
  | _ => none }
def VmKeepsWrongFalsely : Prop := vmKeepsRow.holds Tryd.pinned (OpenSpec.ofChange vmKeepsWrong)

/-- 'sorrellaw23.CodeShares': WHATEVER THE INPUT: true; the input reads as it did. -/
def codeSharesSpec : ChangeSpec := { name := "codeShares", fn := fun _ => fun
  | [d1, d2, d3] => { results := [.lit (.bool true)], args := [d1, d2, d3] }
  | _ => none }
def codeSharesRow : OpenClaim := { program := "ytbbembhfnapadaadoor", sum := "bc04d5587099b2422383a8dd3348d360976d9cc3b9be530e3eb1078da5826564", func := "sorrel/sorrellaw23.CodeShares", spec := "codeShares", recurses := true, named := ["sorrel/runes.letters", "sorrel/runes.zeros", "internal/strconv.uint64pow10", "math/bits.deBruijn32tab", "math/bits.deBruijn64tab"], apart := false, laid := [("math/bits.deBruijn32tab", laid_math_bits_deBruijn32tab), ("math/bits.deBruijn64tab", laid_math_bits_deBruijn64tab), ("internal/strconv.uint64pow10", laid_internal_strconv_uint64pow10), ("sorrel/runes.letters", laid_sorrel_runes_letters), ("sorrel/runes.zeros", laid_sorrel_runes_zeros)] }
def CodeSharesSaid : Prop := codeSharesRow.holds Tryd.pinned (OpenSpec.ofChange codeSharesSpec)

/-- ITS FALSE NEIGHBOUR: 'it returns false'. Refute it at one input. -/
def codeSharesWrong : ChangeSpec := { name := "codeShares", fn := fun _ => fun
  | [d1, d2, d3] => { results := [.lit (.bool false)], args := [d1, d2, d3] }
  | _ => none }
def CodeSharesWrongFalsely : Prop := codeSharesRow.holds Tryd.pinned (OpenSpec.ofChange codeSharesWrong)

/-- 'sorrellaw23.CodeCompiles': WHATEVER THE INPUT: true; the input reads as it did. -/
def codeCompilesSpec : ChangeSpec := { name := "codeCompiles", fn := fun _ => fun
  | [d1, d2] => { results := [.lit (.bool true)], args := [d1, d2] }
  | _ => none }
def codeCompilesRow : OpenClaim := { program := "ytbbembhfnapadaadoor", sum := "bc04d5587099b2422383a8dd3348d360976d9cc3b9be530e3eb1078da5826564", func := "sorrel/sorrellaw23.CodeCompiles", spec := "codeCompiles", unfollowed := true, recurses := true, named := ["sorrel/runes.letters", "sorrel/runes.zeros", "internal/strconv.uint64pow10", "math/bits.deBruijn32tab", "math/bits.deBruijn64tab"], apart := false, laid := [("math/bits.deBruijn32tab", laid_math_bits_deBruijn32tab), ("math/bits.deBruijn64tab", laid_math_bits_deBruijn64tab), ("internal/strconv.uint64pow10", laid_internal_strconv_uint64pow10), ("sorrel/runes.letters", laid_sorrel_runes_letters), ("sorrel/runes.zeros", laid_sorrel_runes_zeros)] }
def CodeCompilesSaid : Prop := codeCompilesRow.holds Tryd.pinned (OpenSpec.ofChange codeCompilesSpec)

/-- ITS FALSE NEIGHBOUR: 'it returns false'. Refute it at one input. -/
def codeCompilesWrong : ChangeSpec := { name := "codeCompiles", fn := fun _ => fun
  | [d1, d2] => { results := [.lit (.bool false)], args := [d1, d2] }
  | _ => none }
def CodeCompilesWrongFalsely : Prop := codeCompilesRow.holds Tryd.pinned (OpenSpec.ofChange codeCompilesWrong)

/-- 'sorrellaw23.CodePlays': WHATEVER THE INPUT: true; the input reads as it did. -/
def codePlaysSpec : ChangeSpec := { name := "codePlays", fn := fun _ => fun
  | [d] => { results := [.lit (.bool true)], args := [d] }
  | _ => none }
def codePlaysRow : OpenClaim := { program := "ytbbembhfnapadaadoor", sum := "bc04d5587099b2422383a8dd3348d360976d9cc3b9be530e3eb1078da5826564", func := "sorrel/sorrellaw23.CodePlays", spec := "codePlays", inPlace := ["internal/abi.NoEscape"], unfollowed := true, recurses := true, named := ["sorrel/runes.letters", "sorrel/runes.zeros", "internal/strconv.uint64pow10", "math/bits.deBruijn32tab", "math/bits.deBruijn64tab", "sorrel/code.words"], apart := false, laid := [("math/bits.deBruijn32tab", laid_math_bits_deBruijn32tab), ("math/bits.deBruijn64tab", laid_math_bits_deBruijn64tab), ("internal/strconv.uint64pow10", laid_internal_strconv_uint64pow10), ("sorrel/runes.letters", laid_sorrel_runes_letters), ("sorrel/runes.zeros", laid_sorrel_runes_zeros), ("sorrel/code.words", laid_sorrel_code_words)] }
def CodePlaysSaid : Prop := codePlaysRow.holds Tryd.pinned (OpenSpec.ofChange codePlaysSpec)

/-- ITS FALSE NEIGHBOUR: 'it returns false'. Refute it at one input. -/
def codePlaysWrong : ChangeSpec := { name := "codePlays", fn := fun _ => fun
  | [d] => { results := [.lit (.bool false)], args := [d] }
  | _ => none }
def CodePlaysWrongFalsely : Prop := codePlaysRow.holds Tryd.pinned (OpenSpec.ofChange codePlaysWrong)

/-- 'sorrellaw24.VmMeans': WHATEVER THE INPUT: true; the input reads as it did. -/
def vmMeansSpec : ChangeSpec := { name := "vmMeans", fn := fun _ => fun
  | [d1, d2] => { results := [.lit (.bool true)], args := [d1, d2] }
  | _ => none }
def vmMeansRow : OpenClaim := { program := "ytbbembhfnapadaadoor", sum := "bc04d5587099b2422383a8dd3348d360976d9cc3b9be530e3eb1078da5826564", func := "sorrel/sorrellaw24.VmMeans", spec := "vmMeans", unfollowed := true, recurses := true, named := ["sorrel/runes.letters", "sorrel/runes.zeros", "internal/strconv.uint64pow10", "math/bits.deBruijn32tab", "math/bits.deBruijn64tab"], apart := false, laid := [("math/bits.deBruijn32tab", laid_math_bits_deBruijn32tab), ("math/bits.deBruijn64tab", laid_math_bits_deBruijn64tab), ("internal/strconv.uint64pow10", laid_internal_strconv_uint64pow10), ("sorrel/runes.letters", laid_sorrel_runes_letters), ("sorrel/runes.zeros", laid_sorrel_runes_zeros)] }
def VmMeansSaid : Prop := vmMeansRow.holds Tryd.pinned (OpenSpec.ofChange vmMeansSpec)

/-- ITS FALSE NEIGHBOUR: 'it returns false'. Refute it at one input. -/
def vmMeansWrong : ChangeSpec := { name := "vmMeans", fn := fun _ => fun
  | [d1, d2] => { results := [.lit (.bool false)], args := [d1, d2] }
  | _ => none }
def VmMeansWrongFalsely : Prop := vmMeansRow.holds Tryd.pinned (OpenSpec.ofChange vmMeansWrong)

/-- 'sorrellaw23.CodeReads': WHATEVER THE INPUT: true; the input reads as it did. -/
def codeReadsSpec : ChangeSpec := { name := "codeReads", fn := fun _ => fun
  | [d] => { results := [.lit (.bool true)], args := [d] }
  | _ => none }
def codeReadsRow : OpenClaim := { program := "ytbbembhfnapadaadoor", sum := "bc04d5587099b2422383a8dd3348d360976d9cc3b9be530e3eb1078da5826564", func := "sorrel/sorrellaw23.CodeReads", spec := "codeReads", inPlace := ["internal/bytealg.IndexByteString", "internal/bytealg.IndexString", "internal/bytealg.CountString"], unfollowed := true, recurses := true, named := ["sorrel/runes.letters", "sorrel/runes.zeros", "internal/strconv.uint64pow10", "math/bits.deBruijn32tab", "math/bits.deBruijn64tab", "internal/bytealg.MaxLen", "unicode/utf8.first", "unicode/utf8.acceptRanges", "sorrel/code.words"], apart := false, laid := [("math/bits.deBruijn32tab", laid_math_bits_deBruijn32tab), ("math/bits.deBruijn64tab", laid_math_bits_deBruijn64tab), ("internal/strconv.uint64pow10", laid_internal_strconv_uint64pow10), ("unicode/utf8.acceptRanges", laid_unicode_utf8_acceptRanges), ("sorrel/runes.letters", laid_sorrel_runes_letters), ("sorrel/runes.zeros", laid_sorrel_runes_zeros), ("sorrel/code.words", laid_sorrel_code_words), ("unicode/utf8.first", laid_unicode_utf8_first)] }
def CodeReadsSaid : Prop := codeReadsRow.holds Tryd.pinned (OpenSpec.ofChange codeReadsSpec)

/-- ITS FALSE NEIGHBOUR: 'it returns false'. Refute it at one input. -/
def codeReadsWrong : ChangeSpec := { name := "codeReads", fn := fun _ => fun
  | [d] => { results := [.lit (.bool false)], args := [d] }
  | _ => none }
def CodeReadsWrongFalsely : Prop := codeReadsRow.holds Tryd.pinned (OpenSpec.ofChange codeReadsWrong)

/-- 'sorrellaw23.CodeBack': WHATEVER THE INPUT: true; the input reads as it did. -/
def codeBackSpec : ChangeSpec := { name := "codeBack", fn := fun _ => fun
  | [d1, d2] => { results := [.lit (.bool true)], args := [d1, d2] }
  | _ => none }
def codeBackRow : OpenClaim := { program := "ytbbembhfnapadaadoor", sum := "bc04d5587099b2422383a8dd3348d360976d9cc3b9be530e3eb1078da5826564", func := "sorrel/sorrellaw23.CodeBack", spec := "codeBack", inPlace := ["internal/abi.NoEscape", "internal/bytealg.IndexByteString", "internal/bytealg.IndexString", "internal/bytealg.CountString"], unfollowed := true, recurses := true, named := ["sorrel/runes.letters", "sorrel/runes.zeros", "internal/strconv.uint64pow10", "math/bits.deBruijn32tab", "math/bits.deBruijn64tab", "sorrel/code.words", "internal/bytealg.MaxLen", "unicode/utf8.first", "unicode/utf8.acceptRanges"], apart := false, laid := [("math/bits.deBruijn32tab", laid_math_bits_deBruijn32tab), ("math/bits.deBruijn64tab", laid_math_bits_deBruijn64tab), ("internal/strconv.uint64pow10", laid_internal_strconv_uint64pow10), ("unicode/utf8.acceptRanges", laid_unicode_utf8_acceptRanges), ("sorrel/runes.letters", laid_sorrel_runes_letters), ("sorrel/runes.zeros", laid_sorrel_runes_zeros), ("sorrel/code.words", laid_sorrel_code_words), ("unicode/utf8.first", laid_unicode_utf8_first)] }
def CodeBackSaid : Prop := codeBackRow.holds Tryd.pinned (OpenSpec.ofChange codeBackSpec)

/-- ITS FALSE NEIGHBOUR: 'it returns false'. Refute it at one input. -/
def codeBackWrong : ChangeSpec := { name := "codeBack", fn := fun _ => fun
  | [d1, d2] => { results := [.lit (.bool false)], args := [d1, d2] }
  | _ => none }
def CodeBackWrongFalsely : Prop := codeBackRow.holds Tryd.pinned (OpenSpec.ofChange codeBackWrong)

/-- 'sorrellaw23.CodeKeeps': WHATEVER THE INPUT: true; the input reads as it did. -/
def codeKeepsSpec : ChangeSpec := { name := "codeKeeps", fn := fun _ => fun
  | [d1, d2, d3] => { results := [.lit (.bool true)], args := [d1, d2, d3] }
  | _ => none }
def codeKeepsRow : OpenClaim := { program := "ytbbembhfnapadaadoor", sum := "bc04d5587099b2422383a8dd3348d360976d9cc3b9be530e3eb1078da5826564", func := "sorrel/sorrellaw23.CodeKeeps", spec := "codeKeeps", inPlace := ["internal/abi.NoEscape", "internal/bytealg.IndexByteString", "internal/bytealg.IndexString", "internal/bytealg.CountString"], unfollowed := true, recurses := true, named := ["sorrel/runes.letters", "sorrel/runes.zeros", "internal/strconv.uint64pow10", "math/bits.deBruijn32tab", "math/bits.deBruijn64tab", "sorrel/code.words", "internal/bytealg.MaxLen", "unicode/utf8.first", "unicode/utf8.acceptRanges"], apart := false, laid := [("math/bits.deBruijn32tab", laid_math_bits_deBruijn32tab), ("math/bits.deBruijn64tab", laid_math_bits_deBruijn64tab), ("internal/strconv.uint64pow10", laid_internal_strconv_uint64pow10), ("unicode/utf8.acceptRanges", laid_unicode_utf8_acceptRanges), ("sorrel/runes.letters", laid_sorrel_runes_letters), ("sorrel/runes.zeros", laid_sorrel_runes_zeros), ("sorrel/code.words", laid_sorrel_code_words), ("unicode/utf8.first", laid_unicode_utf8_first)] }
def CodeKeepsSaid : Prop := codeKeepsRow.holds Tryd.pinned (OpenSpec.ofChange codeKeepsSpec)

/-- ITS FALSE NEIGHBOUR: 'it returns false'. Refute it at one input. -/
def codeKeepsWrong : ChangeSpec := { name := "codeKeeps", fn := fun _ => fun
  | [d1, d2, d3] => { results := [.lit (.bool false)], args := [d1, d2, d3] }
  | _ => none }
def CodeKeepsWrongFalsely : Prop := codeKeepsRow.holds Tryd.pinned (OpenSpec.ofChange codeKeepsWrong)

/- THE SECOND FORM. 'bulk': how many values and letters a reading holds, each counted each time it is reached (what is shared counts as often as it is met; a slice's spare places count too). A statement '..UptoSaid' is the law's where the arguments, and the package variables that the reading takes, are together of bulk at most 1048576: NARROWER than '..Said'. Prove '..Said' where nothing that the law and all that it calls make is longer than what came in: it says more and counts as full. Else prove '..UptoSaid'. A law counts once. -/
mutual
def uptoBulk {H : Type} : DataW H → Nat
  | .lit (.string bytes) => bytes.length + 1
  | .lit _ => 1
  | .nil => 1
  | .ptr d => uptoBulk d + 1
  | .slice elems spare => uptoBulkAll elems + uptoBulkAll spare + 1
  | .agg parts => uptoBulkAll parts + 1
  | .iface _ d => uptoBulk d + 1
  | .map entries => uptoBulkEntries entries + 1
  | .held _ => 1
def uptoBulkAll {H : Type} : List (DataW H) → Nat
  | [] => 0
  | d :: r => uptoBulk d + uptoBulkAll r
def uptoBulkEntries {H : Type} : List (Lit × DataW H) → Nat
  | [] => 0
  | x :: r => uptoBulkEntry x + uptoBulkEntries r
def uptoBulkEntry {H : Type} : Lit × DataW H → Nat
  | (.string bytes, d) => bytes.length + uptoBulk d + 1
  | (_, d) => uptoBulk d + 1
 end
def uptoSmall : (H : Type) → List (DataW H) → Bool := fun _ ds => decide (uptoBulkAll ds ≤ 1048576)
def OpenSpec.upto (s : _root_.Go.ChangeSpec) : _root_.Go.OpenSpec := { _root_.Go.OpenSpec.ofChange s with cond := some uptoSmall }

/-- 'sorrellaw24.VmNames', WHERE WHAT IT READS IS OF BULK AT MOST 1048576: true; the input reads as it did. -/
def vmNamesUptoRow : OpenClaim := { program := "ytbbembhfnapadaadoor", sum := "bc04d5587099b2422383a8dd3348d360976d9cc3b9be530e3eb1078da5826564", func := "sorrel/sorrellaw24.VmNames", spec := "vmNames", unfollowed := true, recurses := true, named := ["sorrel/runes.letters", "sorrel/runes.zeros"], apart := false, laid := [("sorrel/runes.letters", laid_sorrel_runes_letters), ("sorrel/runes.zeros", laid_sorrel_runes_zeros)], narrowed := true }
def VmNamesUptoSaid : Prop := vmNamesUptoRow.holds Tryd.pinned (OpenSpec.upto vmNamesSpec)

/-- 'sorrellaw24.VmPlays', WHERE WHAT IT READS IS OF BULK AT MOST 1048576: true; the input reads as it did. -/
def vmPlaysUptoRow : OpenClaim := { program := "ytbbembhfnapadaadoor", sum := "bc04d5587099b2422383a8dd3348d360976d9cc3b9be530e3eb1078da5826564", func := "sorrel/sorrellaw24.VmPlays", spec := "vmPlays", unfollowed := true, recurses := true, named := ["sorrel/runes.letters", "sorrel/runes.zeros"], apart := false, laid := [("sorrel/runes.letters", laid_sorrel_runes_letters), ("sorrel/runes.zeros", laid_sorrel_runes_zeros)], narrowed := true }
def VmPlaysUptoSaid : Prop := vmPlaysUptoRow.holds Tryd.pinned (OpenSpec.upto vmPlaysSpec)

/-- 'sorrellaw24.VmLast', WHERE WHAT IT READS IS OF BULK AT MOST 1048576: true; the input reads as it did. -/
def vmLastUptoRow : OpenClaim := { program := "ytbbembhfnapadaadoor", sum := "bc04d5587099b2422383a8dd3348d360976d9cc3b9be530e3eb1078da5826564", func := "sorrel/sorrellaw24.VmLast", spec := "vmLast", unfollowed := true, recurses := true, named := ["sorrel/runes.letters", "sorrel/runes.zeros"], apart := false, laid := [("sorrel/runes.letters", laid_sorrel_runes_letters), ("sorrel/runes.zeros", laid_sorrel_runes_zeros)], narrowed := true }
def VmLastUptoSaid : Prop := vmLastUptoRow.holds Tryd.pinned (OpenSpec.upto vmLastSpec)

/-- 'sorrellaw24.VmKeeps', WHERE WHAT IT READS IS OF BULK AT MOST 1048576: true; the input reads as it did. -/
def vmKeepsUptoRow : OpenClaim := { program := "ytbbembhfnapadaadoor", sum := "bc04d5587099b2422383a8dd3348d360976d9cc3b9be530e3eb1078da5826564", func := "sorrel/sorrellaw24.VmKeeps", spec := "vmKeeps", unfollowed := true, recurses := true, named := ["sorrel/runes.letters", "sorrel/runes.zeros"], apart := false, laid := [("sorrel/runes.letters", laid_sorrel_runes_letters), ("sorrel/runes.zeros", laid_sorrel_runes_zeros)], narrowed := true }
def VmKeepsUptoSaid : Prop := vmKeepsUptoRow.holds Tryd.pinned (OpenSpec.upto vmKeepsSpec)

/-- 'sorrellaw23.CodeShares', WHERE WHAT IT READS IS OF BULK AT MOST 1048576: true; the input reads as it did. -/
def codeSharesUptoRow : OpenClaim := { program := "ytbbembhfnapadaadoor", sum := "bc04d5587099b2422383a8dd3348d360976d9cc3b9be530e3eb1078da5826564", func := "sorrel/sorrellaw23.CodeShares", spec := "codeShares", recurses := true, named := ["sorrel/runes.letters", "sorrel/runes.zeros", "internal/strconv.uint64pow10", "math/bits.deBruijn32tab", "math/bits.deBruijn64tab"], apart := false, laid := [("math/bits.deBruijn32tab", laid_math_bits_deBruijn32tab), ("math/bits.deBruijn64tab", laid_math_bits_deBruijn64tab), ("internal/strconv.uint64pow10", laid_internal_strconv_uint64pow10), ("sorrel/runes.letters", laid_sorrel_runes_letters), ("sorrel/runes.zeros", laid_sorrel_runes_zeros)], narrowed := true }
def CodeSharesUptoSaid : Prop := codeSharesUptoRow.holds Tryd.pinned (OpenSpec.upto codeSharesSpec)

/-- 'sorrellaw23.CodeCompiles', WHERE WHAT IT READS IS OF BULK AT MOST 1048576: true; the input reads as it did. -/
def codeCompilesUptoRow : OpenClaim := { program := "ytbbembhfnapadaadoor", sum := "bc04d5587099b2422383a8dd3348d360976d9cc3b9be530e3eb1078da5826564", func := "sorrel/sorrellaw23.CodeCompiles", spec := "codeCompiles", unfollowed := true, recurses := true, named := ["sorrel/runes.letters", "sorrel/runes.zeros", "internal/strconv.uint64pow10", "math/bits.deBruijn32tab", "math/bits.deBruijn64tab"], apart := false, laid := [("math/bits.deBruijn32tab", laid_math_bits_deBruijn32tab), ("math/bits.deBruijn64tab", laid_math_bits_deBruijn64tab), ("internal/strconv.uint64pow10", laid_internal_strconv_uint64pow10), ("sorrel/runes.letters", laid_sorrel_runes_letters), ("sorrel/runes.zeros", laid_sorrel_runes_zeros)], narrowed := true }
def CodeCompilesUptoSaid : Prop := codeCompilesUptoRow.holds Tryd.pinned (OpenSpec.upto codeCompilesSpec)

/-- 'sorrellaw23.CodePlays', WHERE WHAT IT READS IS OF BULK AT MOST 1048576: true; the input reads as it did. -/
def codePlaysUptoRow : OpenClaim := { program := "ytbbembhfnapadaadoor", sum := "bc04d5587099b2422383a8dd3348d360976d9cc3b9be530e3eb1078da5826564", func := "sorrel/sorrellaw23.CodePlays", spec := "codePlays", inPlace := ["internal/abi.NoEscape"], unfollowed := true, recurses := true, named := ["sorrel/runes.letters", "sorrel/runes.zeros", "internal/strconv.uint64pow10", "math/bits.deBruijn32tab", "math/bits.deBruijn64tab", "sorrel/code.words"], apart := false, laid := [("math/bits.deBruijn32tab", laid_math_bits_deBruijn32tab), ("math/bits.deBruijn64tab", laid_math_bits_deBruijn64tab), ("internal/strconv.uint64pow10", laid_internal_strconv_uint64pow10), ("sorrel/runes.letters", laid_sorrel_runes_letters), ("sorrel/runes.zeros", laid_sorrel_runes_zeros), ("sorrel/code.words", laid_sorrel_code_words)], narrowed := true }
def CodePlaysUptoSaid : Prop := codePlaysUptoRow.holds Tryd.pinned (OpenSpec.upto codePlaysSpec)

/-- 'sorrellaw24.VmMeans', WHERE WHAT IT READS IS OF BULK AT MOST 1048576: true; the input reads as it did. -/
def vmMeansUptoRow : OpenClaim := { program := "ytbbembhfnapadaadoor", sum := "bc04d5587099b2422383a8dd3348d360976d9cc3b9be530e3eb1078da5826564", func := "sorrel/sorrellaw24.VmMeans", spec := "vmMeans", unfollowed := true, recurses := true, named := ["sorrel/runes.letters", "sorrel/runes.zeros", "internal/strconv.uint64pow10", "math/bits.deBruijn32tab", "math/bits.deBruijn64tab"], apart := false, laid := [("math/bits.deBruijn32tab", laid_math_bits_deBruijn32tab), ("math/bits.deBruijn64tab", laid_math_bits_deBruijn64tab), ("internal/strconv.uint64pow10", laid_internal_strconv_uint64pow10), ("sorrel/runes.letters", laid_sorrel_runes_letters), ("sorrel/runes.zeros", laid_sorrel_runes_zeros)], narrowed := true }
def VmMeansUptoSaid : Prop := vmMeansUptoRow.holds Tryd.pinned (OpenSpec.upto vmMeansSpec)

/-- 'sorrellaw23.CodeReads', WHERE WHAT IT READS IS OF BULK AT MOST 1048576: true; the input reads as it did. -/
def codeReadsUptoRow : OpenClaim := { program := "ytbbembhfnapadaadoor", sum := "bc04d5587099b2422383a8dd3348d360976d9cc3b9be530e3eb1078da5826564", func := "sorrel/sorrellaw23.CodeReads", spec := "codeReads", inPlace := ["internal/bytealg.IndexByteString", "internal/bytealg.IndexString", "internal/bytealg.CountString"], unfollowed := true, recurses := true, named := ["sorrel/runes.letters", "sorrel/runes.zeros", "internal/strconv.uint64pow10", "math/bits.deBruijn32tab", "math/bits.deBruijn64tab", "internal/bytealg.MaxLen", "unicode/utf8.first", "unicode/utf8.acceptRanges", "sorrel/code.words"], apart := false, laid := [("math/bits.deBruijn32tab", laid_math_bits_deBruijn32tab), ("math/bits.deBruijn64tab", laid_math_bits_deBruijn64tab), ("internal/strconv.uint64pow10", laid_internal_strconv_uint64pow10), ("unicode/utf8.acceptRanges", laid_unicode_utf8_acceptRanges), ("sorrel/runes.letters", laid_sorrel_runes_letters), ("sorrel/runes.zeros", laid_sorrel_runes_zeros), ("sorrel/code.words", laid_sorrel_code_words), ("unicode/utf8.first", laid_unicode_utf8_first)], narrowed := true }
def CodeReadsUptoSaid : Prop := codeReadsUptoRow.holds Tryd.pinned (OpenSpec.upto codeReadsSpec)

/-- 'sorrellaw23.CodeBack', WHERE WHAT IT READS IS OF BULK AT MOST 1048576: true; the input reads as it did. -/
def codeBackUptoRow : OpenClaim := { program := "ytbbembhfnapadaadoor", sum := "bc04d5587099b2422383a8dd3348d360976d9cc3b9be530e3eb1078da5826564", func := "sorrel/sorrellaw23.CodeBack", spec := "codeBack", inPlace := ["internal/abi.NoEscape", "internal/bytealg.IndexByteString", "internal/bytealg.IndexString", "internal/bytealg.CountString"], unfollowed := true, recurses := true, named := ["sorrel/runes.letters", "sorrel/runes.zeros", "internal/strconv.uint64pow10", "math/bits.deBruijn32tab", "math/bits.deBruijn64tab", "sorrel/code.words", "internal/bytealg.MaxLen", "unicode/utf8.first", "unicode/utf8.acceptRanges"], apart := false, laid := [("math/bits.deBruijn32tab", laid_math_bits_deBruijn32tab), ("math/bits.deBruijn64tab", laid_math_bits_deBruijn64tab), ("internal/strconv.uint64pow10", laid_internal_strconv_uint64pow10), ("unicode/utf8.acceptRanges", laid_unicode_utf8_acceptRanges), ("sorrel/runes.letters", laid_sorrel_runes_letters), ("sorrel/runes.zeros", laid_sorrel_runes_zeros), ("sorrel/code.words", laid_sorrel_code_words), ("unicode/utf8.first", laid_unicode_utf8_first)], narrowed := true }
def CodeBackUptoSaid : Prop := codeBackUptoRow.holds Tryd.pinned (OpenSpec.upto codeBackSpec)

/-- 'sorrellaw23.CodeKeeps', WHERE WHAT IT READS IS OF BULK AT MOST 1048576: true; the input reads as it did. -/
def codeKeepsUptoRow : OpenClaim := { program := "ytbbembhfnapadaadoor", sum := "bc04d5587099b2422383a8dd3348d360976d9cc3b9be530e3eb1078da5826564", func := "sorrel/sorrellaw23.CodeKeeps", spec := "codeKeeps", inPlace := ["internal/abi.NoEscape", "internal/bytealg.IndexByteString", "internal/bytealg.IndexString", "internal/bytealg.CountString"], unfollowed := true, recurses := true, named := ["sorrel/runes.letters", "sorrel/runes.zeros", "internal/strconv.uint64pow10", "math/bits.deBruijn32tab", "math/bits.deBruijn64tab", "sorrel/code.words", "internal/bytealg.MaxLen", "unicode/utf8.first", "unicode/utf8.acceptRanges"], apart := false, laid := [("math/bits.deBruijn32tab", laid_math_bits_deBruijn32tab), ("math/bits.deBruijn64tab", laid_math_bits_deBruijn64tab), ("internal/strconv.uint64pow10", laid_internal_strconv_uint64pow10), ("unicode/utf8.acceptRanges", laid_unicode_utf8_acceptRanges), ("sorrel/runes.letters", laid_sorrel_runes_letters), ("sorrel/runes.zeros", laid_sorrel_runes_zeros), ("sorrel/code.words", laid_sorrel_code_words), ("unicode/utf8.first", laid_unicode_utf8_first)], narrowed := true }
def CodeKeepsUptoSaid : Prop := codeKeepsUptoRow.holds Tryd.pinned (OpenSpec.upto codeKeepsSpec)

end Rows
end Go.Proofs.YtbbembhfnapadaaDoor
