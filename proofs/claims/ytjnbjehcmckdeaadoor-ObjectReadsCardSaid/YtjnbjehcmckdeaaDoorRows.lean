/-
  NARROWER THAN 'FOR EVERY INPUT', by the rows' own cells (each row's printed sentence says how): ObjectKeys: laid · ObjectFinds: loops, laid · ObjectReads: loops, laid · ScalarBares: laid · ScalarWords: loops, laid · ScalarNumbers: laid · PathWords: laid · ScalarQuotes: laid · ScalarBack: loops, laid.
  DERIVED. THE GIVEN ROWS OF THIS SEAT. 9 by the template 'for every input the law returns true; each argument reads behind the call as it read before'; 0 by the template 'total and deterministic' (their statements: YtjnbjehcmckdeaaDoorTotals.lean).
  GIVEN WITH THE SEED: the statements are not yours to turn. If you find one false, say at which input.
  Laid BY PROGRAM, IN A SANDBOX (cutbox-rows.mjs): the forced cells as the released guide's own fill.sh prints them over the translation e3b30e402f3a169b… (all of the seat's roots in one cut). By AI agents, Wed Nov 11 2026. No macro, syntax, notation, axiom, sorry.
-/
import Derived.Test.YtjnbjehcmckdeaaDoorChecked
import GoSem.PinnedTables
import GoSem.Claim
import GoSem.ClaimJoined
import GoSem.ClaimMapViews
import Derived.JoinedTies
import Derived.KernelRfl
namespace Go.Proofs.YtjnbjehcmckdeaaDoor
/- THE CELL 'sum', in the pinned program and in every row, IS THE sha256 OF THE DUMP (.gsa) THAT YtjnbjehcmckdeaaDoorProg.lean LOADS. Nothing in Lean hashes anything: it is a label: what it is worth is what the hold of that sum in a sandbox is worth. -/
noncomputable def Tryd.pinned : Pinned := { name := "ytjnbjehcmckdeaadoor", sum := "e3b30e402f3a169b7a73c8e1c91663857937b5163aeeab5805464261b9d391e8", checked := Tryd.checked }
namespace Rows
def none {H : Type} : Left H := { results := [], args := [] }

/- WHAT THE LISTED PACKAGE-LEVEL VARIABLES READ AS WHEN THE CALL BEGINS. Each datum BY PROGRAM (the guide's laid-datum.mjs) off the statement by which the dump's own 'gosem.cut.vars' lays the variable. In a bare row this is a premise. The card (YtjnbjehcmckdeaaDoorCards.lean) ties it to the program's text. -/
def laid_mizzen_object_order {H : Type} : DataW H := .agg [.lit (.string [78, 97, 109, 101, 115, 112, 97, 99, 101]), .lit (.string [83, 101, 99, 114, 101, 116]), .lit (.string [67, 111, 110, 102, 105, 103, 77, 97, 112]), .lit (.string [86, 111, 108, 117, 109, 101]), .lit (.string [65, 99, 99, 111, 117, 110, 116]), .lit (.string [82, 111, 108, 101]), .lit (.string [83, 101, 114, 118, 105, 99, 101]), .lit (.string [68, 101, 112, 108, 111, 121, 109, 101, 110, 116]), .lit (.string [74, 111, 98]), .lit (.string [73, 110, 103, 114, 101, 115, 115])]
def laid_unicode_utf8_acceptRanges {H : Type} : DataW H := .agg [.agg [.lit (.int .u8 128), .lit (.int .u8 191)], .agg [.lit (.int .u8 160), .lit (.int .u8 191)], .agg [.lit (.int .u8 128), .lit (.int .u8 159)], .agg [.lit (.int .u8 144), .lit (.int .u8 191)], .agg [.lit (.int .u8 128), .lit (.int .u8 143)], .agg [.lit (.int .u8 0), .lit (.int .u8 0)], .agg [.lit (.int .u8 0), .lit (.int .u8 0)], .agg [.lit (.int .u8 0), .lit (.int .u8 0)], .agg [.lit (.int .u8 0), .lit (.int .u8 0)], .agg [.lit (.int .u8 0), .lit (.int .u8 0)], .agg [.lit (.int .u8 0), .lit (.int .u8 0)], .agg [.lit (.int .u8 0), .lit (.int .u8 0)], .agg [.lit (.int .u8 0), .lit (.int .u8 0)], .agg [.lit (.int .u8 0), .lit (.int .u8 0)], .agg [.lit (.int .u8 0), .lit (.int .u8 0)], .agg [.lit (.int .u8 0), .lit (.int .u8 0)]]
/-- One of Go's own tables, pinned by name: the form's constant. -/
def laid_unicode_utf8_first : DataW Unit := Go.Pinned.utf8First
def laid_math_bits_deBruijn32tab {H : Type} : DataW H := .agg [.lit (.int .u8 0), .lit (.int .u8 1), .lit (.int .u8 28), .lit (.int .u8 2), .lit (.int .u8 29), .lit (.int .u8 14), .lit (.int .u8 24), .lit (.int .u8 3), .lit (.int .u8 30), .lit (.int .u8 22), .lit (.int .u8 20), .lit (.int .u8 15), .lit (.int .u8 25), .lit (.int .u8 17), .lit (.int .u8 4), .lit (.int .u8 8), .lit (.int .u8 31), .lit (.int .u8 27), .lit (.int .u8 13), .lit (.int .u8 23), .lit (.int .u8 21), .lit (.int .u8 19), .lit (.int .u8 16), .lit (.int .u8 7), .lit (.int .u8 26), .lit (.int .u8 12), .lit (.int .u8 18), .lit (.int .u8 6), .lit (.int .u8 11), .lit (.int .u8 5), .lit (.int .u8 10), .lit (.int .u8 9)]
def laid_math_bits_deBruijn64tab {H : Type} : DataW H := .agg [.lit (.int .u8 0), .lit (.int .u8 1), .lit (.int .u8 56), .lit (.int .u8 2), .lit (.int .u8 57), .lit (.int .u8 49), .lit (.int .u8 28), .lit (.int .u8 3), .lit (.int .u8 61), .lit (.int .u8 58), .lit (.int .u8 42), .lit (.int .u8 50), .lit (.int .u8 38), .lit (.int .u8 29), .lit (.int .u8 17), .lit (.int .u8 4), .lit (.int .u8 62), .lit (.int .u8 47), .lit (.int .u8 59), .lit (.int .u8 36), .lit (.int .u8 45), .lit (.int .u8 43), .lit (.int .u8 51), .lit (.int .u8 22), .lit (.int .u8 53), .lit (.int .u8 39), .lit (.int .u8 33), .lit (.int .u8 30), .lit (.int .u8 24), .lit (.int .u8 18), .lit (.int .u8 12), .lit (.int .u8 5), .lit (.int .u8 63), .lit (.int .u8 55), .lit (.int .u8 48), .lit (.int .u8 27), .lit (.int .u8 60), .lit (.int .u8 41), .lit (.int .u8 37), .lit (.int .u8 16), .lit (.int .u8 46), .lit (.int .u8 35), .lit (.int .u8 44), .lit (.int .u8 21), .lit (.int .u8 52), .lit (.int .u8 32), .lit (.int .u8 23), .lit (.int .u8 11), .lit (.int .u8 54), .lit (.int .u8 26), .lit (.int .u8 40), .lit (.int .u8 15), .lit (.int .u8 34), .lit (.int .u8 20), .lit (.int .u8 31), .lit (.int .u8 10), .lit (.int .u8 25), .lit (.int .u8 14), .lit (.int .u8 19), .lit (.int .u8 9), .lit (.int .u8 13), .lit (.int .u8 8), .lit (.int .u8 7), .lit (.int .u8 6)]
def laid_internal_strconv_uint64pow10 {H : Type} : DataW H := .agg [.lit (.int .u64 1), .lit (.int .u64 10), .lit (.int .u64 100), .lit (.int .u64 1000), .lit (.int .u64 10000), .lit (.int .u64 100000), .lit (.int .u64 1000000), .lit (.int .u64 10000000), .lit (.int .u64 100000000), .lit (.int .u64 1000000000), .lit (.int .u64 10000000000), .lit (.int .u64 100000000000), .lit (.int .u64 1000000000000), .lit (.int .u64 10000000000000), .lit (.int .u64 100000000000000), .lit (.int .u64 1000000000000000), .lit (.int .u64 10000000000000000), .lit (.int .u64 100000000000000000), .lit (.int .u64 1000000000000000000), .lit (.int .u64 10000000000000000000)]
def laid_strconv_ErrRange {H : Type} : DataW H := .iface "*errors.errorString" (.ptr (.agg [.lit (.string [118, 97, 108, 117, 101, 32, 111, 117, 116, 32, 111, 102, 32, 114, 97, 110, 103, 101])]))
def laid_strconv_ErrSyntax {H : Type} : DataW H := .iface "*errors.errorString" (.ptr (.agg [.lit (.string [105, 110, 118, 97, 108, 105, 100, 32, 115, 121, 110, 116, 97, 120])]))

/-- 'mizzenlaw12.ObjectKeys': WHATEVER THE INPUT: true; the input reads as it did. -/
def objectKeysSpec : ChangeSpec := { name := "objectKeys", fn := fun _ => fun
  | [d1, d2] => { results := [.lit (.bool true)], args := [d1, d2] }
  | _ => none }
def objectKeysRow : OpenClaim := { program := "ytjnbjehcmckdeaadoor", sum := "e3b30e402f3a169b7a73c8e1c91663857937b5163aeeab5805464261b9d391e8", func := "mizzen/mizzenlaw12.ObjectKeys", spec := "objectKeys", inPlace := ["internal/bytealg.IndexByteString", "internal/bytealg.IndexString", "internal/bytealg.abigen_runtime_cmpstring"], unfollowed := true, recurses := true, named := ["internal/bytealg.MaxLen", "mizzen/object.order"], apart := false, laid := [("mizzen/object.order", laid_mizzen_object_order)] }
def ObjectKeysSaid : Prop := objectKeysRow.holds Tryd.pinned (OpenSpec.ofChange objectKeysSpec)

/-- ITS FALSE NEIGHBOUR: 'it returns false'. Refute it at one input. -/
def objectKeysWrong : ChangeSpec := { name := "objectKeys", fn := fun _ => fun
  | [d1, d2] => { results := [.lit (.bool false)], args := [d1, d2] }
  | _ => none }
def ObjectKeysWrongFalsely : Prop := objectKeysRow.holds Tryd.pinned (OpenSpec.ofChange objectKeysWrong)

/-- 'mizzenlaw12.ObjectFinds': WHATEVER THE INPUT: true; the input reads as it did. -/
def objectFindsSpec : ChangeSpec := { name := "objectFinds", fn := fun _ => fun
  | [d] => { results := [.lit (.bool true)], args := [d] }
  | _ => none }
def objectFindsRow : OpenClaim := { program := "ytjnbjehcmckdeaadoor", sum := "e3b30e402f3a169b7a73c8e1c91663857937b5163aeeab5805464261b9d391e8", func := "mizzen/mizzenlaw12.ObjectFinds", spec := "objectFinds", inPlace := ["internal/bytealg.IndexByteString", "internal/bytealg.IndexString", "internal/bytealg.abigen_runtime_cmpstring", "slices.overlaps[mizzen/api.Object]"], unfollowed := true, recurses := true, named := ["internal/bytealg.MaxLen", "mizzen/object.order"], loops := true, apart := false, laid := [("mizzen/object.order", laid_mizzen_object_order)] }
def ObjectFindsSaid : Prop := objectFindsRow.holds Tryd.pinned (OpenSpec.ofChange objectFindsSpec)

/-- ITS FALSE NEIGHBOUR: 'it returns false'. Refute it at one input. -/
def objectFindsWrong : ChangeSpec := { name := "objectFinds", fn := fun _ => fun
  | [d] => { results := [.lit (.bool false)], args := [d] }
  | _ => none }
def ObjectFindsWrongFalsely : Prop := objectFindsRow.holds Tryd.pinned (OpenSpec.ofChange objectFindsWrong)

/-- 'mizzenlaw12.ObjectReads': WHATEVER THE INPUT: true; the input reads as it did. -/
def objectReadsSpec : ChangeSpec := { name := "objectReads", fn := fun _ => fun
  | [d1, d2] => { results := [.lit (.bool true)], args := [d1, d2] }
  | _ => none }
def objectReadsRow : OpenClaim := { program := "ytjnbjehcmckdeaadoor", sum := "e3b30e402f3a169b7a73c8e1c91663857937b5163aeeab5805464261b9d391e8", func := "mizzen/mizzenlaw12.ObjectReads", spec := "objectReads", inPlace := ["internal/bytealg.IndexByteString", "internal/bytealg.IndexString", "internal/bytealg.abigen_runtime_cmpstring", "internal/bytealg.CountString"], unfollowed := true, recurses := true, named := ["internal/bytealg.MaxLen", "mizzen/object.order", "unicode/utf8.first", "unicode/utf8.acceptRanges"], loops := true, apart := false, laid := [("unicode/utf8.acceptRanges", laid_unicode_utf8_acceptRanges), ("mizzen/object.order", laid_mizzen_object_order), ("unicode/utf8.first", laid_unicode_utf8_first)] }
def ObjectReadsSaid : Prop := objectReadsRow.holds Tryd.pinned (OpenSpec.ofChange objectReadsSpec)

/-- ITS FALSE NEIGHBOUR: 'it returns false'. Refute it at one input. -/
def objectReadsWrong : ChangeSpec := { name := "objectReads", fn := fun _ => fun
  | [d1, d2] => { results := [.lit (.bool false)], args := [d1, d2] }
  | _ => none }
def ObjectReadsWrongFalsely : Prop := objectReadsRow.holds Tryd.pinned (OpenSpec.ofChange objectReadsWrong)

/-- 'mizzenlaw04.ScalarBares': WHATEVER THE INPUT: true; the input reads as it did. -/
def scalarBaresSpec : ChangeSpec := { name := "scalarBares", fn := fun _ => fun
  | [d1, d2] => { results := [.lit (.bool true)], args := [d1, d2] }
  | _ => none }
def scalarBaresRow : OpenClaim := { program := "ytjnbjehcmckdeaadoor", sum := "e3b30e402f3a169b7a73c8e1c91663857937b5163aeeab5805464261b9d391e8", func := "mizzen/mizzenlaw04.ScalarBares", spec := "scalarBares", inPlace := ["internal/bytealg.IndexByteString", "internal/abi.NoEscape"], named := ["strconv.ErrSyntax", "strconv.ErrRange", "internal/strconv.uint64pow10", "math/bits.deBruijn32tab", "math/bits.deBruijn64tab"], apart := false, laid := [("math/bits.deBruijn32tab", laid_math_bits_deBruijn32tab), ("math/bits.deBruijn64tab", laid_math_bits_deBruijn64tab), ("internal/strconv.uint64pow10", laid_internal_strconv_uint64pow10), ("strconv.ErrRange", laid_strconv_ErrRange), ("strconv.ErrSyntax", laid_strconv_ErrSyntax)] }
def ScalarBaresSaid : Prop := scalarBaresRow.holds Tryd.pinned (OpenSpec.ofChange scalarBaresSpec)

/-- ITS FALSE NEIGHBOUR: 'it returns false'. Refute it at one input. -/
def scalarBaresWrong : ChangeSpec := { name := "scalarBares", fn := fun _ => fun
  | [d1, d2] => { results := [.lit (.bool false)], args := [d1, d2] }
  | _ => none }
def ScalarBaresWrongFalsely : Prop := scalarBaresRow.holds Tryd.pinned (OpenSpec.ofChange scalarBaresWrong)

/-- 'mizzenlaw04.ScalarWords': WHATEVER THE INPUT: true; the input reads as it did. -/
def scalarWordsSpec : ChangeSpec := { name := "scalarWords", fn := fun _ => fun
  | [d1, d2] => { results := [.lit (.bool true)], args := [d1, d2] }
  | _ => none }
def scalarWordsRow : OpenClaim := { program := "ytjnbjehcmckdeaadoor", sum := "e3b30e402f3a169b7a73c8e1c91663857937b5163aeeab5805464261b9d391e8", func := "mizzen/mizzenlaw04.ScalarWords", spec := "scalarWords", inPlace := ["internal/bytealg.IndexByteString", "internal/abi.NoEscape"], recurses := true, named := ["strconv.ErrSyntax", "strconv.ErrRange", "internal/strconv.uint64pow10", "math/bits.deBruijn32tab", "math/bits.deBruijn64tab"], loops := true, apart := false, laid := [("math/bits.deBruijn32tab", laid_math_bits_deBruijn32tab), ("math/bits.deBruijn64tab", laid_math_bits_deBruijn64tab), ("internal/strconv.uint64pow10", laid_internal_strconv_uint64pow10), ("strconv.ErrRange", laid_strconv_ErrRange), ("strconv.ErrSyntax", laid_strconv_ErrSyntax)] }
def ScalarWordsSaid : Prop := scalarWordsRow.holds Tryd.pinned (OpenSpec.ofChange scalarWordsSpec)

/-- ITS FALSE NEIGHBOUR: 'it returns false'. Refute it at one input. -/
def scalarWordsWrong : ChangeSpec := { name := "scalarWords", fn := fun _ => fun
  | [d1, d2] => { results := [.lit (.bool false)], args := [d1, d2] }
  | _ => none }
def ScalarWordsWrongFalsely : Prop := scalarWordsRow.holds Tryd.pinned (OpenSpec.ofChange scalarWordsWrong)

/-- 'mizzenlaw04.ScalarNumbers': WHATEVER THE INPUT: true; the input reads as it did. -/
def scalarNumbersSpec : ChangeSpec := { name := "scalarNumbers", fn := fun _ => fun
  | [d1, d2] => { results := [.lit (.bool true)], args := [d1, d2] }
  | _ => none }
def scalarNumbersRow : OpenClaim := { program := "ytjnbjehcmckdeaadoor", sum := "e3b30e402f3a169b7a73c8e1c91663857937b5163aeeab5805464261b9d391e8", func := "mizzen/mizzenlaw04.ScalarNumbers", spec := "scalarNumbers", inPlace := ["internal/bytealg.IndexByteString", "internal/abi.NoEscape"], named := ["internal/strconv.uint64pow10", "math/bits.deBruijn32tab", "math/bits.deBruijn64tab", "strconv.ErrSyntax", "strconv.ErrRange"], apart := false, laid := [("math/bits.deBruijn32tab", laid_math_bits_deBruijn32tab), ("math/bits.deBruijn64tab", laid_math_bits_deBruijn64tab), ("internal/strconv.uint64pow10", laid_internal_strconv_uint64pow10), ("strconv.ErrRange", laid_strconv_ErrRange), ("strconv.ErrSyntax", laid_strconv_ErrSyntax)] }
def ScalarNumbersSaid : Prop := scalarNumbersRow.holds Tryd.pinned (OpenSpec.ofChange scalarNumbersSpec)

/-- ITS FALSE NEIGHBOUR: 'it returns false'. Refute it at one input. -/
def scalarNumbersWrong : ChangeSpec := { name := "scalarNumbers", fn := fun _ => fun
  | [d1, d2] => { results := [.lit (.bool false)], args := [d1, d2] }
  | _ => none }
def ScalarNumbersWrongFalsely : Prop := scalarNumbersRow.holds Tryd.pinned (OpenSpec.ofChange scalarNumbersWrong)

/-- 'mizzenlaw02.PathWords': WHATEVER THE INPUT: true; the input reads as it did. -/
def pathWordsSpec : ChangeSpec := { name := "pathWords", fn := fun _ => fun
  | [d1, d2, d3] => { results := [.lit (.bool true)], args := [d1, d2, d3] }
  | _ => none }
def pathWordsRow : OpenClaim := { program := "ytjnbjehcmckdeaadoor", sum := "e3b30e402f3a169b7a73c8e1c91663857937b5163aeeab5805464261b9d391e8", func := "mizzen/mizzenlaw02.PathWords", spec := "pathWords", inPlace := ["internal/bytealg.abigen_runtime_cmpstring", "slices.overlaps[mizzen/api.Pair]", "internal/bytealg.CountString", "internal/bytealg.IndexByteString", "internal/bytealg.IndexString", "internal/abi.NoEscape", "internal/bytealg.MakeNoZero"], unfollowed := true, recurses := true, named := ["unicode/utf8.first", "unicode/utf8.acceptRanges", "internal/bytealg.MaxLen"], apart := false, laid := [("unicode/utf8.acceptRanges", laid_unicode_utf8_acceptRanges), ("unicode/utf8.first", laid_unicode_utf8_first)] }
def PathWordsSaid : Prop := pathWordsRow.holds Tryd.pinned (OpenSpec.ofChange pathWordsSpec)

/-- ITS FALSE NEIGHBOUR: 'it returns false'. Refute it at one input. -/
def pathWordsWrong : ChangeSpec := { name := "pathWords", fn := fun _ => fun
  | [d1, d2, d3] => { results := [.lit (.bool false)], args := [d1, d2, d3] }
  | _ => none }
def PathWordsWrongFalsely : Prop := pathWordsRow.holds Tryd.pinned (OpenSpec.ofChange pathWordsWrong)

/-- 'mizzenlaw04.ScalarQuotes': WHATEVER THE INPUT: true; the input reads as it did. -/
def scalarQuotesSpec : ChangeSpec := { name := "scalarQuotes", fn := fun _ => fun
  | [d1, d2] => { results := [.lit (.bool true)], args := [d1, d2] }
  | _ => none }
def scalarQuotesRow : OpenClaim := { program := "ytjnbjehcmckdeaadoor", sum := "e3b30e402f3a169b7a73c8e1c91663857937b5163aeeab5805464261b9d391e8", func := "mizzen/mizzenlaw04.ScalarQuotes", spec := "scalarQuotes", inPlace := ["internal/bytealg.IndexByteString", "internal/abi.NoEscape"], named := ["strconv.ErrSyntax", "strconv.ErrRange", "internal/strconv.uint64pow10", "math/bits.deBruijn32tab", "math/bits.deBruijn64tab"], apart := false, laid := [("math/bits.deBruijn32tab", laid_math_bits_deBruijn32tab), ("math/bits.deBruijn64tab", laid_math_bits_deBruijn64tab), ("internal/strconv.uint64pow10", laid_internal_strconv_uint64pow10), ("strconv.ErrRange", laid_strconv_ErrRange), ("strconv.ErrSyntax", laid_strconv_ErrSyntax)] }
def ScalarQuotesSaid : Prop := scalarQuotesRow.holds Tryd.pinned (OpenSpec.ofChange scalarQuotesSpec)

/-- ITS FALSE NEIGHBOUR: 'it returns false'. Refute it at one input. -/
def scalarQuotesWrong : ChangeSpec := { name := "scalarQuotes", fn := fun _ => fun
  | [d1, d2] => { results := [.lit (.bool false)], args := [d1, d2] }
  | _ => none }
def ScalarQuotesWrongFalsely : Prop := scalarQuotesRow.holds Tryd.pinned (OpenSpec.ofChange scalarQuotesWrong)

/-- 'mizzenlaw04.ScalarBack': WHATEVER THE INPUT: true; the input reads as it did. -/
def scalarBackSpec : ChangeSpec := { name := "scalarBack", fn := fun _ => fun
  | [d] => { results := [.lit (.bool true)], args := [d] }
  | _ => none }
def scalarBackRow : OpenClaim := { program := "ytjnbjehcmckdeaadoor", sum := "e3b30e402f3a169b7a73c8e1c91663857937b5163aeeab5805464261b9d391e8", func := "mizzen/mizzenlaw04.ScalarBack", spec := "scalarBack", inPlace := ["internal/bytealg.IndexByteString", "internal/abi.NoEscape"], recurses := true, named := ["strconv.ErrSyntax", "strconv.ErrRange", "internal/strconv.uint64pow10", "math/bits.deBruijn32tab", "math/bits.deBruijn64tab"], loops := true, apart := false, laid := [("math/bits.deBruijn32tab", laid_math_bits_deBruijn32tab), ("math/bits.deBruijn64tab", laid_math_bits_deBruijn64tab), ("internal/strconv.uint64pow10", laid_internal_strconv_uint64pow10), ("strconv.ErrRange", laid_strconv_ErrRange), ("strconv.ErrSyntax", laid_strconv_ErrSyntax)] }
def ScalarBackSaid : Prop := scalarBackRow.holds Tryd.pinned (OpenSpec.ofChange scalarBackSpec)

/-- ITS FALSE NEIGHBOUR: 'it returns false'. Refute it at one input. -/
def scalarBackWrong : ChangeSpec := { name := "scalarBack", fn := fun _ => fun
  | [d] => { results := [.lit (.bool false)], args := [d] }
  | _ => none }
def ScalarBackWrongFalsely : Prop := scalarBackRow.holds Tryd.pinned (OpenSpec.ofChange scalarBackWrong)

/- THE SECOND FORM. 'bulk': how many values and letters a reading holds, each counted each time it is reached (what is shared counts as often as it is met; a slice's spare places count too). A statement '..UptoSaid' is the law's where the arguments, and the package variables that the reading takes, are together of bulk at most 1048576: NARROWER than '..Said'. Prove '..Said' where nothing that the law and all that it calls make is longer than what came in: it says more and counts as full. Else prove '..UptoSaid'. A law counts once. -/
mutual
def uptoBulk {H : Type} : DataW H → Nat
  | .lit (.string bytes) => bytes.length + 1
  | .lit _ => 1
  | .nil => 1
  | .ptr d => uptoBulk d + 1
  | .slice elems spare => uptoBulkAll elems + uptoBulkAll spare + 1
  | .agg parts => uptoBulkAll parts + 1
  | .iface _ d => uptoBulk d + 1
  | .map entries => uptoBulkEntries entries + 1
  | .held _ => 1
def uptoBulkAll {H : Type} : List (DataW H) → Nat
  | [] => 0
  | d :: r => uptoBulk d + uptoBulkAll r
def uptoBulkEntries {H : Type} : List (Lit × DataW H) → Nat
  | [] => 0
  | x :: r => uptoBulkEntry x + uptoBulkEntries r
def uptoBulkEntry {H : Type} : Lit × DataW H → Nat
  | (.string bytes, d) => bytes.length + uptoBulk d + 1
  | (_, d) => uptoBulk d + 1
 end
def uptoSmall : (H : Type) → List (DataW H) → Bool := fun _ ds => decide (uptoBulkAll ds ≤ 1048576)
def OpenSpec.upto (s : _root_.Go.ChangeSpec) : _root_.Go.OpenSpec := { _root_.Go.OpenSpec.ofChange s with cond := some uptoSmall }

/-- 'mizzenlaw12.ObjectKeys', WHERE WHAT IT READS IS OF BULK AT MOST 1048576: true; the input reads as it did. -/
def objectKeysUptoRow : OpenClaim := { program := "ytjnbjehcmckdeaadoor", sum := "e3b30e402f3a169b7a73c8e1c91663857937b5163aeeab5805464261b9d391e8", func := "mizzen/mizzenlaw12.ObjectKeys", spec := "objectKeys", inPlace := ["internal/bytealg.IndexByteString", "internal/bytealg.IndexString", "internal/bytealg.abigen_runtime_cmpstring"], unfollowed := true, recurses := true, named := ["internal/bytealg.MaxLen", "mizzen/object.order"], apart := false, laid := [("mizzen/object.order", laid_mizzen_object_order)], narrowed := true }
def ObjectKeysUptoSaid : Prop := objectKeysUptoRow.holds Tryd.pinned (OpenSpec.upto objectKeysSpec)

/-- 'mizzenlaw12.ObjectFinds', WHERE WHAT IT READS IS OF BULK AT MOST 1048576: true; the input reads as it did. -/
def objectFindsUptoRow : OpenClaim := { program := "ytjnbjehcmckdeaadoor", sum := "e3b30e402f3a169b7a73c8e1c91663857937b5163aeeab5805464261b9d391e8", func := "mizzen/mizzenlaw12.ObjectFinds", spec := "objectFinds", inPlace := ["internal/bytealg.IndexByteString", "internal/bytealg.IndexString", "internal/bytealg.abigen_runtime_cmpstring", "slices.overlaps[mizzen/api.Object]"], unfollowed := true, recurses := true, named := ["internal/bytealg.MaxLen", "mizzen/object.order"], loops := true, apart := false, laid := [("mizzen/object.order", laid_mizzen_object_order)], narrowed := true }
def ObjectFindsUptoSaid : Prop := objectFindsUptoRow.holds Tryd.pinned (OpenSpec.upto objectFindsSpec)

/-- 'mizzenlaw12.ObjectReads', WHERE WHAT IT READS IS OF BULK AT MOST 1048576: true; the input reads as it did. -/
def objectReadsUptoRow : OpenClaim := { program := "ytjnbjehcmckdeaadoor", sum := "e3b30e402f3a169b7a73c8e1c91663857937b5163aeeab5805464261b9d391e8", func := "mizzen/mizzenlaw12.ObjectReads", spec := "objectReads", inPlace := ["internal/bytealg.IndexByteString", "internal/bytealg.IndexString", "internal/bytealg.abigen_runtime_cmpstring", "internal/bytealg.CountString"], unfollowed := true, recurses := true, named := ["internal/bytealg.MaxLen", "mizzen/object.order", "unicode/utf8.first", "unicode/utf8.acceptRanges"], loops := true, apart := false, laid := [("unicode/utf8.acceptRanges", laid_unicode_utf8_acceptRanges), ("mizzen/object.order", laid_mizzen_object_order), ("unicode/utf8.first", laid_unicode_utf8_first)], narrowed := true }
def ObjectReadsUptoSaid : Prop := objectReadsUptoRow.holds Tryd.pinned (OpenSpec.upto objectReadsSpec)

/-- 'mizzenlaw04.ScalarBares', WHERE WHAT IT READS IS OF BULK AT MOST 1048576: true; the input reads as it did. -/
def scalarBaresUptoRow : OpenClaim := { program := "ytjnbjehcmckdeaadoor", sum := "e3b30e402f3a169b7a73c8e1c91663857937b5163aeeab5805464261b9d391e8", func := "mizzen/mizzenlaw04.ScalarBares", spec := "scalarBares", inPlace := ["internal/bytealg.IndexByteString", "internal/abi.NoEscape"], named := ["strconv.ErrSyntax", "strconv.ErrRange", "internal/strconv.uint64pow10", "math/bits.deBruijn32tab", "math/bits.deBruijn64tab"], apart := false, laid := [("math/bits.deBruijn32tab", laid_math_bits_deBruijn32tab), ("math/bits.deBruijn64tab", laid_math_bits_deBruijn64tab), ("internal/strconv.uint64pow10", laid_internal_strconv_uint64pow10), ("strconv.ErrRange", laid_strconv_ErrRange), ("strconv.ErrSyntax", laid_strconv_ErrSyntax)], narrowed := true }
def ScalarBaresUptoSaid : Prop := scalarBaresUptoRow.holds Tryd.pinned (OpenSpec.upto scalarBaresSpec)

/-- 'mizzenlaw04.ScalarWords', WHERE WHAT IT READS IS OF BULK AT MOST 1048576: true; the input reads as it did. -/
def scalarWordsUptoRow : OpenClaim := { program := "ytjnbjehcmckdeaadoor", sum := "e3b30e402f3a169b7a73c8e1c91663857937b5163aeeab5805464261b9d391e8", func := "mizzen/mizzenlaw04.ScalarWords", spec := "scalarWords", inPlace := ["internal/bytealg.IndexByteString", "internal/abi.NoEscape"], recurses := true, named := ["strconv.ErrSyntax", "strconv.ErrRange", "internal/strconv.uint64pow10", "math/bits.deBruijn32tab", "math/bits.deBruijn64tab"], loops := true, apart := false, laid := [("math/bits.deBruijn32tab", laid_math_bits_deBruijn32tab), ("math/bits.deBruijn64tab", laid_math_bits_deBruijn64tab), ("internal/strconv.uint64pow10", laid_internal_strconv_uint64pow10), ("strconv.ErrRange", laid_strconv_ErrRange), ("strconv.ErrSyntax", laid_strconv_ErrSyntax)], narrowed := true }
def ScalarWordsUptoSaid : Prop := scalarWordsUptoRow.holds Tryd.pinned (OpenSpec.upto scalarWordsSpec)

/-- 'mizzenlaw04.ScalarNumbers', WHERE WHAT IT READS IS OF BULK AT MOST 1048576: true; the input reads as it did. -/
def scalarNumbersUptoRow : OpenClaim := { program := "ytjnbjehcmckdeaadoor", sum := "e3b30e402f3a169b7a73c8e1c91663857937b5163aeeab5805464261b9d391e8", func := "mizzen/mizzenlaw04.ScalarNumbers", spec := "scalarNumbers", inPlace := ["internal/bytealg.IndexByteString", "internal/abi.NoEscape"], named := ["internal/strconv.uint64pow10", "math/bits.deBruijn32tab", "math/bits.deBruijn64tab", "strconv.ErrSyntax", "strconv.ErrRange"], apart := false, laid := [("math/bits.deBruijn32tab", laid_math_bits_deBruijn32tab), ("math/bits.deBruijn64tab", laid_math_bits_deBruijn64tab), ("internal/strconv.uint64pow10", laid_internal_strconv_uint64pow10), ("strconv.ErrRange", laid_strconv_ErrRange), ("strconv.ErrSyntax", laid_strconv_ErrSyntax)], narrowed := true }
def ScalarNumbersUptoSaid : Prop := scalarNumbersUptoRow.holds Tryd.pinned (OpenSpec.upto scalarNumbersSpec)

/-- 'mizzenlaw02.PathWords', WHERE WHAT IT READS IS OF BULK AT MOST 1048576: true; the input reads as it did. -/
def pathWordsUptoRow : OpenClaim := { program := "ytjnbjehcmckdeaadoor", sum := "e3b30e402f3a169b7a73c8e1c91663857937b5163aeeab5805464261b9d391e8", func := "mizzen/mizzenlaw02.PathWords", spec := "pathWords", inPlace := ["internal/bytealg.abigen_runtime_cmpstring", "slices.overlaps[mizzen/api.Pair]", "internal/bytealg.CountString", "internal/bytealg.IndexByteString", "internal/bytealg.IndexString", "internal/abi.NoEscape", "internal/bytealg.MakeNoZero"], unfollowed := true, recurses := true, named := ["unicode/utf8.first", "unicode/utf8.acceptRanges", "internal/bytealg.MaxLen"], apart := false, laid := [("unicode/utf8.acceptRanges", laid_unicode_utf8_acceptRanges), ("unicode/utf8.first", laid_unicode_utf8_first)], narrowed := true }
def PathWordsUptoSaid : Prop := pathWordsUptoRow.holds Tryd.pinned (OpenSpec.upto pathWordsSpec)

/-- 'mizzenlaw04.ScalarQuotes', WHERE WHAT IT READS IS OF BULK AT MOST 1048576: true; the input reads as it did. -/
def scalarQuotesUptoRow : OpenClaim := { program := "ytjnbjehcmckdeaadoor", sum := "e3b30e402f3a169b7a73c8e1c91663857937b5163aeeab5805464261b9d391e8", func := "mizzen/mizzenlaw04.ScalarQuotes", spec := "scalarQuotes", inPlace := ["internal/bytealg.IndexByteString", "internal/abi.NoEscape"], named := ["strconv.ErrSyntax", "strconv.ErrRange", "internal/strconv.uint64pow10", "math/bits.deBruijn32tab", "math/bits.deBruijn64tab"], apart := false, laid := [("math/bits.deBruijn32tab", laid_math_bits_deBruijn32tab), ("math/bits.deBruijn64tab", laid_math_bits_deBruijn64tab), ("internal/strconv.uint64pow10", laid_internal_strconv_uint64pow10), ("strconv.ErrRange", laid_strconv_ErrRange), ("strconv.ErrSyntax", laid_strconv_ErrSyntax)], narrowed := true }
def ScalarQuotesUptoSaid : Prop := scalarQuotesUptoRow.holds Tryd.pinned (OpenSpec.upto scalarQuotesSpec)

/-- 'mizzenlaw04.ScalarBack', WHERE WHAT IT READS IS OF BULK AT MOST 1048576: true; the input reads as it did. -/
def scalarBackUptoRow : OpenClaim := { program := "ytjnbjehcmckdeaadoor", sum := "e3b30e402f3a169b7a73c8e1c91663857937b5163aeeab5805464261b9d391e8", func := "mizzen/mizzenlaw04.ScalarBack", spec := "scalarBack", inPlace := ["internal/bytealg.IndexByteString", "internal/abi.NoEscape"], recurses := true, named := ["strconv.ErrSyntax", "strconv.ErrRange", "internal/strconv.uint64pow10", "math/bits.deBruijn32tab", "math/bits.deBruijn64tab"], loops := true, apart := false, laid := [("math/bits.deBruijn32tab", laid_math_bits_deBruijn32tab), ("math/bits.deBruijn64tab", laid_math_bits_deBruijn64tab), ("internal/strconv.uint64pow10", laid_internal_strconv_uint64pow10), ("strconv.ErrRange", laid_strconv_ErrRange), ("strconv.ErrSyntax", laid_strconv_ErrSyntax)], narrowed := true }
def ScalarBackUptoSaid : Prop := scalarBackUptoRow.holds Tryd.pinned (OpenSpec.upto scalarBackSpec)

end Rows
end Go.Proofs.YtjnbjehcmckdeaaDoor
