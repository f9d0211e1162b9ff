/-
  NARROWER THAN 'FOR EVERY INPUT', by the rows' own cells (each row's printed sentence says how): VisGrows: laid · KeySays: laid · KeyUnlike: laid · KeyParts: laid · LabelBack: laid · LabelSorts: laid · PathStars: laid · PathDirs: laid · PathSays: laid · PathAgain: laid · PathMatches: laid · PathGlobs: laid.
  DERIVED. THE GIVEN ROWS OF THIS SEAT. 12 by the template 'for every input the law returns true; each argument reads behind the call as it read before'; 0 by the template 'total and deterministic' (their statements: YtcfljnfaakjdjaaDoorTotals.lean).
  GIVEN WITH THE SEED: the statements are not yours to turn. If you find one false, say at which input.
  Laid BY PROGRAM, IN A SANDBOX (cutbox-rows.mjs): the forced cells as the released guide's own fill.sh prints them over the translation 2b6be3f6848f52c7… (all of the seat's roots in one cut). By AI agents, Wed Nov 11 2026. No macro, syntax, notation, axiom, sorry.
-/
import Derived.Test.YtcfljnfaakjdjaaDoorChecked
import GoSem.PinnedTables
import GoSem.Claim
import GoSem.ClaimJoined
import GoSem.ClaimMapViews
import Derived.JoinedTies
import Derived.KernelRfl
namespace Go.Proofs.YtcfljnfaakjdjaaDoor
/- THE CELL 'sum', in the pinned program and in every row, IS THE sha256 OF THE DUMP (.gsa) THAT YtcfljnfaakjdjaaDoorProg.lean LOADS. Nothing in Lean hashes anything: it is a label: what it is worth is what the hold of that sum in a sandbox is worth. -/
noncomputable def Tryd.pinned : Pinned := { name := "ytcfljnfaakjdjaadoor", sum := "2b6be3f6848f52c77394d42b55d5fa5c8a6fc2025244f598cfcdf1087a1edc8f", checked := Tryd.checked }
namespace Rows
def none {H : Type} : Left H := { results := [], args := [] }

/- WHAT THE LISTED PACKAGE-LEVEL VARIABLES READ AS WHEN THE CALL BEGINS. Each datum BY PROGRAM (the guide's laid-datum.mjs) off the statement by which the dump's own 'gosem.cut.vars' lays the variable. In a bare row this is a premise. The card (YtcfljnfaakjdjaaDoorCards.lean) ties it to the program's text. -/
def laid_unicode_utf8_acceptRanges {H : Type} : DataW H := .agg [.agg [.lit (.int .u8 128), .lit (.int .u8 191)], .agg [.lit (.int .u8 160), .lit (.int .u8 191)], .agg [.lit (.int .u8 128), .lit (.int .u8 159)], .agg [.lit (.int .u8 144), .lit (.int .u8 191)], .agg [.lit (.int .u8 128), .lit (.int .u8 143)], .agg [.lit (.int .u8 0), .lit (.int .u8 0)], .agg [.lit (.int .u8 0), .lit (.int .u8 0)], .agg [.lit (.int .u8 0), .lit (.int .u8 0)], .agg [.lit (.int .u8 0), .lit (.int .u8 0)], .agg [.lit (.int .u8 0), .lit (.int .u8 0)], .agg [.lit (.int .u8 0), .lit (.int .u8 0)], .agg [.lit (.int .u8 0), .lit (.int .u8 0)], .agg [.lit (.int .u8 0), .lit (.int .u8 0)], .agg [.lit (.int .u8 0), .lit (.int .u8 0)], .agg [.lit (.int .u8 0), .lit (.int .u8 0)], .agg [.lit (.int .u8 0), .lit (.int .u8 0)]]
def laid_smithy_api_ErrVisibility {H : Type} : DataW H := .iface "*errors.errorString" (.ptr (.agg [.lit (.string [118, 105, 115, 105, 98, 105, 108, 105, 116, 121])]))
/-- One of Go's own tables, pinned by name: the form's constant. -/
def laid_unicode_utf8_first : DataW Unit := Go.Pinned.utf8First
def laid_math_bits_deBruijn32tab {H : Type} : DataW H := .agg [.lit (.int .u8 0), .lit (.int .u8 1), .lit (.int .u8 28), .lit (.int .u8 2), .lit (.int .u8 29), .lit (.int .u8 14), .lit (.int .u8 24), .lit (.int .u8 3), .lit (.int .u8 30), .lit (.int .u8 22), .lit (.int .u8 20), .lit (.int .u8 15), .lit (.int .u8 25), .lit (.int .u8 17), .lit (.int .u8 4), .lit (.int .u8 8), .lit (.int .u8 31), .lit (.int .u8 27), .lit (.int .u8 13), .lit (.int .u8 23), .lit (.int .u8 21), .lit (.int .u8 19), .lit (.int .u8 16), .lit (.int .u8 7), .lit (.int .u8 26), .lit (.int .u8 12), .lit (.int .u8 18), .lit (.int .u8 6), .lit (.int .u8 11), .lit (.int .u8 5), .lit (.int .u8 10), .lit (.int .u8 9)]
def laid_math_bits_deBruijn64tab {H : Type} : DataW H := .agg [.lit (.int .u8 0), .lit (.int .u8 1), .lit (.int .u8 56), .lit (.int .u8 2), .lit (.int .u8 57), .lit (.int .u8 49), .lit (.int .u8 28), .lit (.int .u8 3), .lit (.int .u8 61), .lit (.int .u8 58), .lit (.int .u8 42), .lit (.int .u8 50), .lit (.int .u8 38), .lit (.int .u8 29), .lit (.int .u8 17), .lit (.int .u8 4), .lit (.int .u8 62), .lit (.int .u8 47), .lit (.int .u8 59), .lit (.int .u8 36), .lit (.int .u8 45), .lit (.int .u8 43), .lit (.int .u8 51), .lit (.int .u8 22), .lit (.int .u8 53), .lit (.int .u8 39), .lit (.int .u8 33), .lit (.int .u8 30), .lit (.int .u8 24), .lit (.int .u8 18), .lit (.int .u8 12), .lit (.int .u8 5), .lit (.int .u8 63), .lit (.int .u8 55), .lit (.int .u8 48), .lit (.int .u8 27), .lit (.int .u8 60), .lit (.int .u8 41), .lit (.int .u8 37), .lit (.int .u8 16), .lit (.int .u8 46), .lit (.int .u8 35), .lit (.int .u8 44), .lit (.int .u8 21), .lit (.int .u8 52), .lit (.int .u8 32), .lit (.int .u8 23), .lit (.int .u8 11), .lit (.int .u8 54), .lit (.int .u8 26), .lit (.int .u8 40), .lit (.int .u8 15), .lit (.int .u8 34), .lit (.int .u8 20), .lit (.int .u8 31), .lit (.int .u8 10), .lit (.int .u8 25), .lit (.int .u8 14), .lit (.int .u8 19), .lit (.int .u8 9), .lit (.int .u8 13), .lit (.int .u8 8), .lit (.int .u8 7), .lit (.int .u8 6)]
def laid_internal_strconv_uint64pow10 {H : Type} : DataW H := .agg [.lit (.int .u64 1), .lit (.int .u64 10), .lit (.int .u64 100), .lit (.int .u64 1000), .lit (.int .u64 10000), .lit (.int .u64 100000), .lit (.int .u64 1000000), .lit (.int .u64 10000000), .lit (.int .u64 100000000), .lit (.int .u64 1000000000), .lit (.int .u64 10000000000), .lit (.int .u64 100000000000), .lit (.int .u64 1000000000000), .lit (.int .u64 10000000000000), .lit (.int .u64 100000000000000), .lit (.int .u64 1000000000000000), .lit (.int .u64 10000000000000000), .lit (.int .u64 100000000000000000), .lit (.int .u64 1000000000000000000), .lit (.int .u64 10000000000000000000)]
def laid_smithy_api_ErrPath {H : Type} : DataW H := .iface "*errors.errorString" (.ptr (.agg [.lit (.string [110, 111, 32, 112, 97, 116, 104])]))
def laid_smithy_api_ErrLex {H : Type} : DataW H := .iface "*errors.errorString" (.ptr (.agg [.lit (.string [108, 101, 120])]))
def laid_smithy_api_ErrParse {H : Type} : DataW H := .iface "*errors.errorString" (.ptr (.agg [.lit (.string [112, 97, 114, 115, 101])]))
def laid_smithy_api_ErrResolve {H : Type} : DataW H := .iface "*errors.errorString" (.ptr (.agg [.lit (.string [114, 101, 115, 111, 108, 118, 101])]))
def laid_smithy_api_ErrDynamic {H : Type} : DataW H := .iface "*errors.errorString" (.ptr (.agg [.lit (.string [100, 121, 110, 97, 109, 105, 99])]))
def laid_smithy_api_ErrCycle {H : Type} : DataW H := .iface "*errors.errorString" (.ptr (.agg [.lit (.string [99, 121, 99, 108, 101])]))
def laid_smithy_api_ErrAnalysis {H : Type} : DataW H := .iface "*errors.errorString" (.ptr (.agg [.lit (.string [97, 110, 97, 108, 121, 115, 105, 115])]))
def laid_smithy_api_ErrLimit {H : Type} : DataW H := .iface "*errors.errorString" (.ptr (.agg [.lit (.string [108, 105, 109, 105, 116])]))
def laid_smithy_api_ErrMissing {H : Type} : DataW H := .iface "*errors.errorString" (.ptr (.agg [.lit (.string [109, 105, 115, 115, 105, 110, 103])]))
def laid_smithy_api_ErrMany {H : Type} : DataW H := .iface "*errors.errorString" (.ptr (.agg [.lit (.string [116, 111, 111, 32, 109, 97, 110, 121])]))
def laid_smithy_api_ErrKind {H : Type} : DataW H := .iface "*errors.errorString" (.ptr (.agg [.lit (.string [110, 111, 32, 115, 117, 99, 104, 32, 107, 105, 110, 100])]))
def laid_smithy_api_ErrShape {H : Type} : DataW H := .iface "*errors.errorString" (.ptr (.agg [.lit (.string [110, 111, 116, 32, 116, 104, 101, 32, 115, 104, 97, 112, 101, 32, 116, 104, 97, 116, 32, 105, 116, 32, 104, 97, 115, 32, 116, 111, 32, 104, 97, 118, 101])]))
def laid_smithy_api_ErrEnd {H : Type} : DataW H := .iface "*errors.errorString" (.ptr (.agg [.lit (.string [105, 116, 32, 101, 110, 100, 115, 32, 116, 111, 111, 32, 101, 97, 114, 108, 121])]))
def laid_smithy_api_ErrRange {H : Type} : DataW H := .iface "*errors.errorString" (.ptr (.agg [.lit (.string [97, 32, 110, 117, 109, 98, 101, 114, 32, 111, 117, 116, 32, 111, 102, 32, 105, 116, 115, 32, 114, 97, 110, 103, 101])]))
def laid_smithy_api_ErrDown {H : Type} : DataW H := .iface "*errors.errorString" (.ptr (.agg [.lit (.string [116, 104, 101, 32, 112, 111, 119, 101, 114, 32, 104, 97, 115, 32, 103, 111, 110, 101])]))
def laid_smithy_api_ErrFail {H : Type} : DataW H := .iface "*errors.errorString" (.ptr (.agg [.lit (.string [105, 116, 32, 104, 97, 115, 32, 102, 97, 105, 108, 101, 100])]))

/-- 'smithylaw20.VisGrows': WHATEVER THE INPUT: true; the input reads as it did. -/
def visGrowsSpec : ChangeSpec := { name := "visGrows", fn := fun _ => fun
  | [d1, d2, d3, d4] => { results := [.lit (.bool true)], args := [d1, d2, d3, d4] }
  | _ => none }
def visGrowsRow : OpenClaim := { program := "ytcfljnfaakjdjaadoor", sum := "2b6be3f6848f52c77394d42b55d5fa5c8a6fc2025244f598cfcdf1087a1edc8f", func := "smithy/smithylaw20.VisGrows", spec := "visGrows", inPlace := ["internal/bytealg.IndexByteString", "internal/bytealg.IndexString", "internal/bytealg.CountString"], unfollowed := true, recurses := true, named := ["internal/bytealg.MaxLen", "unicode/utf8.first", "unicode/utf8.acceptRanges", "smithy/api.ErrVisibility"], apart := false, laid := [("unicode/utf8.acceptRanges", laid_unicode_utf8_acceptRanges), ("smithy/api.ErrVisibility", laid_smithy_api_ErrVisibility), ("unicode/utf8.first", laid_unicode_utf8_first)] }
def VisGrowsSaid : Prop := visGrowsRow.holds Tryd.pinned (OpenSpec.ofChange visGrowsSpec)

/-- ITS FALSE NEIGHBOUR: 'it returns false'. Refute it at one input. -/
def visGrowsWrong : ChangeSpec := { name := "visGrows", fn := fun _ => fun
  | [d1, d2, d3, d4] => { results := [.lit (.bool false)], args := [d1, d2, d3, d4] }
  | _ => none }
def VisGrowsWrongFalsely : Prop := visGrowsRow.holds Tryd.pinned (OpenSpec.ofChange visGrowsWrong)

/-- 'smithylaw24.KeySays': WHATEVER THE INPUT: true; the input reads as it did. -/
def keySaysSpec : ChangeSpec := { name := "keySays", fn := fun _ => fun
  | [d1, d2, d3] => { results := [.lit (.bool true)], args := [d1, d2, d3] }
  | _ => none }
def keySaysRow : OpenClaim := { program := "ytcfljnfaakjdjaadoor", sum := "2b6be3f6848f52c77394d42b55d5fa5c8a6fc2025244f598cfcdf1087a1edc8f", func := "smithy/smithylaw24.KeySays", spec := "keySays", named := ["internal/strconv.uint64pow10", "math/bits.deBruijn32tab", "math/bits.deBruijn64tab"], apart := false, laid := [("math/bits.deBruijn32tab", laid_math_bits_deBruijn32tab), ("math/bits.deBruijn64tab", laid_math_bits_deBruijn64tab), ("internal/strconv.uint64pow10", laid_internal_strconv_uint64pow10)] }
def KeySaysSaid : Prop := keySaysRow.holds Tryd.pinned (OpenSpec.ofChange keySaysSpec)

/-- ITS FALSE NEIGHBOUR: 'it returns false'. Refute it at one input. -/
def keySaysWrong : ChangeSpec := { name := "keySays", fn := fun _ => fun
  | [d1, d2, d3] => { results := [.lit (.bool false)], args := [d1, d2, d3] }
  | _ => none }
def KeySaysWrongFalsely : Prop := keySaysRow.holds Tryd.pinned (OpenSpec.ofChange keySaysWrong)

/-- 'smithylaw24.KeyUnlike': WHATEVER THE INPUT: true; the input reads as it did. -/
def keyUnlikeSpec : ChangeSpec := { name := "keyUnlike", fn := fun _ => fun
  | [d1, d2, d3, d4, d5, d6] => { results := [.lit (.bool true)], args := [d1, d2, d3, d4, d5, d6] }
  | _ => none }
def keyUnlikeRow : OpenClaim := { program := "ytcfljnfaakjdjaadoor", sum := "2b6be3f6848f52c77394d42b55d5fa5c8a6fc2025244f598cfcdf1087a1edc8f", func := "smithy/smithylaw24.KeyUnlike", spec := "keyUnlike", named := ["internal/strconv.uint64pow10", "math/bits.deBruijn32tab", "math/bits.deBruijn64tab"], apart := false, laid := [("math/bits.deBruijn32tab", laid_math_bits_deBruijn32tab), ("math/bits.deBruijn64tab", laid_math_bits_deBruijn64tab), ("internal/strconv.uint64pow10", laid_internal_strconv_uint64pow10)] }
def KeyUnlikeSaid : Prop := keyUnlikeRow.holds Tryd.pinned (OpenSpec.ofChange keyUnlikeSpec)

/-- ITS FALSE NEIGHBOUR: 'it returns false'. Refute it at one input. -/
def keyUnlikeWrong : ChangeSpec := { name := "keyUnlike", fn := fun _ => fun
  | [d1, d2, d3, d4, d5, d6] => { results := [.lit (.bool false)], args := [d1, d2, d3, d4, d5, d6] }
  | _ => none }
def KeyUnlikeWrongFalsely : Prop := keyUnlikeRow.holds Tryd.pinned (OpenSpec.ofChange keyUnlikeWrong)

/-- 'smithylaw24.KeyParts': WHATEVER THE INPUT: true; the input reads as it did. -/
def keyPartsSpec : ChangeSpec := { name := "keyParts", fn := fun _ => fun
  | [d1, d2, d3] => { results := [.lit (.bool true)], args := [d1, d2, d3] }
  | _ => none }
def keyPartsRow : OpenClaim := { program := "ytcfljnfaakjdjaadoor", sum := "2b6be3f6848f52c77394d42b55d5fa5c8a6fc2025244f598cfcdf1087a1edc8f", func := "smithy/smithylaw24.KeyParts", spec := "keyParts", named := ["internal/strconv.uint64pow10", "math/bits.deBruijn32tab", "math/bits.deBruijn64tab"], apart := false, laid := [("math/bits.deBruijn32tab", laid_math_bits_deBruijn32tab), ("math/bits.deBruijn64tab", laid_math_bits_deBruijn64tab), ("internal/strconv.uint64pow10", laid_internal_strconv_uint64pow10)] }
def KeyPartsSaid : Prop := keyPartsRow.holds Tryd.pinned (OpenSpec.ofChange keyPartsSpec)

/-- ITS FALSE NEIGHBOUR: 'it returns false'. Refute it at one input. -/
def keyPartsWrong : ChangeSpec := { name := "keyParts", fn := fun _ => fun
  | [d1, d2, d3] => { results := [.lit (.bool false)], args := [d1, d2, d3] }
  | _ => none }
def KeyPartsWrongFalsely : Prop := keyPartsRow.holds Tryd.pinned (OpenSpec.ofChange keyPartsWrong)

/-- 'smithylaw17.LabelBack': WHATEVER THE INPUT: true; the input reads as it did. -/
def labelBackSpec : ChangeSpec := { name := "labelBack", fn := fun _ => fun
  | [d1, d2, d3] => { results := [.lit (.bool true)], args := [d1, d2, d3] }
  | _ => none }
def labelBackRow : OpenClaim := { program := "ytcfljnfaakjdjaadoor", sum := "2b6be3f6848f52c77394d42b55d5fa5c8a6fc2025244f598cfcdf1087a1edc8f", func := "smithy/smithylaw17.LabelBack", spec := "labelBack", inPlace := ["internal/bytealg.CountString", "internal/bytealg.IndexByteString", "internal/bytealg.IndexString", "internal/abi.NoEscape", "internal/bytealg.MakeNoZero", "internal/bytealg.abigen_runtime_cmpstring"], named := ["smithy/api.ErrPath", "unicode/utf8.first", "unicode/utf8.acceptRanges", "internal/bytealg.MaxLen"], apart := false, laid := [("unicode/utf8.acceptRanges", laid_unicode_utf8_acceptRanges), ("smithy/api.ErrPath", laid_smithy_api_ErrPath), ("unicode/utf8.first", laid_unicode_utf8_first)] }
def LabelBackSaid : Prop := labelBackRow.holds Tryd.pinned (OpenSpec.ofChange labelBackSpec)

/-- ITS FALSE NEIGHBOUR: 'it returns false'. Refute it at one input. -/
def labelBackWrong : ChangeSpec := { name := "labelBack", fn := fun _ => fun
  | [d1, d2, d3] => { results := [.lit (.bool false)], args := [d1, d2, d3] }
  | _ => none }
def LabelBackWrongFalsely : Prop := labelBackRow.holds Tryd.pinned (OpenSpec.ofChange labelBackWrong)

/-- 'smithylaw17.LabelSorts': WHATEVER THE INPUT: true; the input reads as it did. -/
def labelSortsSpec : ChangeSpec := { name := "labelSorts", fn := fun _ => fun
  | [d] => { results := [.lit (.bool true)], args := [d] }
  | _ => none }
def labelSortsRow : OpenClaim := { program := "ytcfljnfaakjdjaadoor", sum := "2b6be3f6848f52c77394d42b55d5fa5c8a6fc2025244f598cfcdf1087a1edc8f", func := "smithy/smithylaw17.LabelSorts", spec := "labelSorts", inPlace := ["internal/bytealg.CountString", "internal/bytealg.IndexByteString", "internal/bytealg.IndexString", "internal/bytealg.abigen_runtime_cmpstring"], unfollowed := true, recurses := true, named := ["smithy/api.ErrPath", "unicode/utf8.first", "unicode/utf8.acceptRanges", "internal/bytealg.MaxLen"], apart := false, laid := [("unicode/utf8.acceptRanges", laid_unicode_utf8_acceptRanges), ("smithy/api.ErrPath", laid_smithy_api_ErrPath), ("unicode/utf8.first", laid_unicode_utf8_first)] }
def LabelSortsSaid : Prop := labelSortsRow.holds Tryd.pinned (OpenSpec.ofChange labelSortsSpec)

/-- ITS FALSE NEIGHBOUR: 'it returns false'. Refute it at one input. -/
def labelSortsWrong : ChangeSpec := { name := "labelSorts", fn := fun _ => fun
  | [d] => { results := [.lit (.bool false)], args := [d] }
  | _ => none }
def LabelSortsWrongFalsely : Prop := labelSortsRow.holds Tryd.pinned (OpenSpec.ofChange labelSortsWrong)

/-- 'smithylaw1.PathStars': WHATEVER THE INPUT: true; the input reads as it did. -/
def pathStarsSpec : ChangeSpec := { name := "pathStars", fn := fun _ => fun
  | [d1, d2] => { results := [.lit (.bool true)], args := [d1, d2] }
  | _ => none }
def pathStarsRow : OpenClaim := { program := "ytcfljnfaakjdjaadoor", sum := "2b6be3f6848f52c77394d42b55d5fa5c8a6fc2025244f598cfcdf1087a1edc8f", func := "smithy/smithylaw1.PathStars", spec := "pathStars", inPlace := ["internal/bytealg.CountString", "internal/bytealg.IndexByteString", "internal/bytealg.IndexString", "internal/abi.NoEscape", "internal/bytealg.MakeNoZero"], named := ["smithy/api.ErrPath", "unicode/utf8.first", "unicode/utf8.acceptRanges", "internal/bytealg.MaxLen"], apart := false, laid := [("unicode/utf8.acceptRanges", laid_unicode_utf8_acceptRanges), ("smithy/api.ErrPath", laid_smithy_api_ErrPath), ("unicode/utf8.first", laid_unicode_utf8_first)] }
def PathStarsSaid : Prop := pathStarsRow.holds Tryd.pinned (OpenSpec.ofChange pathStarsSpec)

/-- ITS FALSE NEIGHBOUR: 'it returns false'. Refute it at one input. -/
def pathStarsWrong : ChangeSpec := { name := "pathStars", fn := fun _ => fun
  | [d1, d2] => { results := [.lit (.bool false)], args := [d1, d2] }
  | _ => none }
def PathStarsWrongFalsely : Prop := pathStarsRow.holds Tryd.pinned (OpenSpec.ofChange pathStarsWrong)

/-- 'smithylaw1.PathDirs': WHATEVER THE INPUT: true; the input reads as it did. -/
def pathDirsSpec : ChangeSpec := { name := "pathDirs", fn := fun _ => fun
  | [d] => { results := [.lit (.bool true)], args := [d] }
  | _ => none }
def pathDirsRow : OpenClaim := { program := "ytcfljnfaakjdjaadoor", sum := "2b6be3f6848f52c77394d42b55d5fa5c8a6fc2025244f598cfcdf1087a1edc8f", func := "smithy/smithylaw1.PathDirs", spec := "pathDirs", inPlace := ["internal/bytealg.CountString", "internal/bytealg.IndexByteString", "internal/bytealg.IndexString", "internal/abi.NoEscape", "internal/bytealg.MakeNoZero"], named := ["smithy/api.ErrPath", "unicode/utf8.first", "unicode/utf8.acceptRanges", "internal/bytealg.MaxLen"], apart := false, laid := [("unicode/utf8.acceptRanges", laid_unicode_utf8_acceptRanges), ("smithy/api.ErrPath", laid_smithy_api_ErrPath), ("unicode/utf8.first", laid_unicode_utf8_first)] }
def PathDirsSaid : Prop := pathDirsRow.holds Tryd.pinned (OpenSpec.ofChange pathDirsSpec)

/-- ITS FALSE NEIGHBOUR: 'it returns false'. Refute it at one input. -/
def pathDirsWrong : ChangeSpec := { name := "pathDirs", fn := fun _ => fun
  | [d] => { results := [.lit (.bool false)], args := [d] }
  | _ => none }
def PathDirsWrongFalsely : Prop := pathDirsRow.holds Tryd.pinned (OpenSpec.ofChange pathDirsWrong)

/-- 'smithylaw1.PathSays': WHATEVER THE INPUT: true; the input reads as it did. -/
def pathSaysSpec : ChangeSpec := { name := "pathSays", fn := fun _ => fun
  | [d1, d2, d3] => { results := [.lit (.bool true)], args := [d1, d2, d3] }
  | _ => none }
def pathSaysRow : OpenClaim := { program := "ytcfljnfaakjdjaadoor", sum := "2b6be3f6848f52c77394d42b55d5fa5c8a6fc2025244f598cfcdf1087a1edc8f", func := "smithy/smithylaw1.PathSays", spec := "pathSays", inPlace := ["internal/bytealg.CountString", "internal/bytealg.IndexByteString", "internal/bytealg.IndexString", "internal/abi.NoEscape", "internal/bytealg.MakeNoZero"], named := ["smithy/api.ErrPath", "unicode/utf8.first", "unicode/utf8.acceptRanges", "internal/bytealg.MaxLen", "smithy/api.ErrLex", "smithy/api.ErrParse", "smithy/api.ErrResolve", "smithy/api.ErrDynamic", "smithy/api.ErrCycle", "smithy/api.ErrVisibility", "smithy/api.ErrAnalysis", "smithy/api.ErrLimit", "smithy/api.ErrMissing", "smithy/api.ErrMany", "smithy/api.ErrKind", "smithy/api.ErrShape", "smithy/api.ErrEnd", "smithy/api.ErrRange", "smithy/api.ErrDown", "smithy/api.ErrFail"], apart := false, laid := [("unicode/utf8.acceptRanges", laid_unicode_utf8_acceptRanges), ("smithy/api.ErrLex", laid_smithy_api_ErrLex), ("smithy/api.ErrParse", laid_smithy_api_ErrParse), ("smithy/api.ErrResolve", laid_smithy_api_ErrResolve), ("smithy/api.ErrDynamic", laid_smithy_api_ErrDynamic), ("smithy/api.ErrCycle", laid_smithy_api_ErrCycle), ("smithy/api.ErrVisibility", laid_smithy_api_ErrVisibility), ("smithy/api.ErrAnalysis", laid_smithy_api_ErrAnalysis), ("smithy/api.ErrLimit", laid_smithy_api_ErrLimit), ("smithy/api.ErrMissing", laid_smithy_api_ErrMissing), ("smithy/api.ErrMany", laid_smithy_api_ErrMany), ("smithy/api.ErrKind", laid_smithy_api_ErrKind), ("smithy/api.ErrPath", laid_smithy_api_ErrPath), ("smithy/api.ErrShape", laid_smithy_api_ErrShape), ("smithy/api.ErrEnd", laid_smithy_api_ErrEnd), ("smithy/api.ErrRange", laid_smithy_api_ErrRange), ("smithy/api.ErrDown", laid_smithy_api_ErrDown), ("smithy/api.ErrFail", laid_smithy_api_ErrFail), ("unicode/utf8.first", laid_unicode_utf8_first)] }
def PathSaysSaid : Prop := pathSaysRow.holds Tryd.pinned (OpenSpec.ofChange pathSaysSpec)

/-- ITS FALSE NEIGHBOUR: 'it returns false'. Refute it at one input. -/
def pathSaysWrong : ChangeSpec := { name := "pathSays", fn := fun _ => fun
  | [d1, d2, d3] => { results := [.lit (.bool false)], args := [d1, d2, d3] }
  | _ => none }
def PathSaysWrongFalsely : Prop := pathSaysRow.holds Tryd.pinned (OpenSpec.ofChange pathSaysWrong)

/-- 'smithylaw1.PathAgain': WHATEVER THE INPUT: true; the input reads as it did. -/
def pathAgainSpec : ChangeSpec := { name := "pathAgain", fn := fun _ => fun
  | [d1, d2] => { results := [.lit (.bool true)], args := [d1, d2] }
  | _ => none }
def pathAgainRow : OpenClaim := { program := "ytcfljnfaakjdjaadoor", sum := "2b6be3f6848f52c77394d42b55d5fa5c8a6fc2025244f598cfcdf1087a1edc8f", func := "smithy/smithylaw1.PathAgain", spec := "pathAgain", inPlace := ["internal/bytealg.CountString", "internal/bytealg.IndexByteString", "internal/bytealg.IndexString", "internal/abi.NoEscape", "internal/bytealg.MakeNoZero"], named := ["smithy/api.ErrPath", "unicode/utf8.first", "unicode/utf8.acceptRanges", "internal/bytealg.MaxLen"], apart := false, laid := [("unicode/utf8.acceptRanges", laid_unicode_utf8_acceptRanges), ("smithy/api.ErrPath", laid_smithy_api_ErrPath), ("unicode/utf8.first", laid_unicode_utf8_first)] }
def PathAgainSaid : Prop := pathAgainRow.holds Tryd.pinned (OpenSpec.ofChange pathAgainSpec)

/-- ITS FALSE NEIGHBOUR: 'it returns false'. Refute it at one input. -/
def pathAgainWrong : ChangeSpec := { name := "pathAgain", fn := fun _ => fun
  | [d1, d2] => { results := [.lit (.bool false)], args := [d1, d2] }
  | _ => none }
def PathAgainWrongFalsely : Prop := pathAgainRow.holds Tryd.pinned (OpenSpec.ofChange pathAgainWrong)

/-- 'smithylaw1.PathMatches': WHATEVER THE INPUT: true; the input reads as it did. -/
def pathMatchesSpec : ChangeSpec := { name := "pathMatches", fn := fun _ => fun
  | [d1, d2, d3, d4, d5] => { results := [.lit (.bool true)], args := [d1, d2, d3, d4, d5] }
  | _ => none }
def pathMatchesRow : OpenClaim := { program := "ytcfljnfaakjdjaadoor", sum := "2b6be3f6848f52c77394d42b55d5fa5c8a6fc2025244f598cfcdf1087a1edc8f", func := "smithy/smithylaw1.PathMatches", spec := "pathMatches", inPlace := ["internal/bytealg.CountString", "internal/bytealg.IndexByteString", "internal/bytealg.IndexString", "internal/abi.NoEscape", "internal/bytealg.MakeNoZero"], recurses := true, named := ["smithy/api.ErrPath", "unicode/utf8.first", "unicode/utf8.acceptRanges", "internal/bytealg.MaxLen", "smithy/api.ErrLex", "smithy/api.ErrParse", "smithy/api.ErrResolve", "smithy/api.ErrDynamic", "smithy/api.ErrCycle", "smithy/api.ErrVisibility", "smithy/api.ErrAnalysis", "smithy/api.ErrLimit", "smithy/api.ErrMissing", "smithy/api.ErrMany", "smithy/api.ErrKind", "smithy/api.ErrShape", "smithy/api.ErrEnd", "smithy/api.ErrRange", "smithy/api.ErrDown", "smithy/api.ErrFail"], apart := false, laid := [("unicode/utf8.acceptRanges", laid_unicode_utf8_acceptRanges), ("smithy/api.ErrLex", laid_smithy_api_ErrLex), ("smithy/api.ErrParse", laid_smithy_api_ErrParse), ("smithy/api.ErrResolve", laid_smithy_api_ErrResolve), ("smithy/api.ErrDynamic", laid_smithy_api_ErrDynamic), ("smithy/api.ErrCycle", laid_smithy_api_ErrCycle), ("smithy/api.ErrVisibility", laid_smithy_api_ErrVisibility), ("smithy/api.ErrAnalysis", laid_smithy_api_ErrAnalysis), ("smithy/api.ErrLimit", laid_smithy_api_ErrLimit), ("smithy/api.ErrMissing", laid_smithy_api_ErrMissing), ("smithy/api.ErrMany", laid_smithy_api_ErrMany), ("smithy/api.ErrKind", laid_smithy_api_ErrKind), ("smithy/api.ErrPath", laid_smithy_api_ErrPath), ("smithy/api.ErrShape", laid_smithy_api_ErrShape), ("smithy/api.ErrEnd", laid_smithy_api_ErrEnd), ("smithy/api.ErrRange", laid_smithy_api_ErrRange), ("smithy/api.ErrDown", laid_smithy_api_ErrDown), ("smithy/api.ErrFail", laid_smithy_api_ErrFail), ("unicode/utf8.first", laid_unicode_utf8_first)] }
def PathMatchesSaid : Prop := pathMatchesRow.holds Tryd.pinned (OpenSpec.ofChange pathMatchesSpec)

/-- ITS FALSE NEIGHBOUR: 'it returns false'. Refute it at one input. -/
def pathMatchesWrong : ChangeSpec := { name := "pathMatches", fn := fun _ => fun
  | [d1, d2, d3, d4, d5] => { results := [.lit (.bool false)], args := [d1, d2, d3, d4, d5] }
  | _ => none }
def PathMatchesWrongFalsely : Prop := pathMatchesRow.holds Tryd.pinned (OpenSpec.ofChange pathMatchesWrong)

/-- 'smithylaw1.PathGlobs': WHATEVER THE INPUT: true; the input reads as it did. -/
def pathGlobsSpec : ChangeSpec := { name := "pathGlobs", fn := fun _ => fun
  | [d1, d2, d3, d4] => { results := [.lit (.bool true)], args := [d1, d2, d3, d4] }
  | _ => none }
def pathGlobsRow : OpenClaim := { program := "ytcfljnfaakjdjaadoor", sum := "2b6be3f6848f52c77394d42b55d5fa5c8a6fc2025244f598cfcdf1087a1edc8f", func := "smithy/smithylaw1.PathGlobs", spec := "pathGlobs", inPlace := ["internal/bytealg.CountString", "internal/bytealg.IndexByteString", "internal/bytealg.IndexString", "internal/abi.NoEscape", "internal/bytealg.MakeNoZero"], recurses := true, named := ["smithy/api.ErrPath", "unicode/utf8.first", "unicode/utf8.acceptRanges", "internal/bytealg.MaxLen"], apart := false, laid := [("unicode/utf8.acceptRanges", laid_unicode_utf8_acceptRanges), ("smithy/api.ErrPath", laid_smithy_api_ErrPath), ("unicode/utf8.first", laid_unicode_utf8_first)] }
def PathGlobsSaid : Prop := pathGlobsRow.holds Tryd.pinned (OpenSpec.ofChange pathGlobsSpec)

/-- ITS FALSE NEIGHBOUR: 'it returns false'. Refute it at one input. -/
def pathGlobsWrong : ChangeSpec := { name := "pathGlobs", fn := fun _ => fun
  | [d1, d2, d3, d4] => { results := [.lit (.bool false)], args := [d1, d2, d3, d4] }
  | _ => none }
def PathGlobsWrongFalsely : Prop := pathGlobsRow.holds Tryd.pinned (OpenSpec.ofChange pathGlobsWrong)

/- THE SECOND FORM. 'bulk': how many values and letters a reading holds, each counted each time it is reached (what is shared counts as often as it is met; a slice's spare places count too). A statement '..UptoSaid' is the law's where the arguments, and the package variables that the reading takes, are together of bulk at most 1048576: NARROWER than '..Said'. Prove '..Said' where nothing that the law and all that it calls make is longer than what came in: it says more and counts as full. Else prove '..UptoSaid'. A law counts once. -/
mutual
def uptoBulk {H : Type} : DataW H → Nat
  | .lit (.string bytes) => bytes.length + 1
  | .lit _ => 1
  | .nil => 1
  | .ptr d => uptoBulk d + 1
  | .slice elems spare => uptoBulkAll elems + uptoBulkAll spare + 1
  | .agg parts => uptoBulkAll parts + 1
  | .iface _ d => uptoBulk d + 1
  | .map entries => uptoBulkEntries entries + 1
  | .held _ => 1
def uptoBulkAll {H : Type} : List (DataW H) → Nat
  | [] => 0
  | d :: r => uptoBulk d + uptoBulkAll r
def uptoBulkEntries {H : Type} : List (Lit × DataW H) → Nat
  | [] => 0
  | x :: r => uptoBulkEntry x + uptoBulkEntries r
def uptoBulkEntry {H : Type} : Lit × DataW H → Nat
  | (.string bytes, d) => bytes.length + uptoBulk d + 1
  | (_, d) => uptoBulk d + 1
 end
def uptoSmall : (H : Type) → List (DataW H) → Bool := fun _ ds => decide (uptoBulkAll ds ≤ 1048576)
def OpenSpec.upto (s : _root_.Go.ChangeSpec) : _root_.Go.OpenSpec := { _root_.Go.OpenSpec.ofChange s with cond := some uptoSmall }

/-- 'smithylaw20.VisGrows', WHERE WHAT IT READS IS OF BULK AT MOST 1048576: true; the input reads as it did. -/
def visGrowsUptoRow : OpenClaim := { program := "ytcfljnfaakjdjaadoor", sum := "2b6be3f6848f52c77394d42b55d5fa5c8a6fc2025244f598cfcdf1087a1edc8f", func := "smithy/smithylaw20.VisGrows", spec := "visGrows", inPlace := ["internal/bytealg.IndexByteString", "internal/bytealg.IndexString", "internal/bytealg.CountString"], unfollowed := true, recurses := true, named := ["internal/bytealg.MaxLen", "unicode/utf8.first", "unicode/utf8.acceptRanges", "smithy/api.ErrVisibility"], apart := false, laid := [("unicode/utf8.acceptRanges", laid_unicode_utf8_acceptRanges), ("smithy/api.ErrVisibility", laid_smithy_api_ErrVisibility), ("unicode/utf8.first", laid_unicode_utf8_first)], narrowed := true }
def VisGrowsUptoSaid : Prop := visGrowsUptoRow.holds Tryd.pinned (OpenSpec.upto visGrowsSpec)

/-- 'smithylaw24.KeySays', WHERE WHAT IT READS IS OF BULK AT MOST 1048576: true; the input reads as it did. -/
def keySaysUptoRow : OpenClaim := { program := "ytcfljnfaakjdjaadoor", sum := "2b6be3f6848f52c77394d42b55d5fa5c8a6fc2025244f598cfcdf1087a1edc8f", func := "smithy/smithylaw24.KeySays", spec := "keySays", named := ["internal/strconv.uint64pow10", "math/bits.deBruijn32tab", "math/bits.deBruijn64tab"], apart := false, laid := [("math/bits.deBruijn32tab", laid_math_bits_deBruijn32tab), ("math/bits.deBruijn64tab", laid_math_bits_deBruijn64tab), ("internal/strconv.uint64pow10", laid_internal_strconv_uint64pow10)], narrowed := true }
def KeySaysUptoSaid : Prop := keySaysUptoRow.holds Tryd.pinned (OpenSpec.upto keySaysSpec)

/-- 'smithylaw24.KeyUnlike', WHERE WHAT IT READS IS OF BULK AT MOST 1048576: true; the input reads as it did. -/
def keyUnlikeUptoRow : OpenClaim := { program := "ytcfljnfaakjdjaadoor", sum := "2b6be3f6848f52c77394d42b55d5fa5c8a6fc2025244f598cfcdf1087a1edc8f", func := "smithy/smithylaw24.KeyUnlike", spec := "keyUnlike", named := ["internal/strconv.uint64pow10", "math/bits.deBruijn32tab", "math/bits.deBruijn64tab"], apart := false, laid := [("math/bits.deBruijn32tab", laid_math_bits_deBruijn32tab), ("math/bits.deBruijn64tab", laid_math_bits_deBruijn64tab), ("internal/strconv.uint64pow10", laid_internal_strconv_uint64pow10)], narrowed := true }
def KeyUnlikeUptoSaid : Prop := keyUnlikeUptoRow.holds Tryd.pinned (OpenSpec.upto keyUnlikeSpec)

/-- 'smithylaw24.KeyParts', WHERE WHAT IT READS IS OF BULK AT MOST 1048576: true; the input reads as it did. -/
def keyPartsUptoRow : OpenClaim := { program := "ytcfljnfaakjdjaadoor", sum := "2b6be3f6848f52c77394d42b55d5fa5c8a6fc2025244f598cfcdf1087a1edc8f", func := "smithy/smithylaw24.KeyParts", spec := "keyParts", named := ["internal/strconv.uint64pow10", "math/bits.deBruijn32tab", "math/bits.deBruijn64tab"], apart := false, laid := [("math/bits.deBruijn32tab", laid_math_bits_deBruijn32tab), ("math/bits.deBruijn64tab", laid_math_bits_deBruijn64tab), ("internal/strconv.uint64pow10", laid_internal_strconv_uint64pow10)], narrowed := true }
def KeyPartsUptoSaid : Prop := keyPartsUptoRow.holds Tryd.pinned (OpenSpec.upto keyPartsSpec)

/-- 'smithylaw17.LabelBack', WHERE WHAT IT READS IS OF BULK AT MOST 1048576: true; the input reads as it did. -/
def labelBackUptoRow : OpenClaim := { program := "ytcfljnfaakjdjaadoor", sum := "2b6be3f6848f52c77394d42b55d5fa5c8a6fc2025244f598cfcdf1087a1edc8f", func := "smithy/smithylaw17.LabelBack", spec := "labelBack", inPlace := ["internal/bytealg.CountString", "internal/bytealg.IndexByteString", "internal/bytealg.IndexString", "internal/abi.NoEscape", "internal/bytealg.MakeNoZero", "internal/bytealg.abigen_runtime_cmpstring"], named := ["smithy/api.ErrPath", "unicode/utf8.first", "unicode/utf8.acceptRanges", "internal/bytealg.MaxLen"], apart := false, laid := [("unicode/utf8.acceptRanges", laid_unicode_utf8_acceptRanges), ("smithy/api.ErrPath", laid_smithy_api_ErrPath), ("unicode/utf8.first", laid_unicode_utf8_first)], narrowed := true }
def LabelBackUptoSaid : Prop := labelBackUptoRow.holds Tryd.pinned (OpenSpec.upto labelBackSpec)

/-- 'smithylaw17.LabelSorts', WHERE WHAT IT READS IS OF BULK AT MOST 1048576: true; the input reads as it did. -/
def labelSortsUptoRow : OpenClaim := { program := "ytcfljnfaakjdjaadoor", sum := "2b6be3f6848f52c77394d42b55d5fa5c8a6fc2025244f598cfcdf1087a1edc8f", func := "smithy/smithylaw17.LabelSorts", spec := "labelSorts", inPlace := ["internal/bytealg.CountString", "internal/bytealg.IndexByteString", "internal/bytealg.IndexString", "internal/bytealg.abigen_runtime_cmpstring"], unfollowed := true, recurses := true, named := ["smithy/api.ErrPath", "unicode/utf8.first", "unicode/utf8.acceptRanges", "internal/bytealg.MaxLen"], apart := false, laid := [("unicode/utf8.acceptRanges", laid_unicode_utf8_acceptRanges), ("smithy/api.ErrPath", laid_smithy_api_ErrPath), ("unicode/utf8.first", laid_unicode_utf8_first)], narrowed := true }
def LabelSortsUptoSaid : Prop := labelSortsUptoRow.holds Tryd.pinned (OpenSpec.upto labelSortsSpec)

/-- 'smithylaw1.PathStars', WHERE WHAT IT READS IS OF BULK AT MOST 1048576: true; the input reads as it did. -/
def pathStarsUptoRow : OpenClaim := { program := "ytcfljnfaakjdjaadoor", sum := "2b6be3f6848f52c77394d42b55d5fa5c8a6fc2025244f598cfcdf1087a1edc8f", func := "smithy/smithylaw1.PathStars", spec := "pathStars", inPlace := ["internal/bytealg.CountString", "internal/bytealg.IndexByteString", "internal/bytealg.IndexString", "internal/abi.NoEscape", "internal/bytealg.MakeNoZero"], named := ["smithy/api.ErrPath", "unicode/utf8.first", "unicode/utf8.acceptRanges", "internal/bytealg.MaxLen"], apart := false, laid := [("unicode/utf8.acceptRanges", laid_unicode_utf8_acceptRanges), ("smithy/api.ErrPath", laid_smithy_api_ErrPath), ("unicode/utf8.first", laid_unicode_utf8_first)], narrowed := true }
def PathStarsUptoSaid : Prop := pathStarsUptoRow.holds Tryd.pinned (OpenSpec.upto pathStarsSpec)

/-- 'smithylaw1.PathDirs', WHERE WHAT IT READS IS OF BULK AT MOST 1048576: true; the input reads as it did. -/
def pathDirsUptoRow : OpenClaim := { program := "ytcfljnfaakjdjaadoor", sum := "2b6be3f6848f52c77394d42b55d5fa5c8a6fc2025244f598cfcdf1087a1edc8f", func := "smithy/smithylaw1.PathDirs", spec := "pathDirs", inPlace := ["internal/bytealg.CountString", "internal/bytealg.IndexByteString", "internal/bytealg.IndexString", "internal/abi.NoEscape", "internal/bytealg.MakeNoZero"], named := ["smithy/api.ErrPath", "unicode/utf8.first", "unicode/utf8.acceptRanges", "internal/bytealg.MaxLen"], apart := false, laid := [("unicode/utf8.acceptRanges", laid_unicode_utf8_acceptRanges), ("smithy/api.ErrPath", laid_smithy_api_ErrPath), ("unicode/utf8.first", laid_unicode_utf8_first)], narrowed := true }
def PathDirsUptoSaid : Prop := pathDirsUptoRow.holds Tryd.pinned (OpenSpec.upto pathDirsSpec)

/-- 'smithylaw1.PathSays', WHERE WHAT IT READS IS OF BULK AT MOST 1048576: true; the input reads as it did. -/
def pathSaysUptoRow : OpenClaim := { program := "ytcfljnfaakjdjaadoor", sum := "2b6be3f6848f52c77394d42b55d5fa5c8a6fc2025244f598cfcdf1087a1edc8f", func := "smithy/smithylaw1.PathSays", spec := "pathSays", inPlace := ["internal/bytealg.CountString", "internal/bytealg.IndexByteString", "internal/bytealg.IndexString", "internal/abi.NoEscape", "internal/bytealg.MakeNoZero"], named := ["smithy/api.ErrPath", "unicode/utf8.first", "unicode/utf8.acceptRanges", "internal/bytealg.MaxLen", "smithy/api.ErrLex", "smithy/api.ErrParse", "smithy/api.ErrResolve", "smithy/api.ErrDynamic", "smithy/api.ErrCycle", "smithy/api.ErrVisibility", "smithy/api.ErrAnalysis", "smithy/api.ErrLimit", "smithy/api.ErrMissing", "smithy/api.ErrMany", "smithy/api.ErrKind", "smithy/api.ErrShape", "smithy/api.ErrEnd", "smithy/api.ErrRange", "smithy/api.ErrDown", "smithy/api.ErrFail"], apart := false, laid := [("unicode/utf8.acceptRanges", laid_unicode_utf8_acceptRanges), ("smithy/api.ErrLex", laid_smithy_api_ErrLex), ("smithy/api.ErrParse", laid_smithy_api_ErrParse), ("smithy/api.ErrResolve", laid_smithy_api_ErrResolve), ("smithy/api.ErrDynamic", laid_smithy_api_ErrDynamic), ("smithy/api.ErrCycle", laid_smithy_api_ErrCycle), ("smithy/api.ErrVisibility", laid_smithy_api_ErrVisibility), ("smithy/api.ErrAnalysis", laid_smithy_api_ErrAnalysis), ("smithy/api.ErrLimit", laid_smithy_api_ErrLimit), ("smithy/api.ErrMissing", laid_smithy_api_ErrMissing), ("smithy/api.ErrMany", laid_smithy_api_ErrMany), ("smithy/api.ErrKind", laid_smithy_api_ErrKind), ("smithy/api.ErrPath", laid_smithy_api_ErrPath), ("smithy/api.ErrShape", laid_smithy_api_ErrShape), ("smithy/api.ErrEnd", laid_smithy_api_ErrEnd), ("smithy/api.ErrRange", laid_smithy_api_ErrRange), ("smithy/api.ErrDown", laid_smithy_api_ErrDown), ("smithy/api.ErrFail", laid_smithy_api_ErrFail), ("unicode/utf8.first", laid_unicode_utf8_first)], narrowed := true }
def PathSaysUptoSaid : Prop := pathSaysUptoRow.holds Tryd.pinned (OpenSpec.upto pathSaysSpec)

/-- 'smithylaw1.PathAgain', WHERE WHAT IT READS IS OF BULK AT MOST 1048576: true; the input reads as it did. -/
def pathAgainUptoRow : OpenClaim := { program := "ytcfljnfaakjdjaadoor", sum := "2b6be3f6848f52c77394d42b55d5fa5c8a6fc2025244f598cfcdf1087a1edc8f", func := "smithy/smithylaw1.PathAgain", spec := "pathAgain", inPlace := ["internal/bytealg.CountString", "internal/bytealg.IndexByteString", "internal/bytealg.IndexString", "internal/abi.NoEscape", "internal/bytealg.MakeNoZero"], named := ["smithy/api.ErrPath", "unicode/utf8.first", "unicode/utf8.acceptRanges", "internal/bytealg.MaxLen"], apart := false, laid := [("unicode/utf8.acceptRanges", laid_unicode_utf8_acceptRanges), ("smithy/api.ErrPath", laid_smithy_api_ErrPath), ("unicode/utf8.first", laid_unicode_utf8_first)], narrowed := true }
def PathAgainUptoSaid : Prop := pathAgainUptoRow.holds Tryd.pinned (OpenSpec.upto pathAgainSpec)

/-- 'smithylaw1.PathMatches', WHERE WHAT IT READS IS OF BULK AT MOST 1048576: true; the input reads as it did. -/
def pathMatchesUptoRow : OpenClaim := { program := "ytcfljnfaakjdjaadoor", sum := "2b6be3f6848f52c77394d42b55d5fa5c8a6fc2025244f598cfcdf1087a1edc8f", func := "smithy/smithylaw1.PathMatches", spec := "pathMatches", inPlace := ["internal/bytealg.CountString", "internal/bytealg.IndexByteString", "internal/bytealg.IndexString", "internal/abi.NoEscape", "internal/bytealg.MakeNoZero"], recurses := true, named := ["smithy/api.ErrPath", "unicode/utf8.first", "unicode/utf8.acceptRanges", "internal/bytealg.MaxLen", "smithy/api.ErrLex", "smithy/api.ErrParse", "smithy/api.ErrResolve", "smithy/api.ErrDynamic", "smithy/api.ErrCycle", "smithy/api.ErrVisibility", "smithy/api.ErrAnalysis", "smithy/api.ErrLimit", "smithy/api.ErrMissing", "smithy/api.ErrMany", "smithy/api.ErrKind", "smithy/api.ErrShape", "smithy/api.ErrEnd", "smithy/api.ErrRange", "smithy/api.ErrDown", "smithy/api.ErrFail"], apart := false, laid := [("unicode/utf8.acceptRanges", laid_unicode_utf8_acceptRanges), ("smithy/api.ErrLex", laid_smithy_api_ErrLex), ("smithy/api.ErrParse", laid_smithy_api_ErrParse), ("smithy/api.ErrResolve", laid_smithy_api_ErrResolve), ("smithy/api.ErrDynamic", laid_smithy_api_ErrDynamic), ("smithy/api.ErrCycle", laid_smithy_api_ErrCycle), ("smithy/api.ErrVisibility", laid_smithy_api_ErrVisibility), ("smithy/api.ErrAnalysis", laid_smithy_api_ErrAnalysis), ("smithy/api.ErrLimit", laid_smithy_api_ErrLimit), ("smithy/api.ErrMissing", laid_smithy_api_ErrMissing), ("smithy/api.ErrMany", laid_smithy_api_ErrMany), ("smithy/api.ErrKind", laid_smithy_api_ErrKind), ("smithy/api.ErrPath", laid_smithy_api_ErrPath), ("smithy/api.ErrShape", laid_smithy_api_ErrShape), ("smithy/api.ErrEnd", laid_smithy_api_ErrEnd), ("smithy/api.ErrRange", laid_smithy_api_ErrRange), ("smithy/api.ErrDown", laid_smithy_api_ErrDown), ("smithy/api.ErrFail", laid_smithy_api_ErrFail), ("unicode/utf8.first", laid_unicode_utf8_first)], narrowed := true }
def PathMatchesUptoSaid : Prop := pathMatchesUptoRow.holds Tryd.pinned (OpenSpec.upto pathMatchesSpec)

/-- 'smithylaw1.PathGlobs', WHERE WHAT IT READS IS OF BULK AT MOST 1048576: true; the input reads as it did. -/
def pathGlobsUptoRow : OpenClaim := { program := "ytcfljnfaakjdjaadoor", sum := "2b6be3f6848f52c77394d42b55d5fa5c8a6fc2025244f598cfcdf1087a1edc8f", func := "smithy/smithylaw1.PathGlobs", spec := "pathGlobs", inPlace := ["internal/bytealg.CountString", "internal/bytealg.IndexByteString", "internal/bytealg.IndexString", "internal/abi.NoEscape", "internal/bytealg.MakeNoZero"], recurses := true, named := ["smithy/api.ErrPath", "unicode/utf8.first", "unicode/utf8.acceptRanges", "internal/bytealg.MaxLen"], apart := false, laid := [("unicode/utf8.acceptRanges", laid_unicode_utf8_acceptRanges), ("smithy/api.ErrPath", laid_smithy_api_ErrPath), ("unicode/utf8.first", laid_unicode_utf8_first)], narrowed := true }
def PathGlobsUptoSaid : Prop := pathGlobsUptoRow.holds Tryd.pinned (OpenSpec.upto pathGlobsSpec)

end Rows
end Go.Proofs.YtcfljnfaakjdjaaDoor
