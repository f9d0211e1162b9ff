/-
  NARROWER THAN 'FOR EVERY INPUT', by the rows' own cells (each row's printed sentence says how): LabelSorts: laid · DiskArms: laid · DiskKeeps: laid · DiskFiles: laid · CacheReads: laid · CacheLast: laid · CacheFalls: laid · GraphRings: laid.
  DERIVED. THE GIVEN ROWS OF THIS SEAT. 8 by the template 'for every input the law returns true; each argument reads behind the call as it read before'; 0 by the template 'total and deterministic' (their statements: YtlonpmajnglmoaaDoorTotals.lean).
  GIVEN WITH THE SEED: the statements are not yours to turn. If you find one false, say at which input.
  Laid BY PROGRAM, IN A SANDBOX (cutbox-rows.mjs): the forced cells as the released guide's own fill.sh prints them over the translation 7e3b17ffe27c6f45… (all of the seat's roots in one cut). By AI agents, Wed Nov 11 2026. No macro, syntax, notation, axiom, sorry.
-/
import Derived.Test.YtlonpmajnglmoaaDoorChecked
import GoSem.PinnedTables
import GoSem.Claim
import GoSem.ClaimJoined
import GoSem.ClaimMapViews
import Derived.JoinedTies
import Derived.KernelRfl
namespace Go.Proofs.YtlonpmajnglmoaaDoor
/- THE CELL 'sum', in the pinned program and in every row, IS THE sha256 OF THE DUMP (.gsa) THAT YtlonpmajnglmoaaDoorProg.lean LOADS. Nothing in Lean hashes anything: it is a label: what it is worth is what the hold of that sum in a sandbox is worth. -/
noncomputable def Tryd.pinned : Pinned := { name := "ytlonpmajnglmoaadoor", sum := "7e3b17ffe27c6f45d2f8ee89194494621523dcb805fdc9da34e0e6e233fbc800", checked := Tryd.checked }
namespace Rows
def none {H : Type} : Left H := { results := [], args := [] }

/- WHAT THE LISTED PACKAGE-LEVEL VARIABLES READ AS WHEN THE CALL BEGINS. Each datum BY PROGRAM (the guide's laid-datum.mjs) off the statement by which the dump's own 'gosem.cut.vars' lays the variable. In a bare row this is a premise. The card (YtlonpmajnglmoaaDoorCards.lean) ties it to the program's text. -/
def laid_unicode_utf8_acceptRanges {H : Type} : DataW H := .agg [.agg [.lit (.int .u8 128), .lit (.int .u8 191)], .agg [.lit (.int .u8 160), .lit (.int .u8 191)], .agg [.lit (.int .u8 128), .lit (.int .u8 159)], .agg [.lit (.int .u8 144), .lit (.int .u8 191)], .agg [.lit (.int .u8 128), .lit (.int .u8 143)], .agg [.lit (.int .u8 0), .lit (.int .u8 0)], .agg [.lit (.int .u8 0), .lit (.int .u8 0)], .agg [.lit (.int .u8 0), .lit (.int .u8 0)], .agg [.lit (.int .u8 0), .lit (.int .u8 0)], .agg [.lit (.int .u8 0), .lit (.int .u8 0)], .agg [.lit (.int .u8 0), .lit (.int .u8 0)], .agg [.lit (.int .u8 0), .lit (.int .u8 0)], .agg [.lit (.int .u8 0), .lit (.int .u8 0)], .agg [.lit (.int .u8 0), .lit (.int .u8 0)], .agg [.lit (.int .u8 0), .lit (.int .u8 0)], .agg [.lit (.int .u8 0), .lit (.int .u8 0)]]
def laid_smithy_api_ErrPath {H : Type} : DataW H := .iface "*errors.errorString" (.ptr (.agg [.lit (.string [110, 111, 32, 112, 97, 116, 104])]))
/-- One of Go's own tables, pinned by name: the form's constant. -/
def laid_unicode_utf8_first : DataW Unit := Go.Pinned.utf8First
def laid_smithy_api_ErrLex {H : Type} : DataW H := .iface "*errors.errorString" (.ptr (.agg [.lit (.string [108, 101, 120])]))
def laid_smithy_api_ErrParse {H : Type} : DataW H := .iface "*errors.errorString" (.ptr (.agg [.lit (.string [112, 97, 114, 115, 101])]))
def laid_smithy_api_ErrResolve {H : Type} : DataW H := .iface "*errors.errorString" (.ptr (.agg [.lit (.string [114, 101, 115, 111, 108, 118, 101])]))
def laid_smithy_api_ErrDynamic {H : Type} : DataW H := .iface "*errors.errorString" (.ptr (.agg [.lit (.string [100, 121, 110, 97, 109, 105, 99])]))
def laid_smithy_api_ErrCycle {H : Type} : DataW H := .iface "*errors.errorString" (.ptr (.agg [.lit (.string [99, 121, 99, 108, 101])]))
def laid_smithy_api_ErrVisibility {H : Type} : DataW H := .iface "*errors.errorString" (.ptr (.agg [.lit (.string [118, 105, 115, 105, 98, 105, 108, 105, 116, 121])]))
def laid_smithy_api_ErrAnalysis {H : Type} : DataW H := .iface "*errors.errorString" (.ptr (.agg [.lit (.string [97, 110, 97, 108, 121, 115, 105, 115])]))
def laid_smithy_api_ErrLimit {H : Type} : DataW H := .iface "*errors.errorString" (.ptr (.agg [.lit (.string [108, 105, 109, 105, 116])]))
def laid_smithy_api_ErrMissing {H : Type} : DataW H := .iface "*errors.errorString" (.ptr (.agg [.lit (.string [109, 105, 115, 115, 105, 110, 103])]))
def laid_smithy_api_ErrMany {H : Type} : DataW H := .iface "*errors.errorString" (.ptr (.agg [.lit (.string [116, 111, 111, 32, 109, 97, 110, 121])]))
def laid_smithy_api_ErrKind {H : Type} : DataW H := .iface "*errors.errorString" (.ptr (.agg [.lit (.string [110, 111, 32, 115, 117, 99, 104, 32, 107, 105, 110, 100])]))
def laid_smithy_api_ErrShape {H : Type} : DataW H := .iface "*errors.errorString" (.ptr (.agg [.lit (.string [110, 111, 116, 32, 116, 104, 101, 32, 115, 104, 97, 112, 101, 32, 116, 104, 97, 116, 32, 105, 116, 32, 104, 97, 115, 32, 116, 111, 32, 104, 97, 118, 101])]))
def laid_smithy_api_ErrEnd {H : Type} : DataW H := .iface "*errors.errorString" (.ptr (.agg [.lit (.string [105, 116, 32, 101, 110, 100, 115, 32, 116, 111, 111, 32, 101, 97, 114, 108, 121])]))
def laid_smithy_api_ErrRange {H : Type} : DataW H := .iface "*errors.errorString" (.ptr (.agg [.lit (.string [97, 32, 110, 117, 109, 98, 101, 114, 32, 111, 117, 116, 32, 111, 102, 32, 105, 116, 115, 32, 114, 97, 110, 103, 101])]))
def laid_smithy_api_ErrDown {H : Type} : DataW H := .iface "*errors.errorString" (.ptr (.agg [.lit (.string [116, 104, 101, 32, 112, 111, 119, 101, 114, 32, 104, 97, 115, 32, 103, 111, 110, 101])]))
def laid_smithy_api_ErrFail {H : Type} : DataW H := .iface "*errors.errorString" (.ptr (.agg [.lit (.string [105, 116, 32, 104, 97, 115, 32, 102, 97, 105, 108, 101, 100])]))

/-- 'smithylaw17.LabelSorts': WHATEVER THE INPUT: true; the input reads as it did. -/
def labelSortsSpec : ChangeSpec := { name := "labelSorts", fn := fun _ => fun
  | [d] => { results := [.lit (.bool true)], args := [d] }
  | _ => none }
def labelSortsRow : OpenClaim := { program := "ytlonpmajnglmoaadoor", sum := "7e3b17ffe27c6f45d2f8ee89194494621523dcb805fdc9da34e0e6e233fbc800", func := "smithy/smithylaw17.LabelSorts", spec := "labelSorts", inPlace := ["internal/bytealg.CountString", "internal/bytealg.IndexByteString", "internal/bytealg.IndexString", "internal/bytealg.abigen_runtime_cmpstring"], unfollowed := true, recurses := true, named := ["smithy/api.ErrPath", "unicode/utf8.first", "unicode/utf8.acceptRanges", "internal/bytealg.MaxLen"], plainKeys := false, apart := false, laid := [("unicode/utf8.acceptRanges", laid_unicode_utf8_acceptRanges), ("smithy/api.ErrPath", laid_smithy_api_ErrPath), ("unicode/utf8.first", laid_unicode_utf8_first)] }
def LabelSortsSaid : Prop := labelSortsRow.holds Tryd.pinned (OpenSpec.ofChange labelSortsSpec)

/-- ITS FALSE NEIGHBOUR: 'it returns false'. Refute it at one input. -/
def labelSortsWrong : ChangeSpec := { name := "labelSorts", fn := fun _ => fun
  | [d] => { results := [.lit (.bool false)], args := [d] }
  | _ => none }
def LabelSortsWrongFalsely : Prop := labelSortsRow.holds Tryd.pinned (OpenSpec.ofChange labelSortsWrong)

/-- 'smithylaw3.DiskArms': WHATEVER THE INPUT: true; the input reads as it did. -/
def diskArmsSpec : ChangeSpec := { name := "diskArms", fn := fun _ => fun
  | [d1, d2] => { results := [.lit (.bool true)], args := [d1, d2] }
  | _ => none }
def diskArmsRow : OpenClaim := { program := "ytlonpmajnglmoaadoor", sum := "7e3b17ffe27c6f45d2f8ee89194494621523dcb805fdc9da34e0e6e233fbc800", func := "smithy/smithylaw3.DiskArms", spec := "diskArms", inPlace := ["internal/bytealg.CountString", "internal/bytealg.IndexByteString", "internal/bytealg.IndexString"], unfollowed := true, recurses := true, named := ["smithy/api.ErrPath", "smithy/api.ErrMany", "unicode/utf8.first", "unicode/utf8.acceptRanges", "internal/bytealg.MaxLen", "smithy/api.ErrDown", "smithy/api.ErrLex", "smithy/api.ErrParse", "smithy/api.ErrResolve", "smithy/api.ErrDynamic", "smithy/api.ErrCycle", "smithy/api.ErrVisibility", "smithy/api.ErrAnalysis", "smithy/api.ErrLimit", "smithy/api.ErrMissing", "smithy/api.ErrKind", "smithy/api.ErrShape", "smithy/api.ErrEnd", "smithy/api.ErrRange", "smithy/api.ErrFail"], plainKeys := false, apart := false, laid := [("unicode/utf8.acceptRanges", laid_unicode_utf8_acceptRanges), ("smithy/api.ErrLex", laid_smithy_api_ErrLex), ("smithy/api.ErrParse", laid_smithy_api_ErrParse), ("smithy/api.ErrResolve", laid_smithy_api_ErrResolve), ("smithy/api.ErrDynamic", laid_smithy_api_ErrDynamic), ("smithy/api.ErrCycle", laid_smithy_api_ErrCycle), ("smithy/api.ErrVisibility", laid_smithy_api_ErrVisibility), ("smithy/api.ErrAnalysis", laid_smithy_api_ErrAnalysis), ("smithy/api.ErrLimit", laid_smithy_api_ErrLimit), ("smithy/api.ErrMissing", laid_smithy_api_ErrMissing), ("smithy/api.ErrMany", laid_smithy_api_ErrMany), ("smithy/api.ErrKind", laid_smithy_api_ErrKind), ("smithy/api.ErrPath", laid_smithy_api_ErrPath), ("smithy/api.ErrShape", laid_smithy_api_ErrShape), ("smithy/api.ErrEnd", laid_smithy_api_ErrEnd), ("smithy/api.ErrRange", laid_smithy_api_ErrRange), ("smithy/api.ErrDown", laid_smithy_api_ErrDown), ("smithy/api.ErrFail", laid_smithy_api_ErrFail), ("unicode/utf8.first", laid_unicode_utf8_first)] }
def DiskArmsSaid : Prop := diskArmsRow.holds Tryd.pinned (OpenSpec.ofChange diskArmsSpec)

/-- ITS FALSE NEIGHBOUR: 'it returns false'. Refute it at one input. -/
def diskArmsWrong : ChangeSpec := { name := "diskArms", fn := fun _ => fun
  | [d1, d2] => { results := [.lit (.bool false)], args := [d1, d2] }
  | _ => none }
def DiskArmsWrongFalsely : Prop := diskArmsRow.holds Tryd.pinned (OpenSpec.ofChange diskArmsWrong)

/-- 'smithylaw3.DiskKeeps': WHATEVER THE INPUT: true; the input reads as it did. -/
def diskKeepsSpec : ChangeSpec := { name := "diskKeeps", fn := fun _ => fun
  | [d1, d2, d3] => { results := [.lit (.bool true)], args := [d1, d2, d3] }
  | _ => none }
def diskKeepsRow : OpenClaim := { program := "ytlonpmajnglmoaadoor", sum := "7e3b17ffe27c6f45d2f8ee89194494621523dcb805fdc9da34e0e6e233fbc800", func := "smithy/smithylaw3.DiskKeeps", spec := "diskKeeps", inPlace := ["internal/bytealg.CountString", "internal/bytealg.IndexByteString", "internal/bytealg.IndexString"], unfollowed := true, recurses := true, named := ["smithy/api.ErrPath", "smithy/api.ErrMany", "unicode/utf8.first", "unicode/utf8.acceptRanges", "internal/bytealg.MaxLen", "smithy/api.ErrDown", "smithy/api.ErrLex", "smithy/api.ErrParse", "smithy/api.ErrResolve", "smithy/api.ErrDynamic", "smithy/api.ErrCycle", "smithy/api.ErrVisibility", "smithy/api.ErrAnalysis", "smithy/api.ErrLimit", "smithy/api.ErrMissing", "smithy/api.ErrKind", "smithy/api.ErrShape", "smithy/api.ErrEnd", "smithy/api.ErrRange", "smithy/api.ErrFail"], plainKeys := false, apart := false, laid := [("unicode/utf8.acceptRanges", laid_unicode_utf8_acceptRanges), ("smithy/api.ErrLex", laid_smithy_api_ErrLex), ("smithy/api.ErrParse", laid_smithy_api_ErrParse), ("smithy/api.ErrResolve", laid_smithy_api_ErrResolve), ("smithy/api.ErrDynamic", laid_smithy_api_ErrDynamic), ("smithy/api.ErrCycle", laid_smithy_api_ErrCycle), ("smithy/api.ErrVisibility", laid_smithy_api_ErrVisibility), ("smithy/api.ErrAnalysis", laid_smithy_api_ErrAnalysis), ("smithy/api.ErrLimit", laid_smithy_api_ErrLimit), ("smithy/api.ErrMissing", laid_smithy_api_ErrMissing), ("smithy/api.ErrMany", laid_smithy_api_ErrMany), ("smithy/api.ErrKind", laid_smithy_api_ErrKind), ("smithy/api.ErrPath", laid_smithy_api_ErrPath), ("smithy/api.ErrShape", laid_smithy_api_ErrShape), ("smithy/api.ErrEnd", laid_smithy_api_ErrEnd), ("smithy/api.ErrRange", laid_smithy_api_ErrRange), ("smithy/api.ErrDown", laid_smithy_api_ErrDown), ("smithy/api.ErrFail", laid_smithy_api_ErrFail), ("unicode/utf8.first", laid_unicode_utf8_first)] }
def DiskKeepsSaid : Prop := diskKeepsRow.holds Tryd.pinned (OpenSpec.ofChange diskKeepsSpec)

/-- ITS FALSE NEIGHBOUR: 'it returns false'. Refute it at one input. -/
def diskKeepsWrong : ChangeSpec := { name := "diskKeeps", fn := fun _ => fun
  | [d1, d2, d3] => { results := [.lit (.bool false)], args := [d1, d2, d3] }
  | _ => none }
def DiskKeepsWrongFalsely : Prop := diskKeepsRow.holds Tryd.pinned (OpenSpec.ofChange diskKeepsWrong)

/-- 'smithylaw3.DiskFiles': WHATEVER THE INPUT: true; the input reads as it did. -/
def diskFilesSpec : ChangeSpec := { name := "diskFiles", fn := fun _ => fun
  | [d] => { results := [.lit (.bool true)], args := [d] }
  | _ => none }
def diskFilesRow : OpenClaim := { program := "ytlonpmajnglmoaadoor", sum := "7e3b17ffe27c6f45d2f8ee89194494621523dcb805fdc9da34e0e6e233fbc800", func := "smithy/smithylaw3.DiskFiles", spec := "diskFiles", inPlace := ["internal/bytealg.CountString", "internal/bytealg.IndexByteString", "internal/bytealg.IndexString"], unfollowed := true, recurses := true, named := ["smithy/api.ErrPath", "smithy/api.ErrMany", "unicode/utf8.first", "unicode/utf8.acceptRanges", "internal/bytealg.MaxLen", "smithy/api.ErrDown", "smithy/api.ErrLex", "smithy/api.ErrParse", "smithy/api.ErrResolve", "smithy/api.ErrDynamic", "smithy/api.ErrCycle", "smithy/api.ErrVisibility", "smithy/api.ErrAnalysis", "smithy/api.ErrLimit", "smithy/api.ErrMissing", "smithy/api.ErrKind", "smithy/api.ErrShape", "smithy/api.ErrEnd", "smithy/api.ErrRange", "smithy/api.ErrFail"], plainKeys := false, apart := false, laid := [("unicode/utf8.acceptRanges", laid_unicode_utf8_acceptRanges), ("smithy/api.ErrLex", laid_smithy_api_ErrLex), ("smithy/api.ErrParse", laid_smithy_api_ErrParse), ("smithy/api.ErrResolve", laid_smithy_api_ErrResolve), ("smithy/api.ErrDynamic", laid_smithy_api_ErrDynamic), ("smithy/api.ErrCycle", laid_smithy_api_ErrCycle), ("smithy/api.ErrVisibility", laid_smithy_api_ErrVisibility), ("smithy/api.ErrAnalysis", laid_smithy_api_ErrAnalysis), ("smithy/api.ErrLimit", laid_smithy_api_ErrLimit), ("smithy/api.ErrMissing", laid_smithy_api_ErrMissing), ("smithy/api.ErrMany", laid_smithy_api_ErrMany), ("smithy/api.ErrKind", laid_smithy_api_ErrKind), ("smithy/api.ErrPath", laid_smithy_api_ErrPath), ("smithy/api.ErrShape", laid_smithy_api_ErrShape), ("smithy/api.ErrEnd", laid_smithy_api_ErrEnd), ("smithy/api.ErrRange", laid_smithy_api_ErrRange), ("smithy/api.ErrDown", laid_smithy_api_ErrDown), ("smithy/api.ErrFail", laid_smithy_api_ErrFail), ("unicode/utf8.first", laid_unicode_utf8_first)] }
def DiskFilesSaid : Prop := diskFilesRow.holds Tryd.pinned (OpenSpec.ofChange diskFilesSpec)

/-- ITS FALSE NEIGHBOUR: 'it returns false'. Refute it at one input. -/
def diskFilesWrong : ChangeSpec := { name := "diskFiles", fn := fun _ => fun
  | [d] => { results := [.lit (.bool false)], args := [d] }
  | _ => none }
def DiskFilesWrongFalsely : Prop := diskFilesRow.holds Tryd.pinned (OpenSpec.ofChange diskFilesWrong)

/-- 'smithylaw25.CacheReads': WHATEVER THE INPUT: true; the input reads as it did. -/
def cacheReadsSpec : ChangeSpec := { name := "cacheReads", fn := fun _ => fun
  | [d1, d2, d3] => { results := [.lit (.bool true)], args := [d1, d2, d3] }
  | _ => none }
def cacheReadsRow : OpenClaim := { program := "ytlonpmajnglmoaadoor", sum := "7e3b17ffe27c6f45d2f8ee89194494621523dcb805fdc9da34e0e6e233fbc800", func := "smithy/smithylaw25.CacheReads", spec := "cacheReads", inPlace := ["internal/bytealg.CountString", "internal/bytealg.IndexByteString", "internal/bytealg.IndexString"], recurses := true, named := ["smithy/api.ErrPath", "smithy/api.ErrMany", "unicode/utf8.first", "unicode/utf8.acceptRanges", "internal/bytealg.MaxLen", "smithy/api.ErrDown", "smithy/api.ErrShape"], plainKeys := false, apart := false, laid := [("unicode/utf8.acceptRanges", laid_unicode_utf8_acceptRanges), ("smithy/api.ErrMany", laid_smithy_api_ErrMany), ("smithy/api.ErrPath", laid_smithy_api_ErrPath), ("smithy/api.ErrShape", laid_smithy_api_ErrShape), ("smithy/api.ErrDown", laid_smithy_api_ErrDown), ("unicode/utf8.first", laid_unicode_utf8_first)] }
def CacheReadsSaid : Prop := cacheReadsRow.holds Tryd.pinned (OpenSpec.ofChange cacheReadsSpec)

/-- ITS FALSE NEIGHBOUR: 'it returns false'. Refute it at one input. -/
def cacheReadsWrong : ChangeSpec := { name := "cacheReads", fn := fun _ => fun
  | [d1, d2, d3] => { results := [.lit (.bool false)], args := [d1, d2, d3] }
  | _ => none }
def CacheReadsWrongFalsely : Prop := cacheReadsRow.holds Tryd.pinned (OpenSpec.ofChange cacheReadsWrong)

/-- 'smithylaw25.CacheLast': WHATEVER THE INPUT: true; the input reads as it did. -/
def cacheLastSpec : ChangeSpec := { name := "cacheLast", fn := fun _ => fun
  | [d] => { results := [.lit (.bool true)], args := [d] }
  | _ => none }
def cacheLastRow : OpenClaim := { program := "ytlonpmajnglmoaadoor", sum := "7e3b17ffe27c6f45d2f8ee89194494621523dcb805fdc9da34e0e6e233fbc800", func := "smithy/smithylaw25.CacheLast", spec := "cacheLast", inPlace := ["internal/bytealg.CountString", "internal/bytealg.IndexByteString", "internal/bytealg.IndexString"], recurses := true, named := ["smithy/api.ErrPath", "smithy/api.ErrMany", "unicode/utf8.first", "unicode/utf8.acceptRanges", "internal/bytealg.MaxLen", "smithy/api.ErrDown", "smithy/api.ErrShape"], plainKeys := false, apart := false, laid := [("unicode/utf8.acceptRanges", laid_unicode_utf8_acceptRanges), ("smithy/api.ErrMany", laid_smithy_api_ErrMany), ("smithy/api.ErrPath", laid_smithy_api_ErrPath), ("smithy/api.ErrShape", laid_smithy_api_ErrShape), ("smithy/api.ErrDown", laid_smithy_api_ErrDown), ("unicode/utf8.first", laid_unicode_utf8_first)] }
def CacheLastSaid : Prop := cacheLastRow.holds Tryd.pinned (OpenSpec.ofChange cacheLastSpec)

/-- ITS FALSE NEIGHBOUR: 'it returns false'. Refute it at one input. -/
def cacheLastWrong : ChangeSpec := { name := "cacheLast", fn := fun _ => fun
  | [d] => { results := [.lit (.bool false)], args := [d] }
  | _ => none }
def CacheLastWrongFalsely : Prop := cacheLastRow.holds Tryd.pinned (OpenSpec.ofChange cacheLastWrong)

/-- 'smithylaw25.CacheFalls': WHATEVER THE INPUT: true; the input reads as it did. -/
def cacheFallsSpec : ChangeSpec := { name := "cacheFalls", fn := fun _ => fun
  | [d1, d2, d3, d4, d5] => { results := [.lit (.bool true)], args := [d1, d2, d3, d4, d5] }
  | _ => none }
def cacheFallsRow : OpenClaim := { program := "ytlonpmajnglmoaadoor", sum := "7e3b17ffe27c6f45d2f8ee89194494621523dcb805fdc9da34e0e6e233fbc800", func := "smithy/smithylaw25.CacheFalls", spec := "cacheFalls", inPlace := ["internal/bytealg.CountString", "internal/bytealg.IndexByteString", "internal/bytealg.IndexString"], unfollowed := true, recurses := true, named := ["smithy/api.ErrPath", "smithy/api.ErrMany", "unicode/utf8.first", "unicode/utf8.acceptRanges", "internal/bytealg.MaxLen", "smithy/api.ErrDown", "smithy/api.ErrShape"], plainKeys := false, apart := false, laid := [("unicode/utf8.acceptRanges", laid_unicode_utf8_acceptRanges), ("smithy/api.ErrMany", laid_smithy_api_ErrMany), ("smithy/api.ErrPath", laid_smithy_api_ErrPath), ("smithy/api.ErrShape", laid_smithy_api_ErrShape), ("smithy/api.ErrDown", laid_smithy_api_ErrDown), ("unicode/utf8.first", laid_unicode_utf8_first)] }
def CacheFallsSaid : Prop := cacheFallsRow.holds Tryd.pinned (OpenSpec.ofChange cacheFallsSpec)

/-- ITS FALSE NEIGHBOUR: 'it returns false'. Refute it at one input. -/
def cacheFallsWrong : ChangeSpec := { name := "cacheFalls", fn := fun _ => fun
  | [d1, d2, d3, d4, d5] => { results := [.lit (.bool false)], args := [d1, d2, d3, d4, d5] }
  | _ => none }
def CacheFallsWrongFalsely : Prop := cacheFallsRow.holds Tryd.pinned (OpenSpec.ofChange cacheFallsWrong)

/-- 'smithylaw22.GraphRings': WHATEVER THE INPUT: true; the input reads as it did. -/
def graphRingsSpec : ChangeSpec := { name := "graphRings", fn := fun _ => fun
  | [d1, d2, d3] => { results := [.lit (.bool true)], args := [d1, d2, d3] }
  | _ => none }
def graphRingsRow : OpenClaim := { program := "ytlonpmajnglmoaadoor", sum := "7e3b17ffe27c6f45d2f8ee89194494621523dcb805fdc9da34e0e6e233fbc800", func := "smithy/smithylaw22.GraphRings", spec := "graphRings", inPlace := ["internal/bytealg.CountString", "internal/bytealg.IndexByteString", "internal/bytealg.IndexString"], unfollowed := true, recurses := true, named := ["smithy/api.ErrMany", "smithy/api.ErrCycle", "smithy/api.ErrKind", "smithy/api.ErrPath", "smithy/api.ErrAnalysis", "unicode/utf8.first", "unicode/utf8.acceptRanges", "internal/bytealg.MaxLen", "smithy/api.ErrLex", "smithy/api.ErrParse", "smithy/api.ErrResolve", "smithy/api.ErrDynamic", "smithy/api.ErrVisibility", "smithy/api.ErrLimit", "smithy/api.ErrMissing", "smithy/api.ErrShape", "smithy/api.ErrEnd", "smithy/api.ErrRange", "smithy/api.ErrDown", "smithy/api.ErrFail"], plainKeys := false, apart := false, laid := [("unicode/utf8.acceptRanges", laid_unicode_utf8_acceptRanges), ("smithy/api.ErrLex", laid_smithy_api_ErrLex), ("smithy/api.ErrParse", laid_smithy_api_ErrParse), ("smithy/api.ErrResolve", laid_smithy_api_ErrResolve), ("smithy/api.ErrDynamic", laid_smithy_api_ErrDynamic), ("smithy/api.ErrCycle", laid_smithy_api_ErrCycle), ("smithy/api.ErrVisibility", laid_smithy_api_ErrVisibility), ("smithy/api.ErrAnalysis", laid_smithy_api_ErrAnalysis), ("smithy/api.ErrLimit", laid_smithy_api_ErrLimit), ("smithy/api.ErrMissing", laid_smithy_api_ErrMissing), ("smithy/api.ErrMany", laid_smithy_api_ErrMany), ("smithy/api.ErrKind", laid_smithy_api_ErrKind), ("smithy/api.ErrPath", laid_smithy_api_ErrPath), ("smithy/api.ErrShape", laid_smithy_api_ErrShape), ("smithy/api.ErrEnd", laid_smithy_api_ErrEnd), ("smithy/api.ErrRange", laid_smithy_api_ErrRange), ("smithy/api.ErrDown", laid_smithy_api_ErrDown), ("smithy/api.ErrFail", laid_smithy_api_ErrFail), ("unicode/utf8.first", laid_unicode_utf8_first)] }
def GraphRingsSaid : Prop := graphRingsRow.holds Tryd.pinned (OpenSpec.ofChange graphRingsSpec)

/-- ITS FALSE NEIGHBOUR: 'it returns false'. Refute it at one input. -/
def graphRingsWrong : ChangeSpec := { name := "graphRings", fn := fun _ => fun
  | [d1, d2, d3] => { results := [.lit (.bool false)], args := [d1, d2, d3] }
  | _ => none }
def GraphRingsWrongFalsely : Prop := graphRingsRow.holds Tryd.pinned (OpenSpec.ofChange graphRingsWrong)

/- THE SECOND FORM. 'bulk': how many values and letters a reading holds, each counted each time it is reached (what is shared counts as often as it is met; a slice's spare places count too). A statement '..UptoSaid' is the law's where the arguments, and the package variables that the reading takes, are together of bulk at most 1048576: NARROWER than '..Said'. Prove '..Said' where nothing that the law and all that it calls make is longer than what came in: it says more and counts as full. Else prove '..UptoSaid'. A law counts once. -/
mutual
def uptoBulk {H : Type} : DataW H → Nat
  | .lit (.string bytes) => bytes.length + 1
  | .lit _ => 1
  | .nil => 1
  | .ptr d => uptoBulk d + 1
  | .slice elems spare => uptoBulkAll elems + uptoBulkAll spare + 1
  | .agg parts => uptoBulkAll parts + 1
  | .iface _ d => uptoBulk d + 1
  | .map entries => uptoBulkEntries entries + 1
  | .held _ => 1
def uptoBulkAll {H : Type} : List (DataW H) → Nat
  | [] => 0
  | d :: r => uptoBulk d + uptoBulkAll r
def uptoBulkEntries {H : Type} : List (Lit × DataW H) → Nat
  | [] => 0
  | x :: r => uptoBulkEntry x + uptoBulkEntries r
def uptoBulkEntry {H : Type} : Lit × DataW H → Nat
  | (.string bytes, d) => bytes.length + uptoBulk d + 1
  | (_, d) => uptoBulk d + 1
 end
def uptoSmall : (H : Type) → List (DataW H) → Bool := fun _ ds => decide (uptoBulkAll ds ≤ 1048576)
def OpenSpec.upto (s : _root_.Go.ChangeSpec) : _root_.Go.OpenSpec := { _root_.Go.OpenSpec.ofChange s with cond := some uptoSmall }

/-- 'smithylaw17.LabelSorts', WHERE WHAT IT READS IS OF BULK AT MOST 1048576: true; the input reads as it did. -/
def labelSortsUptoRow : OpenClaim := { program := "ytlonpmajnglmoaadoor", sum := "7e3b17ffe27c6f45d2f8ee89194494621523dcb805fdc9da34e0e6e233fbc800", func := "smithy/smithylaw17.LabelSorts", spec := "labelSorts", inPlace := ["internal/bytealg.CountString", "internal/bytealg.IndexByteString", "internal/bytealg.IndexString", "internal/bytealg.abigen_runtime_cmpstring"], unfollowed := true, recurses := true, named := ["smithy/api.ErrPath", "unicode/utf8.first", "unicode/utf8.acceptRanges", "internal/bytealg.MaxLen"], plainKeys := false, apart := false, laid := [("unicode/utf8.acceptRanges", laid_unicode_utf8_acceptRanges), ("smithy/api.ErrPath", laid_smithy_api_ErrPath), ("unicode/utf8.first", laid_unicode_utf8_first)], narrowed := true }
def LabelSortsUptoSaid : Prop := labelSortsUptoRow.holds Tryd.pinned (OpenSpec.upto labelSortsSpec)

/-- 'smithylaw3.DiskArms', WHERE WHAT IT READS IS OF BULK AT MOST 1048576: true; the input reads as it did. -/
def diskArmsUptoRow : OpenClaim := { program := "ytlonpmajnglmoaadoor", sum := "7e3b17ffe27c6f45d2f8ee89194494621523dcb805fdc9da34e0e6e233fbc800", func := "smithy/smithylaw3.DiskArms", spec := "diskArms", inPlace := ["internal/bytealg.CountString", "internal/bytealg.IndexByteString", "internal/bytealg.IndexString"], unfollowed := true, recurses := true, named := ["smithy/api.ErrPath", "smithy/api.ErrMany", "unicode/utf8.first", "unicode/utf8.acceptRanges", "internal/bytealg.MaxLen", "smithy/api.ErrDown", "smithy/api.ErrLex", "smithy/api.ErrParse", "smithy/api.ErrResolve", "smithy/api.ErrDynamic", "smithy/api.ErrCycle", "smithy/api.ErrVisibility", "smithy/api.ErrAnalysis", "smithy/api.ErrLimit", "smithy/api.ErrMissing", "smithy/api.ErrKind", "smithy/api.ErrShape", "smithy/api.ErrEnd", "smithy/api.ErrRange", "smithy/api.ErrFail"], plainKeys := false, apart := false, laid := [("unicode/utf8.acceptRanges", laid_unicode_utf8_acceptRanges), ("smithy/api.ErrLex", laid_smithy_api_ErrLex), ("smithy/api.ErrParse", laid_smithy_api_ErrParse), ("smithy/api.ErrResolve", laid_smithy_api_ErrResolve), ("smithy/api.ErrDynamic", laid_smithy_api_ErrDynamic), ("smithy/api.ErrCycle", laid_smithy_api_ErrCycle), ("smithy/api.ErrVisibility", laid_smithy_api_ErrVisibility), ("smithy/api.ErrAnalysis", laid_smithy_api_ErrAnalysis), ("smithy/api.ErrLimit", laid_smithy_api_ErrLimit), ("smithy/api.ErrMissing", laid_smithy_api_ErrMissing), ("smithy/api.ErrMany", laid_smithy_api_ErrMany), ("smithy/api.ErrKind", laid_smithy_api_ErrKind), ("smithy/api.ErrPath", laid_smithy_api_ErrPath), ("smithy/api.ErrShape", laid_smithy_api_ErrShape), ("smithy/api.ErrEnd", laid_smithy_api_ErrEnd), ("smithy/api.ErrRange", laid_smithy_api_ErrRange), ("smithy/api.ErrDown", laid_smithy_api_ErrDown), ("smithy/api.ErrFail", laid_smithy_api_ErrFail), ("unicode/utf8.first", laid_unicode_utf8_first)], narrowed := true }
def DiskArmsUptoSaid : Prop := diskArmsUptoRow.holds Tryd.pinned (OpenSpec.upto diskArmsSpec)

/-- 'smithylaw3.DiskKeeps', WHERE WHAT IT READS IS OF BULK AT MOST 1048576: true; the input reads as it did. -/
def diskKeepsUptoRow : OpenClaim := { program := "ytlonpmajnglmoaadoor", sum := "7e3b17ffe27c6f45d2f8ee89194494621523dcb805fdc9da34e0e6e233fbc800", func := "smithy/smithylaw3.DiskKeeps", spec := "diskKeeps", inPlace := ["internal/bytealg.CountString", "internal/bytealg.IndexByteString", "internal/bytealg.IndexString"], unfollowed := true, recurses := true, named := ["smithy/api.ErrPath", "smithy/api.ErrMany", "unicode/utf8.first", "unicode/utf8.acceptRanges", "internal/bytealg.MaxLen", "smithy/api.ErrDown", "smithy/api.ErrLex", "smithy/api.ErrParse", "smithy/api.ErrResolve", "smithy/api.ErrDynamic", "smithy/api.ErrCycle", "smithy/api.ErrVisibility", "smithy/api.ErrAnalysis", "smithy/api.ErrLimit", "smithy/api.ErrMissing", "smithy/api.ErrKind", "smithy/api.ErrShape", "smithy/api.ErrEnd", "smithy/api.ErrRange", "smithy/api.ErrFail"], plainKeys := false, apart := false, laid := [("unicode/utf8.acceptRanges", laid_unicode_utf8_acceptRanges), ("smithy/api.ErrLex", laid_smithy_api_ErrLex), ("smithy/api.ErrParse", laid_smithy_api_ErrParse), ("smithy/api.ErrResolve", laid_smithy_api_ErrResolve), ("smithy/api.ErrDynamic", laid_smithy_api_ErrDynamic), ("smithy/api.ErrCycle", laid_smithy_api_ErrCycle), ("smithy/api.ErrVisibility", laid_smithy_api_ErrVisibility), ("smithy/api.ErrAnalysis", laid_smithy_api_ErrAnalysis), ("smithy/api.ErrLimit", laid_smithy_api_ErrLimit), ("smithy/api.ErrMissing", laid_smithy_api_ErrMissing), ("smithy/api.ErrMany", laid_smithy_api_ErrMany), ("smithy/api.ErrKind", laid_smithy_api_ErrKind), ("smithy/api.ErrPath", laid_smithy_api_ErrPath), ("smithy/api.ErrShape", laid_smithy_api_ErrShape), ("smithy/api.ErrEnd", laid_smithy_api_ErrEnd), ("smithy/api.ErrRange", laid_smithy_api_ErrRange), ("smithy/api.ErrDown", laid_smithy_api_ErrDown), ("smithy/api.ErrFail", laid_smithy_api_ErrFail), ("unicode/utf8.first", laid_unicode_utf8_first)], narrowed := true }
def DiskKeepsUptoSaid : Prop := diskKeepsUptoRow.holds Tryd.pinned (OpenSpec.upto diskKeepsSpec)

/-- 'smithylaw3.DiskFiles', WHERE WHAT IT READS IS OF BULK AT MOST 1048576: true; the input reads as it did. -/
def diskFilesUptoRow : OpenClaim := { program := "ytlonpmajnglmoaadoor", sum := "7e3b17ffe27c6f45d2f8ee89194494621523dcb805fdc9da34e0e6e233fbc800", func := "smithy/smithylaw3.DiskFiles", spec := "diskFiles", inPlace := ["internal/bytealg.CountString", "internal/bytealg.IndexByteString", "internal/bytealg.IndexString"], unfollowed := true, recurses := true, named := ["smithy/api.ErrPath", "smithy/api.ErrMany", "unicode/utf8.first", "unicode/utf8.acceptRanges", "internal/bytealg.MaxLen", "smithy/api.ErrDown", "smithy/api.ErrLex", "smithy/api.ErrParse", "smithy/api.ErrResolve", "smithy/api.ErrDynamic", "smithy/api.ErrCycle", "smithy/api.ErrVisibility", "smithy/api.ErrAnalysis", "smithy/api.ErrLimit", "smithy/api.ErrMissing", "smithy/api.ErrKind", "smithy/api.ErrShape", "smithy/api.ErrEnd", "smithy/api.ErrRange", "smithy/api.ErrFail"], plainKeys := false, apart := false, laid := [("unicode/utf8.acceptRanges", laid_unicode_utf8_acceptRanges), ("smithy/api.ErrLex", laid_smithy_api_ErrLex), ("smithy/api.ErrParse", laid_smithy_api_ErrParse), ("smithy/api.ErrResolve", laid_smithy_api_ErrResolve), ("smithy/api.ErrDynamic", laid_smithy_api_ErrDynamic), ("smithy/api.ErrCycle", laid_smithy_api_ErrCycle), ("smithy/api.ErrVisibility", laid_smithy_api_ErrVisibility), ("smithy/api.ErrAnalysis", laid_smithy_api_ErrAnalysis), ("smithy/api.ErrLimit", laid_smithy_api_ErrLimit), ("smithy/api.ErrMissing", laid_smithy_api_ErrMissing), ("smithy/api.ErrMany", laid_smithy_api_ErrMany), ("smithy/api.ErrKind", laid_smithy_api_ErrKind), ("smithy/api.ErrPath", laid_smithy_api_ErrPath), ("smithy/api.ErrShape", laid_smithy_api_ErrShape), ("smithy/api.ErrEnd", laid_smithy_api_ErrEnd), ("smithy/api.ErrRange", laid_smithy_api_ErrRange), ("smithy/api.ErrDown", laid_smithy_api_ErrDown), ("smithy/api.ErrFail", laid_smithy_api_ErrFail), ("unicode/utf8.first", laid_unicode_utf8_first)], narrowed := true }
def DiskFilesUptoSaid : Prop := diskFilesUptoRow.holds Tryd.pinned (OpenSpec.upto diskFilesSpec)

/-- 'smithylaw25.CacheReads', WHERE WHAT IT READS IS OF BULK AT MOST 1048576: true; the input reads as it did. -/
def cacheReadsUptoRow : OpenClaim := { program := "ytlonpmajnglmoaadoor", sum := "7e3b17ffe27c6f45d2f8ee89194494621523dcb805fdc9da34e0e6e233fbc800", func := "smithy/smithylaw25.CacheReads", spec := "cacheReads", inPlace := ["internal/bytealg.CountString", "internal/bytealg.IndexByteString", "internal/bytealg.IndexString"], recurses := true, named := ["smithy/api.ErrPath", "smithy/api.ErrMany", "unicode/utf8.first", "unicode/utf8.acceptRanges", "internal/bytealg.MaxLen", "smithy/api.ErrDown", "smithy/api.ErrShape"], plainKeys := false, apart := false, laid := [("unicode/utf8.acceptRanges", laid_unicode_utf8_acceptRanges), ("smithy/api.ErrMany", laid_smithy_api_ErrMany), ("smithy/api.ErrPath", laid_smithy_api_ErrPath), ("smithy/api.ErrShape", laid_smithy_api_ErrShape), ("smithy/api.ErrDown", laid_smithy_api_ErrDown), ("unicode/utf8.first", laid_unicode_utf8_first)], narrowed := true }
def CacheReadsUptoSaid : Prop := cacheReadsUptoRow.holds Tryd.pinned (OpenSpec.upto cacheReadsSpec)

/-- 'smithylaw25.CacheLast', WHERE WHAT IT READS IS OF BULK AT MOST 1048576: true; the input reads as it did. -/
def cacheLastUptoRow : OpenClaim := { program := "ytlonpmajnglmoaadoor", sum := "7e3b17ffe27c6f45d2f8ee89194494621523dcb805fdc9da34e0e6e233fbc800", func := "smithy/smithylaw25.CacheLast", spec := "cacheLast", inPlace := ["internal/bytealg.CountString", "internal/bytealg.IndexByteString", "internal/bytealg.IndexString"], recurses := true, named := ["smithy/api.ErrPath", "smithy/api.ErrMany", "unicode/utf8.first", "unicode/utf8.acceptRanges", "internal/bytealg.MaxLen", "smithy/api.ErrDown", "smithy/api.ErrShape"], plainKeys := false, apart := false, laid := [("unicode/utf8.acceptRanges", laid_unicode_utf8_acceptRanges), ("smithy/api.ErrMany", laid_smithy_api_ErrMany), ("smithy/api.ErrPath", laid_smithy_api_ErrPath), ("smithy/api.ErrShape", laid_smithy_api_ErrShape), ("smithy/api.ErrDown", laid_smithy_api_ErrDown), ("unicode/utf8.first", laid_unicode_utf8_first)], narrowed := true }
def CacheLastUptoSaid : Prop := cacheLastUptoRow.holds Tryd.pinned (OpenSpec.upto cacheLastSpec)

/-- 'smithylaw25.CacheFalls', WHERE WHAT IT READS IS OF BULK AT MOST 1048576: true; the input reads as it did. -/
def cacheFallsUptoRow : OpenClaim := { program := "ytlonpmajnglmoaadoor", sum := "7e3b17ffe27c6f45d2f8ee89194494621523dcb805fdc9da34e0e6e233fbc800", func := "smithy/smithylaw25.CacheFalls", spec := "cacheFalls", inPlace := ["internal/bytealg.CountString", "internal/bytealg.IndexByteString", "internal/bytealg.IndexString"], unfollowed := true, recurses := true, named := ["smithy/api.ErrPath", "smithy/api.ErrMany", "unicode/utf8.first", "unicode/utf8.acceptRanges", "internal/bytealg.MaxLen", "smithy/api.ErrDown", "smithy/api.ErrShape"], plainKeys := false, apart := false, laid := [("unicode/utf8.acceptRanges", laid_unicode_utf8_acceptRanges), ("smithy/api.ErrMany", laid_smithy_api_ErrMany), ("smithy/api.ErrPath", laid_smithy_api_ErrPath), ("smithy/api.ErrShape", laid_smithy_api_ErrShape), ("smithy/api.ErrDown", laid_smithy_api_ErrDown), ("unicode/utf8.first", laid_unicode_utf8_first)], narrowed := true }
def CacheFallsUptoSaid : Prop := cacheFallsUptoRow.holds Tryd.pinned (OpenSpec.upto cacheFallsSpec)

/-- 'smithylaw22.GraphRings', WHERE WHAT IT READS IS OF BULK AT MOST 1048576: true; the input reads as it did. -/
def graphRingsUptoRow : OpenClaim := { program := "ytlonpmajnglmoaadoor", sum := "7e3b17ffe27c6f45d2f8ee89194494621523dcb805fdc9da34e0e6e233fbc800", func := "smithy/smithylaw22.GraphRings", spec := "graphRings", inPlace := ["internal/bytealg.CountString", "internal/bytealg.IndexByteString", "internal/bytealg.IndexString"], unfollowed := true, recurses := true, named := ["smithy/api.ErrMany", "smithy/api.ErrCycle", "smithy/api.ErrKind", "smithy/api.ErrPath", "smithy/api.ErrAnalysis", "unicode/utf8.first", "unicode/utf8.acceptRanges", "internal/bytealg.MaxLen", "smithy/api.ErrLex", "smithy/api.ErrParse", "smithy/api.ErrResolve", "smithy/api.ErrDynamic", "smithy/api.ErrVisibility", "smithy/api.ErrLimit", "smithy/api.ErrMissing", "smithy/api.ErrShape", "smithy/api.ErrEnd", "smithy/api.ErrRange", "smithy/api.ErrDown", "smithy/api.ErrFail"], plainKeys := false, apart := false, laid := [("unicode/utf8.acceptRanges", laid_unicode_utf8_acceptRanges), ("smithy/api.ErrLex", laid_smithy_api_ErrLex), ("smithy/api.ErrParse", laid_smithy_api_ErrParse), ("smithy/api.ErrResolve", laid_smithy_api_ErrResolve), ("smithy/api.ErrDynamic", laid_smithy_api_ErrDynamic), ("smithy/api.ErrCycle", laid_smithy_api_ErrCycle), ("smithy/api.ErrVisibility", laid_smithy_api_ErrVisibility), ("smithy/api.ErrAnalysis", laid_smithy_api_ErrAnalysis), ("smithy/api.ErrLimit", laid_smithy_api_ErrLimit), ("smithy/api.ErrMissing", laid_smithy_api_ErrMissing), ("smithy/api.ErrMany", laid_smithy_api_ErrMany), ("smithy/api.ErrKind", laid_smithy_api_ErrKind), ("smithy/api.ErrPath", laid_smithy_api_ErrPath), ("smithy/api.ErrShape", laid_smithy_api_ErrShape), ("smithy/api.ErrEnd", laid_smithy_api_ErrEnd), ("smithy/api.ErrRange", laid_smithy_api_ErrRange), ("smithy/api.ErrDown", laid_smithy_api_ErrDown), ("smithy/api.ErrFail", laid_smithy_api_ErrFail), ("unicode/utf8.first", laid_unicode_utf8_first)], narrowed := true }
def GraphRingsUptoSaid : Prop := graphRingsUptoRow.holds Tryd.pinned (OpenSpec.upto graphRingsSpec)

end Rows
end Go.Proofs.YtlonpmajnglmoaaDoor
