/-
  NARROWER THAN 'FOR EVERY INPUT', by the rows' own cells (each row's printed sentence says how): CachePlays: laid.
  DERIVED. THE GIVEN ROWS OF THIS SEAT. 1 by the template 'for every input the law returns true; each argument reads behind the call as it read before'; 0 by the template 'total and deterministic' (their statements: YtafpeckmdjplnaaGreatDoorTotals.lean).
  GIVEN WITH THE SEED: the statements are not yours to turn. If you find one false, say at which input.
  Laid BY PROGRAM, IN A SANDBOX (cutbox-rows.mjs): the forced cells as the released guide's own fill.sh prints them over the translation c149fbbc06a47a37… (all of the seat's roots in one cut). By AI agents, Wed Nov 11 2026. No macro, syntax, notation, axiom, sorry.
-/
import Derived.Test.YtafpeckmdjplnaaGreatDoorChecked
import GoSem.PinnedTables
import GoSem.Claim
import GoSem.ClaimJoined
import GoSem.ClaimMapViews
import Derived.JoinedTies
import Derived.KernelRfl
namespace Go.Proofs.YtafpeckmdjplnaaGreatDoor
/- THE CELL 'sum', in the pinned program and in every row, IS THE sha256 OF THE DUMP (.gsa) THAT YtafpeckmdjplnaaGreatDoorProg.lean LOADS. Nothing in Lean hashes anything: it is a label: what it is worth is what the hold of that sum in a sandbox is worth. -/
noncomputable def Tryz.pinned : Pinned := { name := "ytafpeckmdjplnaagreatdoor", sum := "c149fbbc06a47a371d9b7e5c177637b4aa27ae483bdb18536b3516fbe1c7d5fb", checked := Tryz.checked }
namespace Rows
def none {H : Type} : Left H := { results := [], args := [] }

/- WHAT THE LISTED PACKAGE-LEVEL VARIABLES READ AS WHEN THE CALL BEGINS. Each datum BY PROGRAM (the guide's laid-datum.mjs) off the statement by which the dump's own 'gosem.cut.vars' lays the variable. In a bare row this is a premise. The card (YtafpeckmdjplnaaGreatDoorCards.lean) ties it to the program's text. -/
def laid_unicode_utf8_acceptRanges {H : Type} : DataW H := .agg [.agg [.lit (.int .u8 128), .lit (.int .u8 191)], .agg [.lit (.int .u8 160), .lit (.int .u8 191)], .agg [.lit (.int .u8 128), .lit (.int .u8 159)], .agg [.lit (.int .u8 144), .lit (.int .u8 191)], .agg [.lit (.int .u8 128), .lit (.int .u8 143)], .agg [.lit (.int .u8 0), .lit (.int .u8 0)], .agg [.lit (.int .u8 0), .lit (.int .u8 0)], .agg [.lit (.int .u8 0), .lit (.int .u8 0)], .agg [.lit (.int .u8 0), .lit (.int .u8 0)], .agg [.lit (.int .u8 0), .lit (.int .u8 0)], .agg [.lit (.int .u8 0), .lit (.int .u8 0)], .agg [.lit (.int .u8 0), .lit (.int .u8 0)], .agg [.lit (.int .u8 0), .lit (.int .u8 0)], .agg [.lit (.int .u8 0), .lit (.int .u8 0)], .agg [.lit (.int .u8 0), .lit (.int .u8 0)], .agg [.lit (.int .u8 0), .lit (.int .u8 0)]]
def laid_smithy_api_ErrLex {H : Type} : DataW H := .iface "*errors.errorString" (.ptr (.agg [.lit (.string [108, 101, 120])]))
def laid_smithy_api_ErrParse {H : Type} : DataW H := .iface "*errors.errorString" (.ptr (.agg [.lit (.string [112, 97, 114, 115, 101])]))
def laid_smithy_api_ErrResolve {H : Type} : DataW H := .iface "*errors.errorString" (.ptr (.agg [.lit (.string [114, 101, 115, 111, 108, 118, 101])]))
def laid_smithy_api_ErrDynamic {H : Type} : DataW H := .iface "*errors.errorString" (.ptr (.agg [.lit (.string [100, 121, 110, 97, 109, 105, 99])]))
def laid_smithy_api_ErrCycle {H : Type} : DataW H := .iface "*errors.errorString" (.ptr (.agg [.lit (.string [99, 121, 99, 108, 101])]))
def laid_smithy_api_ErrVisibility {H : Type} : DataW H := .iface "*errors.errorString" (.ptr (.agg [.lit (.string [118, 105, 115, 105, 98, 105, 108, 105, 116, 121])]))
def laid_smithy_api_ErrAnalysis {H : Type} : DataW H := .iface "*errors.errorString" (.ptr (.agg [.lit (.string [97, 110, 97, 108, 121, 115, 105, 115])]))
def laid_smithy_api_ErrLimit {H : Type} : DataW H := .iface "*errors.errorString" (.ptr (.agg [.lit (.string [108, 105, 109, 105, 116])]))
def laid_smithy_api_ErrMissing {H : Type} : DataW H := .iface "*errors.errorString" (.ptr (.agg [.lit (.string [109, 105, 115, 115, 105, 110, 103])]))
def laid_smithy_api_ErrMany {H : Type} : DataW H := .iface "*errors.errorString" (.ptr (.agg [.lit (.string [116, 111, 111, 32, 109, 97, 110, 121])]))
def laid_smithy_api_ErrKind {H : Type} : DataW H := .iface "*errors.errorString" (.ptr (.agg [.lit (.string [110, 111, 32, 115, 117, 99, 104, 32, 107, 105, 110, 100])]))
def laid_smithy_api_ErrPath {H : Type} : DataW H := .iface "*errors.errorString" (.ptr (.agg [.lit (.string [110, 111, 32, 112, 97, 116, 104])]))
def laid_smithy_api_ErrShape {H : Type} : DataW H := .iface "*errors.errorString" (.ptr (.agg [.lit (.string [110, 111, 116, 32, 116, 104, 101, 32, 115, 104, 97, 112, 101, 32, 116, 104, 97, 116, 32, 105, 116, 32, 104, 97, 115, 32, 116, 111, 32, 104, 97, 118, 101])]))
def laid_smithy_api_ErrEnd {H : Type} : DataW H := .iface "*errors.errorString" (.ptr (.agg [.lit (.string [105, 116, 32, 101, 110, 100, 115, 32, 116, 111, 111, 32, 101, 97, 114, 108, 121])]))
def laid_smithy_api_ErrRange {H : Type} : DataW H := .iface "*errors.errorString" (.ptr (.agg [.lit (.string [97, 32, 110, 117, 109, 98, 101, 114, 32, 111, 117, 116, 32, 111, 102, 32, 105, 116, 115, 32, 114, 97, 110, 103, 101])]))
def laid_smithy_api_ErrDown {H : Type} : DataW H := .iface "*errors.errorString" (.ptr (.agg [.lit (.string [116, 104, 101, 32, 112, 111, 119, 101, 114, 32, 104, 97, 115, 32, 103, 111, 110, 101])]))
def laid_smithy_api_ErrFail {H : Type} : DataW H := .iface "*errors.errorString" (.ptr (.agg [.lit (.string [105, 116, 32, 104, 97, 115, 32, 102, 97, 105, 108, 101, 100])]))
/-- One of Go's own tables, pinned by name: the form's constant. -/
def laid_unicode_utf8_first : DataW Unit := Go.Pinned.utf8First

/-- 'smithylaw25.CachePlays': WHATEVER THE INPUT: true; the input reads as it did. -/
def cachePlaysSpec : ChangeSpec := { name := "cachePlays", fn := fun _ => fun
  | [d1, d2] => { results := [.lit (.bool true)], args := [d1, d2] }
  | _ => none }
def cachePlaysRow : OpenClaim := { program := "ytafpeckmdjplnaagreatdoor", sum := "c149fbbc06a47a371d9b7e5c177637b4aa27ae483bdb18536b3516fbe1c7d5fb", func := "smithy/smithylaw25.CachePlays", spec := "cachePlays", inPlace := ["internal/bytealg.CountString", "internal/bytealg.IndexByteString", "internal/bytealg.IndexString", "internal/bytealg.Compare"], unfollowed := true, recurses := true, named := ["smithy/api.ErrPath", "smithy/api.ErrMany", "unicode/utf8.first", "unicode/utf8.acceptRanges", "internal/bytealg.MaxLen", "smithy/api.ErrDown", "smithy/api.ErrShape", "smithy/api.ErrLex", "smithy/api.ErrParse", "smithy/api.ErrResolve", "smithy/api.ErrDynamic", "smithy/api.ErrCycle", "smithy/api.ErrVisibility", "smithy/api.ErrAnalysis", "smithy/api.ErrLimit", "smithy/api.ErrMissing", "smithy/api.ErrKind", "smithy/api.ErrEnd", "smithy/api.ErrRange", "smithy/api.ErrFail"], plainKeys := false, apart := false, laid := [("unicode/utf8.acceptRanges", laid_unicode_utf8_acceptRanges), ("smithy/api.ErrLex", laid_smithy_api_ErrLex), ("smithy/api.ErrParse", laid_smithy_api_ErrParse), ("smithy/api.ErrResolve", laid_smithy_api_ErrResolve), ("smithy/api.ErrDynamic", laid_smithy_api_ErrDynamic), ("smithy/api.ErrCycle", laid_smithy_api_ErrCycle), ("smithy/api.ErrVisibility", laid_smithy_api_ErrVisibility), ("smithy/api.ErrAnalysis", laid_smithy_api_ErrAnalysis), ("smithy/api.ErrLimit", laid_smithy_api_ErrLimit), ("smithy/api.ErrMissing", laid_smithy_api_ErrMissing), ("smithy/api.ErrMany", laid_smithy_api_ErrMany), ("smithy/api.ErrKind", laid_smithy_api_ErrKind), ("smithy/api.ErrPath", laid_smithy_api_ErrPath), ("smithy/api.ErrShape", laid_smithy_api_ErrShape), ("smithy/api.ErrEnd", laid_smithy_api_ErrEnd), ("smithy/api.ErrRange", laid_smithy_api_ErrRange), ("smithy/api.ErrDown", laid_smithy_api_ErrDown), ("smithy/api.ErrFail", laid_smithy_api_ErrFail), ("unicode/utf8.first", laid_unicode_utf8_first)] }
def CachePlaysSaid : Prop := cachePlaysRow.holds Tryz.pinned (OpenSpec.ofChange cachePlaysSpec)

/-- ITS FALSE NEIGHBOUR: 'it returns false'. Refute it at one input. -/
def cachePlaysWrong : ChangeSpec := { name := "cachePlays", fn := fun _ => fun
  | [d1, d2] => { results := [.lit (.bool false)], args := [d1, d2] }
  | _ => none }
def CachePlaysWrongFalsely : Prop := cachePlaysRow.holds Tryz.pinned (OpenSpec.ofChange cachePlaysWrong)

/- THE SECOND FORM. 'bulk': how many values and letters a reading holds, each counted each time it is reached (what is shared counts as often as it is met; a slice's spare places count too). A statement '..UptoSaid' is the law's where the arguments, and the package variables that the reading takes, are together of bulk at most 1048576: NARROWER than '..Said'. Prove '..Said' where nothing that the law and all that it calls make is longer than what came in: it says more and counts as full. Else prove '..UptoSaid'. A law counts once. -/
mutual
def uptoBulk {H : Type} : DataW H → Nat
  | .lit (.string bytes) => bytes.length + 1
  | .lit _ => 1
  | .nil => 1
  | .ptr d => uptoBulk d + 1
  | .slice elems spare => uptoBulkAll elems + uptoBulkAll spare + 1
  | .agg parts => uptoBulkAll parts + 1
  | .iface _ d => uptoBulk d + 1
  | .map entries => uptoBulkEntries entries + 1
  | .held _ => 1
def uptoBulkAll {H : Type} : List (DataW H) → Nat
  | [] => 0
  | d :: r => uptoBulk d + uptoBulkAll r
def uptoBulkEntries {H : Type} : List (Lit × DataW H) → Nat
  | [] => 0
  | x :: r => uptoBulkEntry x + uptoBulkEntries r
def uptoBulkEntry {H : Type} : Lit × DataW H → Nat
  | (.string bytes, d) => bytes.length + uptoBulk d + 1
  | (_, d) => uptoBulk d + 1
 end
def uptoSmall : (H : Type) → List (DataW H) → Bool := fun _ ds => decide (uptoBulkAll ds ≤ 1048576)
def OpenSpec.upto (s : _root_.Go.ChangeSpec) : _root_.Go.OpenSpec := { _root_.Go.OpenSpec.ofChange s with cond := some uptoSmall }

/-- 'smithylaw25.CachePlays', WHERE WHAT IT READS IS OF BULK AT MOST 1048576: true; the input reads as it did. -/
def cachePlaysUptoRow : OpenClaim := { program := "ytafpeckmdjplnaagreatdoor", sum := "c149fbbc06a47a371d9b7e5c177637b4aa27ae483bdb18536b3516fbe1c7d5fb", func := "smithy/smithylaw25.CachePlays", spec := "cachePlays", inPlace := ["internal/bytealg.CountString", "internal/bytealg.IndexByteString", "internal/bytealg.IndexString", "internal/bytealg.Compare"], unfollowed := true, recurses := true, named := ["smithy/api.ErrPath", "smithy/api.ErrMany", "unicode/utf8.first", "unicode/utf8.acceptRanges", "internal/bytealg.MaxLen", "smithy/api.ErrDown", "smithy/api.ErrShape", "smithy/api.ErrLex", "smithy/api.ErrParse", "smithy/api.ErrResolve", "smithy/api.ErrDynamic", "smithy/api.ErrCycle", "smithy/api.ErrVisibility", "smithy/api.ErrAnalysis", "smithy/api.ErrLimit", "smithy/api.ErrMissing", "smithy/api.ErrKind", "smithy/api.ErrEnd", "smithy/api.ErrRange", "smithy/api.ErrFail"], plainKeys := false, apart := false, laid := [("unicode/utf8.acceptRanges", laid_unicode_utf8_acceptRanges), ("smithy/api.ErrLex", laid_smithy_api_ErrLex), ("smithy/api.ErrParse", laid_smithy_api_ErrParse), ("smithy/api.ErrResolve", laid_smithy_api_ErrResolve), ("smithy/api.ErrDynamic", laid_smithy_api_ErrDynamic), ("smithy/api.ErrCycle", laid_smithy_api_ErrCycle), ("smithy/api.ErrVisibility", laid_smithy_api_ErrVisibility), ("smithy/api.ErrAnalysis", laid_smithy_api_ErrAnalysis), ("smithy/api.ErrLimit", laid_smithy_api_ErrLimit), ("smithy/api.ErrMissing", laid_smithy_api_ErrMissing), ("smithy/api.ErrMany", laid_smithy_api_ErrMany), ("smithy/api.ErrKind", laid_smithy_api_ErrKind), ("smithy/api.ErrPath", laid_smithy_api_ErrPath), ("smithy/api.ErrShape", laid_smithy_api_ErrShape), ("smithy/api.ErrEnd", laid_smithy_api_ErrEnd), ("smithy/api.ErrRange", laid_smithy_api_ErrRange), ("smithy/api.ErrDown", laid_smithy_api_ErrDown), ("smithy/api.ErrFail", laid_smithy_api_ErrFail), ("unicode/utf8.first", laid_unicode_utf8_first)], narrowed := true }
def CachePlaysUptoSaid : Prop := cachePlaysUptoRow.holds Tryz.pinned (OpenSpec.upto cachePlaysSpec)

end Rows
end Go.Proofs.YtafpeckmdjplnaaGreatDoor
