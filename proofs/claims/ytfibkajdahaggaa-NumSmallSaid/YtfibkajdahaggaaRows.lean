/-
  No cell of these rows narrows 'for every input' (looked for: loops, veiled, ifaces, maps, wideKeys, modest, calm, conditions, laid).
  DERIVED. THE GIVEN ROWS OF THIS SEAT. 2 by the template 'for every input the law returns true; each argument reads behind the call as it read before'; 0 by the template 'total and deterministic' (their statements: YtfibkajdahaggaaTotals.lean).
  GIVEN WITH THE SEED: the statements are not yours to turn. If you find one false, say at which input.
  Laid BY PROGRAM, IN A SANDBOX (cutbox-rows.mjs): the forced cells as the released guide's own fill.sh prints them over the translation 2ea022c9b54e5632… (all of the seat's roots in one cut). By AI agents, Wed Nov 11 2026. No macro, syntax, notation, axiom, sorry.
-/
import Derived.Test.YtfibkajdahaggaaChecked
import GoSem.Claim
import GoSem.ClaimJoined
import GoSem.ClaimMapViews
import Derived.JoinedTies
import Derived.KernelRfl
namespace Go.Proofs.Ytfibkajdahaggaa
/- THE CELL 'sum', in the pinned program and in every row, IS THE sha256 OF THE DUMP (.gsa) THAT YtfibkajdahaggaaProg.lean LOADS. Nothing in Lean hashes anything: it is a label: what it is worth is what the hold of that sum in a sandbox is worth. -/
noncomputable def Try.pinned : Pinned := { name := "ytfibkajdahaggaa", sum := "2ea022c9b54e5632b2a0900ecb51e28760050a65de3b827508b20b2c3df15462", checked := Try.checked }
namespace Rows
def none {H : Type} : Left H := { results := [], args := [] }

/-- 'smithylaw2.ShaManys': WHATEVER THE INPUT: true; the input reads as it did. -/
def shaManysSpec : ChangeSpec := { name := "shaManys", fn := fun _ => fun
  | [d] => { results := [.lit (.bool true)], args := [d] }
  | _ => none }
def shaManysRow : OpenClaim := { program := "ytfibkajdahaggaa", sum := "2ea022c9b54e5632b2a0900ecb51e28760050a65de3b827508b20b2c3df15462", func := "smithy/smithylaw2.ShaManys", spec := "shaManys", apart := false }
def ShaManysSaid : Prop := shaManysRow.holds Try.pinned (OpenSpec.ofChange shaManysSpec)

/-- ITS FALSE NEIGHBOUR: 'it returns false'. Refute it at one input. -/
def shaManysWrong : ChangeSpec := { name := "shaManys", fn := fun _ => fun
  | [d] => { results := [.lit (.bool false)], args := [d] }
  | _ => none }
def ShaManysWrongFalsely : Prop := shaManysRow.holds Try.pinned (OpenSpec.ofChange shaManysWrong)

/-- 'smithylaw9.NumSmall': WHATEVER THE INPUT: true; the input reads as it did. -/
def numSmallSpec : ChangeSpec := { name := "numSmall", fn := fun _ => fun
  | [d1, d2] => { results := [.lit (.bool true)], args := [d1, d2] }
  | _ => none }
def numSmallRow : OpenClaim := { program := "ytfibkajdahaggaa", sum := "2ea022c9b54e5632b2a0900ecb51e28760050a65de3b827508b20b2c3df15462", func := "smithy/smithylaw9.NumSmall", spec := "numSmall", apart := false }
def NumSmallSaid : Prop := numSmallRow.holds Try.pinned (OpenSpec.ofChange numSmallSpec)

/-- ITS FALSE NEIGHBOUR: 'it returns false'. Refute it at one input. -/
def numSmallWrong : ChangeSpec := { name := "numSmall", fn := fun _ => fun
  | [d1, d2] => { results := [.lit (.bool false)], args := [d1, d2] }
  | _ => none }
def NumSmallWrongFalsely : Prop := numSmallRow.holds Try.pinned (OpenSpec.ofChange numSmallWrong)

/- THE SECOND FORM. 'bulk': how many values and letters a reading holds, each counted each time it is reached (what is shared counts as often as it is met; a slice's spare places count too). A statement '..UptoSaid' is the law's where the arguments, and the package variables that the reading takes, are together of bulk at most 1048576: NARROWER than '..Said'. Prove '..Said' where nothing that the law and all that it calls make is longer than what came in: it says more and counts as full. Else prove '..UptoSaid'. A law counts once. -/
mutual
def uptoBulk {H : Type} : DataW H → Nat
  | .lit (.string bytes) => bytes.length + 1
  | .lit _ => 1
  | .nil => 1
  | .ptr d => uptoBulk d + 1
  | .slice elems spare => uptoBulkAll elems + uptoBulkAll spare + 1
  | .agg parts => uptoBulkAll parts + 1
  | .iface _ d => uptoBulk d + 1
  | .map entries => uptoBulkEntries entries + 1
  | .held _ => 1
def uptoBulkAll {H : Type} : List (DataW H) → Nat
  | [] => 0
  | d :: r => uptoBulk d + uptoBulkAll r
def uptoBulkEntries {H : Type} : List (Lit × DataW H) → Nat
  | [] => 0
  | x :: r => uptoBulkEntry x + uptoBulkEntries r
def uptoBulkEntry {H : Type} : Lit × DataW H → Nat
  | (.string bytes, d) => bytes.length + uptoBulk d + 1
  | (_, d) => uptoBulk d + 1
 end
def uptoSmall : (H : Type) → List (DataW H) → Bool := fun _ ds => decide (uptoBulkAll ds ≤ 1048576)
def OpenSpec.upto (s : _root_.Go.ChangeSpec) : _root_.Go.OpenSpec := { _root_.Go.OpenSpec.ofChange s with cond := some uptoSmall }

/-- 'smithylaw2.ShaManys', WHERE WHAT IT READS IS OF BULK AT MOST 1048576: true; the input reads as it did. -/
def shaManysUptoRow : OpenClaim := { program := "ytfibkajdahaggaa", sum := "2ea022c9b54e5632b2a0900ecb51e28760050a65de3b827508b20b2c3df15462", func := "smithy/smithylaw2.ShaManys", spec := "shaManys", apart := false, narrowed := true }
def ShaManysUptoSaid : Prop := shaManysUptoRow.holds Try.pinned (OpenSpec.upto shaManysSpec)

/-- 'smithylaw9.NumSmall', WHERE WHAT IT READS IS OF BULK AT MOST 1048576: true; the input reads as it did. -/
def numSmallUptoRow : OpenClaim := { program := "ytfibkajdahaggaa", sum := "2ea022c9b54e5632b2a0900ecb51e28760050a65de3b827508b20b2c3df15462", func := "smithy/smithylaw9.NumSmall", spec := "numSmall", apart := false, narrowed := true }
def NumSmallUptoSaid : Prop := numSmallUptoRow.holds Try.pinned (OpenSpec.upto numSmallSpec)

end Rows
end Go.Proofs.Ytfibkajdahaggaa
