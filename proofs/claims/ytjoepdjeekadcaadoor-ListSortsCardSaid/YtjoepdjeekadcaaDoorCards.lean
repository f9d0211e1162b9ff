/-
  DERIVED. GIVEN WITH THE SEED: THE CARDS: each row of YtjoepdjeekadcaaDoorRows.lean that lists a variable, with what it lists TIED to the program's text (the seventh form; the later family's looks); each row that meets fmt, with fmt's text TOLD by the authors' own Lean function (tested against real Go, not proved from fmt's source: count such statements apart). THE CARD IS WHAT COUNTS. Prove the row's statement (the work); the ties are given (YtjoepdjeekadcaaDoorTie.lean); close each card by the builder's one call (the guide's Derived/Test/ToyasCard.lean, 'card_holds'). Laid BY PROGRAM, IN A SANDBOX (cutbox-door.mjs). By AI agents, Wed Nov 11 2026. No macro, syntax, notation, axiom, sorry.
-/
import Derived.Test.YtjoepdjeekadcaaDoorRows
import GoSem.ClaimSeven
namespace Go.Proofs.YtjoepdjeekadcaaDoor
namespace Rows

/-- THE TIED CARD OF 'smithylaw13.DepsOnce'. -/
def depsOnceCard : Claim7 := { stood := { row := depsOnceRow, standIns := [], harness := (true, "666c3811bdc0dc6e0b7f690394b8fd3edf8fa66db963c00f56ac1593c3036c08"), looks := true }, kinds := [], alts := [], laidByText := true, laidKinds := [.data, .data, .data, .sentinel, .sentinel], laidTests := true, laidLooks := .later }
def DepsOnceCardSaid : Prop := Claim7.holds Tryd.pinned (.plain (OpenSpec.ofChange depsOnceSpec)) depsOnceCard

/-- THE TIED CARD OF 'smithylaw12.ListSorts'. -/
def listSortsCard : Claim7 := { stood := { row := listSortsRow, standIns := [], harness := (true, "666c3811bdc0dc6e0b7f690394b8fd3edf8fa66db963c00f56ac1593c3036c08"), looks := true }, kinds := [], alts := [], laidByText := true, laidKinds := [.sentinel, .sentinel, .sentinel, .sentinel, .sentinel, .sentinel, .sentinel, .sentinel, .sentinel, .sentinel, .sentinel, .sentinel, .sentinel, .sentinel, .sentinel, .sentinel, .sentinel], laidTests := true, laidLooks := .later }
def ListSortsCardSaid : Prop := Claim7.holds Tryd.pinned (.plain (OpenSpec.ofChange listSortsSpec)) listSortsCard

/-- THE SECOND FORM's CARD OF 'smithylaw13.DepsOnce'. -/
def depsOnceUptoCard : Claim7 := { stood := { row := depsOnceUptoRow, standIns := [], harness := (true, "666c3811bdc0dc6e0b7f690394b8fd3edf8fa66db963c00f56ac1593c3036c08"), looks := true }, kinds := [], alts := [], laidByText := true, laidKinds := [.data, .data, .data, .sentinel, .sentinel], laidTests := true, laidLooks := .later }
def DepsOnceUptoCardSaid : Prop := Claim7.holds Tryd.pinned (.plain (OpenSpec.upto depsOnceSpec)) depsOnceUptoCard

/-- THE SECOND FORM's CARD OF 'smithylaw12.ListSorts'. -/
def listSortsUptoCard : Claim7 := { stood := { row := listSortsUptoRow, standIns := [], harness := (true, "666c3811bdc0dc6e0b7f690394b8fd3edf8fa66db963c00f56ac1593c3036c08"), looks := true }, kinds := [], alts := [], laidByText := true, laidKinds := [.sentinel, .sentinel, .sentinel, .sentinel, .sentinel, .sentinel, .sentinel, .sentinel, .sentinel, .sentinel, .sentinel, .sentinel, .sentinel, .sentinel, .sentinel, .sentinel, .sentinel], laidTests := true, laidLooks := .later }
def ListSortsUptoCardSaid : Prop := Claim7.holds Tryd.pinned (.plain (OpenSpec.upto listSortsSpec)) listSortsUptoCard
end Rows
end Go.Proofs.YtjoepdjeekadcaaDoor
