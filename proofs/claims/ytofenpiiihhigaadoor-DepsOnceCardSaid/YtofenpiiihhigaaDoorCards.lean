/-
  DERIVED. GIVEN WITH THE SEED: THE CARDS: each row of YtofenpiiihhigaaDoorRows.lean that lists a variable, with what it lists TIED to the program's text (the seventh form; the later family's looks); each row that meets fmt, with fmt's text TOLD by the authors' own Lean function (tested against real Go, not proved from fmt's source: count such statements apart). THE CARD IS WHAT COUNTS. Prove the row's statement (the work); the ties are given (YtofenpiiihhigaaDoorTie.lean); close each card by the builder's one call (the guide's Derived/Test/ToyasCard.lean, 'card_holds'). Laid BY PROGRAM, IN A SANDBOX (cutbox-door.mjs). By AI agents, Wed Nov 11 2026. No macro, syntax, notation, axiom, sorry.
-/
import Derived.Test.YtofenpiiihhigaaDoorRows
import GoSem.ClaimSeven
namespace Go.Proofs.YtofenpiiihhigaaDoor
namespace Rows

/-- THE TIED CARD OF 'smithylaw13.DepsOnce'. -/
def depsOnceCard : Claim7 := { stood := { row := depsOnceRow, standIns := [], harness := (true, "cf9b96eb3cd666204d0d831697d8ef61dd2cc615961b511437c1e56a3f218272"), looks := true }, kinds := [], alts := [], laidByText := true, laidKinds := [.data, .data, .data, .sentinel, .sentinel], laidTests := true, laidLooks := .later }
def DepsOnceCardSaid : Prop := Claim7.holds Tryd.pinned (.plain (OpenSpec.ofChange depsOnceSpec)) depsOnceCard

/-- THE TIED CARD OF 'smithylaw13.DepsRows'. -/
def depsRowsCard : Claim7 := { stood := { row := depsRowsRow, standIns := [], harness := (true, "cf9b96eb3cd666204d0d831697d8ef61dd2cc615961b511437c1e56a3f218272"), looks := true }, kinds := [], alts := [], laidByText := true, laidKinds := [.data, .data, .data, .sentinel, .sentinel, .sentinel, .sentinel, .sentinel, .sentinel, .sentinel, .sentinel, .sentinel, .sentinel, .sentinel, .sentinel, .sentinel, .sentinel, .sentinel, .sentinel, .sentinel], laidTests := true, laidLooks := .later }
def DepsRowsCardSaid : Prop := Claim7.holds Tryd.pinned (.plain (OpenSpec.ofChange depsRowsSpec)) depsRowsCard

/-- THE TIED CARD OF 'smithylaw13.DepsOrders'. -/
def depsOrdersCard : Claim7 := { stood := { row := depsOrdersRow, standIns := [], harness := (true, "cf9b96eb3cd666204d0d831697d8ef61dd2cc615961b511437c1e56a3f218272"), looks := true }, kinds := [], alts := [], laidByText := true, laidKinds := [.data, .data, .data, .sentinel, .sentinel, .sentinel, .sentinel, .sentinel, .sentinel, .sentinel, .sentinel, .sentinel, .sentinel, .sentinel, .sentinel, .sentinel, .sentinel, .sentinel, .sentinel, .sentinel], laidTests := true, laidLooks := .later }
def DepsOrdersCardSaid : Prop := Claim7.holds Tryd.pinned (.plain (OpenSpec.ofChange depsOrdersSpec)) depsOrdersCard

/-- THE TIED CARD OF 'smithylaw12.ListSorts'. -/
def listSortsCard : Claim7 := { stood := { row := listSortsRow, standIns := [], harness := (true, "cf9b96eb3cd666204d0d831697d8ef61dd2cc615961b511437c1e56a3f218272"), looks := true }, kinds := [], alts := [], laidByText := true, laidKinds := [.sentinel, .sentinel, .sentinel, .sentinel, .sentinel, .sentinel, .sentinel, .sentinel, .sentinel, .sentinel, .sentinel, .sentinel, .sentinel, .sentinel, .sentinel, .sentinel, .sentinel], laidTests := true, laidLooks := .later }
def ListSortsCardSaid : Prop := Claim7.holds Tryd.pinned (.plain (OpenSpec.ofChange listSortsSpec)) listSortsCard

/-- THE SECOND FORM's CARD OF 'smithylaw13.DepsOnce'. -/
def depsOnceUptoCard : Claim7 := { stood := { row := depsOnceUptoRow, standIns := [], harness := (true, "cf9b96eb3cd666204d0d831697d8ef61dd2cc615961b511437c1e56a3f218272"), looks := true }, kinds := [], alts := [], laidByText := true, laidKinds := [.data, .data, .data, .sentinel, .sentinel], laidTests := true, laidLooks := .later }
def DepsOnceUptoCardSaid : Prop := Claim7.holds Tryd.pinned (.plain (OpenSpec.upto depsOnceSpec)) depsOnceUptoCard

/-- THE SECOND FORM's CARD OF 'smithylaw13.DepsRows'. -/
def depsRowsUptoCard : Claim7 := { stood := { row := depsRowsUptoRow, standIns := [], harness := (true, "cf9b96eb3cd666204d0d831697d8ef61dd2cc615961b511437c1e56a3f218272"), looks := true }, kinds := [], alts := [], laidByText := true, laidKinds := [.data, .data, .data, .sentinel, .sentinel, .sentinel, .sentinel, .sentinel, .sentinel, .sentinel, .sentinel, .sentinel, .sentinel, .sentinel, .sentinel, .sentinel, .sentinel, .sentinel, .sentinel, .sentinel], laidTests := true, laidLooks := .later }
def DepsRowsUptoCardSaid : Prop := Claim7.holds Tryd.pinned (.plain (OpenSpec.upto depsRowsSpec)) depsRowsUptoCard

/-- THE SECOND FORM's CARD OF 'smithylaw13.DepsOrders'. -/
def depsOrdersUptoCard : Claim7 := { stood := { row := depsOrdersUptoRow, standIns := [], harness := (true, "cf9b96eb3cd666204d0d831697d8ef61dd2cc615961b511437c1e56a3f218272"), looks := true }, kinds := [], alts := [], laidByText := true, laidKinds := [.data, .data, .data, .sentinel, .sentinel, .sentinel, .sentinel, .sentinel, .sentinel, .sentinel, .sentinel, .sentinel, .sentinel, .sentinel, .sentinel, .sentinel, .sentinel, .sentinel, .sentinel, .sentinel], laidTests := true, laidLooks := .later }
def DepsOrdersUptoCardSaid : Prop := Claim7.holds Tryd.pinned (.plain (OpenSpec.upto depsOrdersSpec)) depsOrdersUptoCard

/-- THE SECOND FORM's CARD OF 'smithylaw12.ListSorts'. -/
def listSortsUptoCard : Claim7 := { stood := { row := listSortsUptoRow, standIns := [], harness := (true, "cf9b96eb3cd666204d0d831697d8ef61dd2cc615961b511437c1e56a3f218272"), looks := true }, kinds := [], alts := [], laidByText := true, laidKinds := [.sentinel, .sentinel, .sentinel, .sentinel, .sentinel, .sentinel, .sentinel, .sentinel, .sentinel, .sentinel, .sentinel, .sentinel, .sentinel, .sentinel, .sentinel, .sentinel, .sentinel], laidTests := true, laidLooks := .later }
def ListSortsUptoCardSaid : Prop := Claim7.holds Tryd.pinned (.plain (OpenSpec.upto listSortsSpec)) listSortsUptoCard
end Rows
end Go.Proofs.YtofenpiiihhigaaDoor
