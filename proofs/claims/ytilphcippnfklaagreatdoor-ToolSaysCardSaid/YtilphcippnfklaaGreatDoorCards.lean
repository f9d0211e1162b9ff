/-
  DERIVED. GIVEN WITH THE SEED: THE CARDS: each row of YtilphcippnfklaaGreatDoorRows.lean that lists a variable, with what it lists TIED to the program's text (the seventh form; the later family's looks); each row that meets fmt, with fmt's text TOLD by the authors' own Lean function (tested against real Go, not proved from fmt's source: count such statements apart). THE CARD IS WHAT COUNTS. Prove the row's statement (the work); the ties are given (YtilphcippnfklaaGreatDoorTie.lean); close each card by the builder's one call (the guide's Derived/Test/ToyasCard.lean, 'card_holds'). Laid BY PROGRAM, IN A SANDBOX (cutbox-door.mjs). By AI agents, Wed Nov 11 2026. No macro, syntax, notation, axiom, sorry.
-/
import Derived.Test.YtilphcippnfklaaGreatDoorRows
import GoSem.ClaimSeven
namespace Go.Proofs.YtilphcippnfklaaGreatDoor
namespace Rows

/-- THE TIED CARD OF 'smithylaw23.ToolFails'. -/
def toolFailsCard : Claim7 := { stood := { row := toolFailsRow, standIns := [], harness := (true, "b0e4d91df16b2bc04f2c8e8457f493ab70ff40c6d096c0ae997ab81d6df96621"), looks := true }, kinds := [], alts := [], laidByText := true, laidKinds := [.data, .sentinel, .sentinel, .sentinel, .sentinel, .sentinel, .sentinel, .sentinel, .sentinel, .sentinel, .sentinel, .sentinel, .sentinel, .sentinel, .sentinel, .sentinel, .sentinel, .sentinel, .pinned], laidTests := true, laidLooks := .later }
def ToolFailsCardSaid : Prop := Claim7.holds Tryz.pinned (.plain (OpenSpec.ofChange toolFailsSpec)) toolFailsCard

/-- THE TIED CARD OF 'smithylaw23.ToolSays'. -/
def toolSaysCard : Claim7 := { stood := { row := toolSaysRow, standIns := [], harness := (true, "b0e4d91df16b2bc04f2c8e8457f493ab70ff40c6d096c0ae997ab81d6df96621"), looks := true }, kinds := [], alts := [], laidByText := true, laidKinds := [.data, .sentinel, .sentinel, .sentinel, .sentinel, .sentinel, .sentinel, .sentinel, .sentinel, .sentinel, .sentinel, .sentinel, .sentinel, .sentinel, .sentinel, .sentinel, .sentinel, .sentinel, .pinned], laidTests := true, laidLooks := .later }
def ToolSaysCardSaid : Prop := Claim7.holds Tryz.pinned (.plain (OpenSpec.ofChange toolSaysSpec)) toolSaysCard

/-- THE SECOND FORM's CARD OF 'smithylaw23.ToolFails'. -/
def toolFailsUptoCard : Claim7 := { stood := { row := toolFailsUptoRow, standIns := [], harness := (true, "b0e4d91df16b2bc04f2c8e8457f493ab70ff40c6d096c0ae997ab81d6df96621"), looks := true }, kinds := [], alts := [], laidByText := true, laidKinds := [.data, .sentinel, .sentinel, .sentinel, .sentinel, .sentinel, .sentinel, .sentinel, .sentinel, .sentinel, .sentinel, .sentinel, .sentinel, .sentinel, .sentinel, .sentinel, .sentinel, .sentinel, .pinned], laidTests := true, laidLooks := .later }
def ToolFailsUptoCardSaid : Prop := Claim7.holds Tryz.pinned (.plain (OpenSpec.upto toolFailsSpec)) toolFailsUptoCard

/-- THE SECOND FORM's CARD OF 'smithylaw23.ToolSays'. -/
def toolSaysUptoCard : Claim7 := { stood := { row := toolSaysUptoRow, standIns := [], harness := (true, "b0e4d91df16b2bc04f2c8e8457f493ab70ff40c6d096c0ae997ab81d6df96621"), looks := true }, kinds := [], alts := [], laidByText := true, laidKinds := [.data, .sentinel, .sentinel, .sentinel, .sentinel, .sentinel, .sentinel, .sentinel, .sentinel, .sentinel, .sentinel, .sentinel, .sentinel, .sentinel, .sentinel, .sentinel, .sentinel, .sentinel, .pinned], laidTests := true, laidLooks := .later }
def ToolSaysUptoCardSaid : Prop := Claim7.holds Tryz.pinned (.plain (OpenSpec.upto toolSaysSpec)) toolSaysUptoCard
end Rows
end Go.Proofs.YtilphcippnfklaaGreatDoor
