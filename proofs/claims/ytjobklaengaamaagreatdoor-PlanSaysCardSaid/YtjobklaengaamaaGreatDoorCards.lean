/-
  DERIVED. GIVEN WITH THE SEED: THE CARDS: each row of YtjobklaengaamaaGreatDoorRows.lean that lists a variable, with what it lists TIED to the program's text (the seventh form; the later family's looks); each row that meets fmt, with fmt's text TOLD by the authors' own Lean function (tested against real Go, not proved from fmt's source: count such statements apart). THE CARD IS WHAT COUNTS. Prove the row's statement (the work); the ties are given (YtjobklaengaamaaGreatDoorTie.lean); close each card by the builder's one call (the guide's Derived/Test/ToyasCard.lean, 'card_holds'). Laid BY PROGRAM, IN A SANDBOX (cutbox-door.mjs). By AI agents, Wed Nov 11 2026. No macro, syntax, notation, axiom, sorry.
-/
import Derived.Test.YtjobklaengaamaaGreatDoorRows
import GoSem.ClaimSeven
namespace Go.Proofs.YtjobklaengaamaaGreatDoor
namespace Rows

/-- THE TIED CARD OF 'smithylaw26.PlanSays'. -/
def planSaysCard : Claim7 := { stood := { row := planSaysRow, standIns := [], harness := (true, "b1f836aa6beb61fd3db57fa5c860798d3dd97510bb0fdea3001f8c80fb366011"), looks := false }, kinds := [], alts := [], laidByText := true, laidKinds := [.data, .data, .data, .data, .sentinel, .sentinel, .sentinel, .sentinel, .sentinel, .sentinel, .pinned], laidTests := true, laidLooks := .later }
def PlanSaysCardSaid : Prop := Claim7.holds Tryz.pinned (.plain (OpenSpec.ofChange planSaysSpec)) planSaysCard

/-- THE SECOND FORM's CARD OF 'smithylaw26.PlanSays'. -/
def planSaysUptoCard : Claim7 := { stood := { row := planSaysUptoRow, standIns := [], harness := (true, "b1f836aa6beb61fd3db57fa5c860798d3dd97510bb0fdea3001f8c80fb366011"), looks := false }, kinds := [], alts := [], laidByText := true, laidKinds := [.data, .data, .data, .data, .sentinel, .sentinel, .sentinel, .sentinel, .sentinel, .sentinel, .pinned], laidTests := true, laidLooks := .later }
def PlanSaysUptoCardSaid : Prop := Claim7.holds Tryz.pinned (.plain (OpenSpec.upto planSaysSpec)) planSaysUptoCard
end Rows
end Go.Proofs.YtjobklaengaamaaGreatDoor
