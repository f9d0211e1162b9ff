/-
  DERIVED. GIVEN WITH THE SEED: THE CARDS: each row of YtjhipfdbionpoaaGreatDoorRows.lean that lists a variable, with what it lists TIED to the program's text (the seventh form; the later family's looks); each row that meets fmt, with fmt's text TOLD by the authors' own Lean function (tested against real Go, not proved from fmt's source: count such statements apart). THE CARD IS WHAT COUNTS. Prove the row's statement (the work); the ties are given (YtjhipfdbionpoaaGreatDoorTie.lean); close each card by the builder's one call (the guide's Derived/Test/ToyasCard.lean, 'card_holds'). Laid BY PROGRAM, IN A SANDBOX (cutbox-door.mjs). By AI agents, Wed Nov 11 2026. No macro, syntax, notation, axiom, sorry.
-/
import Derived.Test.YtjhipfdbionpoaaGreatDoorRows
import GoSem.ClaimSeven
namespace Go.Proofs.YtjhipfdbionpoaaGreatDoor
namespace Rows

/-- THE TIED CARD OF 'smithylaw26.PlanFresh'. -/
def planFreshCard : Claim7 := { stood := { row := planFreshRow, standIns := [], harness := (true, "7ab7e1f26773b1ee95c5985996ac4c1c8a31a279677d51fbd25da133066d440a"), looks := false }, kinds := [], alts := [], laidByText := true, laidKinds := [.data, .data, .data, .data, .sentinel, .sentinel, .sentinel, .sentinel, .sentinel, .sentinel, .pinned], laidTests := true, laidLooks := .later }
def PlanFreshCardSaid : Prop := Claim7.holds Tryz.pinned (.plain (OpenSpec.ofChange planFreshSpec)) planFreshCard

/-- THE TIED CARD OF 'smithylaw26.PlanChains'. -/
def planChainsCard : Claim7 := { stood := { row := planChainsRow, standIns := [], harness := (true, "7ab7e1f26773b1ee95c5985996ac4c1c8a31a279677d51fbd25da133066d440a"), looks := false }, kinds := [], alts := [], laidByText := true, laidKinds := [.data, .data, .data, .data, .sentinel, .sentinel, .sentinel, .sentinel, .sentinel, .sentinel, .pinned], laidTests := true, laidLooks := .later }
def PlanChainsCardSaid : Prop := Claim7.holds Tryz.pinned (.plain (OpenSpec.ofChange planChainsSpec)) planChainsCard

/-- THE TIED CARD OF 'smithylaw26.PlanSays'. -/
def planSaysCard : Claim7 := { stood := { row := planSaysRow, standIns := [], harness := (true, "7ab7e1f26773b1ee95c5985996ac4c1c8a31a279677d51fbd25da133066d440a"), looks := false }, kinds := [], alts := [], laidByText := true, laidKinds := [.data, .data, .data, .data, .sentinel, .sentinel, .sentinel, .sentinel, .sentinel, .sentinel, .pinned], laidTests := true, laidLooks := .later }
def PlanSaysCardSaid : Prop := Claim7.holds Tryz.pinned (.plain (OpenSpec.ofChange planSaysSpec)) planSaysCard

/-- THE SECOND FORM's CARD OF 'smithylaw26.PlanFresh'. -/
def planFreshUptoCard : Claim7 := { stood := { row := planFreshUptoRow, standIns := [], harness := (true, "7ab7e1f26773b1ee95c5985996ac4c1c8a31a279677d51fbd25da133066d440a"), looks := false }, kinds := [], alts := [], laidByText := true, laidKinds := [.data, .data, .data, .data, .sentinel, .sentinel, .sentinel, .sentinel, .sentinel, .sentinel, .pinned], laidTests := true, laidLooks := .later }
def PlanFreshUptoCardSaid : Prop := Claim7.holds Tryz.pinned (.plain (OpenSpec.upto planFreshSpec)) planFreshUptoCard

/-- THE SECOND FORM's CARD OF 'smithylaw26.PlanChains'. -/
def planChainsUptoCard : Claim7 := { stood := { row := planChainsUptoRow, standIns := [], harness := (true, "7ab7e1f26773b1ee95c5985996ac4c1c8a31a279677d51fbd25da133066d440a"), looks := false }, kinds := [], alts := [], laidByText := true, laidKinds := [.data, .data, .data, .data, .sentinel, .sentinel, .sentinel, .sentinel, .sentinel, .sentinel, .pinned], laidTests := true, laidLooks := .later }
def PlanChainsUptoCardSaid : Prop := Claim7.holds Tryz.pinned (.plain (OpenSpec.upto planChainsSpec)) planChainsUptoCard

/-- THE SECOND FORM's CARD OF 'smithylaw26.PlanSays'. -/
def planSaysUptoCard : Claim7 := { stood := { row := planSaysUptoRow, standIns := [], harness := (true, "7ab7e1f26773b1ee95c5985996ac4c1c8a31a279677d51fbd25da133066d440a"), looks := false }, kinds := [], alts := [], laidByText := true, laidKinds := [.data, .data, .data, .data, .sentinel, .sentinel, .sentinel, .sentinel, .sentinel, .sentinel, .pinned], laidTests := true, laidLooks := .later }
def PlanSaysUptoCardSaid : Prop := Claim7.holds Tryz.pinned (.plain (OpenSpec.upto planSaysSpec)) planSaysUptoCard
end Rows
end Go.Proofs.YtjhipfdbionpoaaGreatDoor
