/-
  DERIVED. GIVEN WITH THE SEED: THE CARDS: each row of YtjoepdjeekadcaaGreatDoorRows.lean that lists a variable, with what it lists TIED to the program's text (the seventh form; the later family's looks); each row that meets fmt, with fmt's text TOLD by the authors' own Lean function (tested against real Go, not proved from fmt's source: count such statements apart). THE CARD IS WHAT COUNTS. Prove the row's statement (the work); the ties are given (YtjoepdjeekadcaaGreatDoorTie.lean); close each card by the builder's one call (the guide's Derived/Test/ToyasCard.lean, 'card_holds'). Laid BY PROGRAM, IN A SANDBOX (cutbox-door.mjs). By AI agents, Wed Nov 11 2026. No macro, syntax, notation, axiom, sorry.
-/
import Derived.Test.YtjoepdjeekadcaaGreatDoorRows
import GoSem.ClaimSeven
namespace Go.Proofs.YtjoepdjeekadcaaGreatDoor
namespace Rows

/-- THE TIED CARD OF 'smithylaw13.DepsSay'. -/
def depsSayCard : Claim7 := { stood := { row := depsSayRow, standIns := [], harness := (true, "807991ceedca18cdbe099537d8cbbecab6057c5167df0d15dfff3f7c5b79ce09"), looks := true }, kinds := [], alts := [], laidByText := true, laidKinds := [.data, .data, .data, .sentinel, .sentinel, .sentinel, .sentinel, .sentinel, .sentinel, .sentinel, .sentinel, .sentinel, .sentinel, .sentinel, .sentinel, .sentinel, .sentinel, .sentinel, .sentinel, .sentinel], laidTests := true, laidLooks := .later }
def DepsSayCardSaid : Prop := Claim7.holds Tryz.pinned (.plain (OpenSpec.ofChange depsSaySpec)) depsSayCard

/-- THE TIED CARD OF 'smithylaw12.ListOvers'. -/
def listOversCard : Claim7 := { stood := { row := listOversRow, standIns := [], harness := (true, "807991ceedca18cdbe099537d8cbbecab6057c5167df0d15dfff3f7c5b79ce09"), looks := true }, kinds := [], alts := [], laidByText := true, laidKinds := [.sentinel, .sentinel, .sentinel, .sentinel, .sentinel, .sentinel, .sentinel, .sentinel, .sentinel, .sentinel, .sentinel, .sentinel, .sentinel, .sentinel, .sentinel, .sentinel, .sentinel], laidTests := true, laidLooks := .later }
def ListOversCardSaid : Prop := Claim7.holds Tryz.pinned (.plain (OpenSpec.ofChange listOversSpec)) listOversCard

/-- THE TIED CARD OF 'smithylaw12.ListParts'. -/
def listPartsCard : Claim7 := { stood := { row := listPartsRow, standIns := [], harness := (true, "807991ceedca18cdbe099537d8cbbecab6057c5167df0d15dfff3f7c5b79ce09"), looks := true }, kinds := [], alts := [], laidByText := true, laidKinds := [.sentinel, .sentinel, .sentinel, .sentinel, .sentinel, .sentinel, .sentinel, .sentinel, .sentinel, .sentinel, .sentinel, .sentinel, .sentinel, .sentinel, .sentinel, .sentinel, .sentinel], laidTests := true, laidLooks := .later }
def ListPartsCardSaid : Prop := Claim7.holds Tryz.pinned (.plain (OpenSpec.ofChange listPartsSpec)) listPartsCard

/-- THE TIED CARD OF 'smithylaw12.ListRanges'. -/
def listRangesCard : Claim7 := { stood := { row := listRangesRow, standIns := [], harness := (true, "807991ceedca18cdbe099537d8cbbecab6057c5167df0d15dfff3f7c5b79ce09"), looks := true }, kinds := [], alts := [], laidByText := true, laidKinds := [.data, .data, .data, .sentinel, .sentinel, .sentinel, .sentinel, .sentinel, .sentinel, .sentinel, .sentinel, .sentinel, .sentinel, .sentinel, .sentinel, .sentinel, .sentinel, .sentinel, .sentinel, .sentinel], laidTests := true, laidLooks := .later }
def ListRangesCardSaid : Prop := Claim7.holds Tryz.pinned (.plain (OpenSpec.ofChange listRangesSpec)) listRangesCard

/-- THE TIED CARD OF 'smithylaw12.ListPlays'. -/
def listPlaysCard : Claim7 := { stood := { row := listPlaysRow, standIns := [], harness := (true, "807991ceedca18cdbe099537d8cbbecab6057c5167df0d15dfff3f7c5b79ce09"), looks := true }, kinds := [], alts := [], laidByText := true, laidKinds := [.data, .data, .data, .sentinel, .sentinel, .sentinel, .sentinel, .sentinel, .sentinel, .sentinel, .sentinel, .sentinel, .sentinel, .sentinel, .sentinel, .sentinel, .sentinel, .sentinel, .sentinel, .sentinel], laidTests := true, laidLooks := .later }
def ListPlaysCardSaid : Prop := Claim7.holds Tryz.pinned (.plain (OpenSpec.ofChange listPlaysSpec)) listPlaysCard

/-- THE SECOND FORM's CARD OF 'smithylaw13.DepsSay'. -/
def depsSayUptoCard : Claim7 := { stood := { row := depsSayUptoRow, standIns := [], harness := (true, "807991ceedca18cdbe099537d8cbbecab6057c5167df0d15dfff3f7c5b79ce09"), looks := true }, kinds := [], alts := [], laidByText := true, laidKinds := [.data, .data, .data, .sentinel, .sentinel, .sentinel, .sentinel, .sentinel, .sentinel, .sentinel, .sentinel, .sentinel, .sentinel, .sentinel, .sentinel, .sentinel, .sentinel, .sentinel, .sentinel, .sentinel], laidTests := true, laidLooks := .later }
def DepsSayUptoCardSaid : Prop := Claim7.holds Tryz.pinned (.plain (OpenSpec.upto depsSaySpec)) depsSayUptoCard

/-- THE SECOND FORM's CARD OF 'smithylaw12.ListOvers'. -/
def listOversUptoCard : Claim7 := { stood := { row := listOversUptoRow, standIns := [], harness := (true, "807991ceedca18cdbe099537d8cbbecab6057c5167df0d15dfff3f7c5b79ce09"), looks := true }, kinds := [], alts := [], laidByText := true, laidKinds := [.sentinel, .sentinel, .sentinel, .sentinel, .sentinel, .sentinel, .sentinel, .sentinel, .sentinel, .sentinel, .sentinel, .sentinel, .sentinel, .sentinel, .sentinel, .sentinel, .sentinel], laidTests := true, laidLooks := .later }
def ListOversUptoCardSaid : Prop := Claim7.holds Tryz.pinned (.plain (OpenSpec.upto listOversSpec)) listOversUptoCard

/-- THE SECOND FORM's CARD OF 'smithylaw12.ListParts'. -/
def listPartsUptoCard : Claim7 := { stood := { row := listPartsUptoRow, standIns := [], harness := (true, "807991ceedca18cdbe099537d8cbbecab6057c5167df0d15dfff3f7c5b79ce09"), looks := true }, kinds := [], alts := [], laidByText := true, laidKinds := [.sentinel, .sentinel, .sentinel, .sentinel, .sentinel, .sentinel, .sentinel, .sentinel, .sentinel, .sentinel, .sentinel, .sentinel, .sentinel, .sentinel, .sentinel, .sentinel, .sentinel], laidTests := true, laidLooks := .later }
def ListPartsUptoCardSaid : Prop := Claim7.holds Tryz.pinned (.plain (OpenSpec.upto listPartsSpec)) listPartsUptoCard

/-- THE SECOND FORM's CARD OF 'smithylaw12.ListRanges'. -/
def listRangesUptoCard : Claim7 := { stood := { row := listRangesUptoRow, standIns := [], harness := (true, "807991ceedca18cdbe099537d8cbbecab6057c5167df0d15dfff3f7c5b79ce09"), looks := true }, kinds := [], alts := [], laidByText := true, laidKinds := [.data, .data, .data, .sentinel, .sentinel, .sentinel, .sentinel, .sentinel, .sentinel, .sentinel, .sentinel, .sentinel, .sentinel, .sentinel, .sentinel, .sentinel, .sentinel, .sentinel, .sentinel, .sentinel], laidTests := true, laidLooks := .later }
def ListRangesUptoCardSaid : Prop := Claim7.holds Tryz.pinned (.plain (OpenSpec.upto listRangesSpec)) listRangesUptoCard

/-- THE SECOND FORM's CARD OF 'smithylaw12.ListPlays'. -/
def listPlaysUptoCard : Claim7 := { stood := { row := listPlaysUptoRow, standIns := [], harness := (true, "807991ceedca18cdbe099537d8cbbecab6057c5167df0d15dfff3f7c5b79ce09"), looks := true }, kinds := [], alts := [], laidByText := true, laidKinds := [.data, .data, .data, .sentinel, .sentinel, .sentinel, .sentinel, .sentinel, .sentinel, .sentinel, .sentinel, .sentinel, .sentinel, .sentinel, .sentinel, .sentinel, .sentinel, .sentinel, .sentinel, .sentinel], laidTests := true, laidLooks := .later }
def ListPlaysUptoCardSaid : Prop := Claim7.holds Tryz.pinned (.plain (OpenSpec.upto listPlaysSpec)) listPlaysUptoCard
end Rows
end Go.Proofs.YtjoepdjeekadcaaGreatDoor
