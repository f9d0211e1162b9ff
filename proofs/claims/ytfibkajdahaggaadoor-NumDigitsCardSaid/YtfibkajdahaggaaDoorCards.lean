/-
  DERIVED. GIVEN WITH THE SEED: THE CARDS: each row of YtfibkajdahaggaaDoorRows.lean that lists a variable, with what it lists TIED to the program's text (the seventh form; the later family's looks); each row that meets fmt, with fmt's text TOLD by the authors' own Lean function (tested against real Go, not proved from fmt's source: count such statements apart). THE CARD IS WHAT COUNTS. Prove the row's statement (the work); the ties are given (YtfibkajdahaggaaDoorTie.lean); close each card by the builder's one call (the guide's Derived/Test/ToyasCard.lean, 'card_holds'). Laid BY PROGRAM, IN A SANDBOX (cutbox-door.mjs). By AI agents, Wed Nov 11 2026. No macro, syntax, notation, axiom, sorry.
-/
import Derived.Test.YtfibkajdahaggaaDoorRows
import GoSem.ClaimSeven
namespace Go.Proofs.YtfibkajdahaggaaDoor
namespace Rows

/-- THE TIED CARD OF 'smithylaw2.ShaPieces'. -/
def shaPiecesCard : Claim7 := { stood := { row := shaPiecesRow, standIns := [], harness := (true, "8fefbbdfaf8dae0407dd6ea6626246bc116ac79fbbb7ad36d98e3ac88da3d4a8"), looks := true }, kinds := [], alts := [], laidByText := true, laidKinds := [.sentinel], laidTests := true, laidLooks := .later }
def ShaPiecesCardSaid : Prop := Claim7.holds Tryd.pinned (.plain (OpenSpec.ofChange shaPiecesSpec)) shaPiecesCard

/-- THE TIED CARD OF 'smithylaw2.ShaSays'. -/
def shaSaysCard : Claim7 := { stood := { row := shaSaysRow, standIns := [], harness := (true, "8fefbbdfaf8dae0407dd6ea6626246bc116ac79fbbb7ad36d98e3ac88da3d4a8"), looks := true }, kinds := [], alts := [], laidByText := true, laidKinds := [.sentinel, .sentinel, .sentinel, .sentinel, .sentinel, .sentinel, .sentinel, .sentinel, .sentinel, .sentinel, .sentinel, .sentinel, .sentinel, .sentinel, .sentinel, .sentinel, .sentinel], laidTests := true, laidLooks := .later }
def ShaSaysCardSaid : Prop := Claim7.holds Tryd.pinned (.plain (OpenSpec.ofChange shaSaysSpec)) shaSaysCard

/-- THE TIED CARD OF 'smithylaw9.NumRings'. -/
def numRingsCard : Claim7 := { stood := { row := numRingsRow, standIns := [], harness := (true, "8fefbbdfaf8dae0407dd6ea6626246bc116ac79fbbb7ad36d98e3ac88da3d4a8"), looks := true }, kinds := [], alts := [], laidByText := true, laidKinds := [.sentinel, .sentinel], laidTests := true, laidLooks := .later }
def NumRingsCardSaid : Prop := Claim7.holds Tryd.pinned (.plain (OpenSpec.ofChange numRingsSpec)) numRingsCard

/-- THE TIED CARD OF 'smithylaw9.NumDigits'. -/
def numDigitsCard : Claim7 := { stood := { row := numDigitsRow, standIns := [], harness := (true, "8fefbbdfaf8dae0407dd6ea6626246bc116ac79fbbb7ad36d98e3ac88da3d4a8"), looks := true }, kinds := [], alts := [], laidByText := true, laidKinds := [.sentinel, .sentinel, .sentinel, .sentinel, .sentinel, .sentinel, .sentinel, .sentinel, .sentinel, .sentinel, .sentinel, .sentinel, .sentinel, .sentinel, .sentinel, .sentinel, .sentinel], laidTests := true, laidLooks := .later }
def NumDigitsCardSaid : Prop := Claim7.holds Tryd.pinned (.plain (OpenSpec.ofChange numDigitsSpec)) numDigitsCard

/-- THE TIED CARD OF 'smithylaw9.NumSays'. -/
def numSaysCard : Claim7 := { stood := { row := numSaysRow, standIns := [], harness := (true, "8fefbbdfaf8dae0407dd6ea6626246bc116ac79fbbb7ad36d98e3ac88da3d4a8"), looks := true }, kinds := [], alts := [], laidByText := true, laidKinds := [.sentinel, .sentinel, .sentinel, .sentinel, .sentinel, .sentinel, .sentinel, .sentinel, .sentinel, .sentinel, .sentinel, .sentinel, .sentinel, .sentinel, .sentinel, .sentinel, .sentinel], laidTests := true, laidLooks := .later }
def NumSaysCardSaid : Prop := Claim7.holds Tryd.pinned (.plain (OpenSpec.ofChange numSaysSpec)) numSaysCard

/-- THE SECOND FORM's CARD OF 'smithylaw2.ShaPieces'. -/
def shaPiecesUptoCard : Claim7 := { stood := { row := shaPiecesUptoRow, standIns := [], harness := (true, "8fefbbdfaf8dae0407dd6ea6626246bc116ac79fbbb7ad36d98e3ac88da3d4a8"), looks := true }, kinds := [], alts := [], laidByText := true, laidKinds := [.sentinel], laidTests := true, laidLooks := .later }
def ShaPiecesUptoCardSaid : Prop := Claim7.holds Tryd.pinned (.plain (OpenSpec.upto shaPiecesSpec)) shaPiecesUptoCard

/-- THE SECOND FORM's CARD OF 'smithylaw2.ShaSays'. -/
def shaSaysUptoCard : Claim7 := { stood := { row := shaSaysUptoRow, standIns := [], harness := (true, "8fefbbdfaf8dae0407dd6ea6626246bc116ac79fbbb7ad36d98e3ac88da3d4a8"), looks := true }, kinds := [], alts := [], laidByText := true, laidKinds := [.sentinel, .sentinel, .sentinel, .sentinel, .sentinel, .sentinel, .sentinel, .sentinel, .sentinel, .sentinel, .sentinel, .sentinel, .sentinel, .sentinel, .sentinel, .sentinel, .sentinel], laidTests := true, laidLooks := .later }
def ShaSaysUptoCardSaid : Prop := Claim7.holds Tryd.pinned (.plain (OpenSpec.upto shaSaysSpec)) shaSaysUptoCard

/-- THE SECOND FORM's CARD OF 'smithylaw9.NumRings'. -/
def numRingsUptoCard : Claim7 := { stood := { row := numRingsUptoRow, standIns := [], harness := (true, "8fefbbdfaf8dae0407dd6ea6626246bc116ac79fbbb7ad36d98e3ac88da3d4a8"), looks := true }, kinds := [], alts := [], laidByText := true, laidKinds := [.sentinel, .sentinel], laidTests := true, laidLooks := .later }
def NumRingsUptoCardSaid : Prop := Claim7.holds Tryd.pinned (.plain (OpenSpec.upto numRingsSpec)) numRingsUptoCard

/-- THE SECOND FORM's CARD OF 'smithylaw9.NumDigits'. -/
def numDigitsUptoCard : Claim7 := { stood := { row := numDigitsUptoRow, standIns := [], harness := (true, "8fefbbdfaf8dae0407dd6ea6626246bc116ac79fbbb7ad36d98e3ac88da3d4a8"), looks := true }, kinds := [], alts := [], laidByText := true, laidKinds := [.sentinel, .sentinel, .sentinel, .sentinel, .sentinel, .sentinel, .sentinel, .sentinel, .sentinel, .sentinel, .sentinel, .sentinel, .sentinel, .sentinel, .sentinel, .sentinel, .sentinel], laidTests := true, laidLooks := .later }
def NumDigitsUptoCardSaid : Prop := Claim7.holds Tryd.pinned (.plain (OpenSpec.upto numDigitsSpec)) numDigitsUptoCard

/-- THE SECOND FORM's CARD OF 'smithylaw9.NumSays'. -/
def numSaysUptoCard : Claim7 := { stood := { row := numSaysUptoRow, standIns := [], harness := (true, "8fefbbdfaf8dae0407dd6ea6626246bc116ac79fbbb7ad36d98e3ac88da3d4a8"), looks := true }, kinds := [], alts := [], laidByText := true, laidKinds := [.sentinel, .sentinel, .sentinel, .sentinel, .sentinel, .sentinel, .sentinel, .sentinel, .sentinel, .sentinel, .sentinel, .sentinel, .sentinel, .sentinel, .sentinel, .sentinel, .sentinel], laidTests := true, laidLooks := .later }
def NumSaysUptoCardSaid : Prop := Claim7.holds Tryd.pinned (.plain (OpenSpec.upto numSaysSpec)) numSaysUptoCard
end Rows
end Go.Proofs.YtfibkajdahaggaaDoor
