/-
  DERIVED. GIVEN WITH THE SEED: THE CARDS: each row of YtilphcippnfklaaDoorRows.lean that lists a variable, with what it lists TIED to the program's text (the seventh form; the later family's looks); each row that meets fmt, with fmt's text TOLD by the authors' own Lean function (tested against real Go, not proved from fmt's source: count such statements apart). THE CARD IS WHAT COUNTS. Prove the row's statement (the work); the ties are given (YtilphcippnfklaaDoorTie.lean); close each card by the builder's one call (the guide's Derived/Test/ToyasCard.lean, 'card_holds'). Laid BY PROGRAM, IN A SANDBOX (cutbox-door.mjs). By AI agents, Wed Nov 11 2026. No macro, syntax, notation, axiom, sorry.
-/
import Derived.Test.YtilphcippnfklaaDoorRows
import GoSem.ClaimSeven
namespace Go.Proofs.YtilphcippnfklaaDoor
namespace Rows

/-- THE TIED CARD OF 'smithylaw2.ShaSays'. -/
def shaSaysCard : Claim7 := { stood := { row := shaSaysRow, standIns := [], harness := (true, "1f6182d70ad0035f842381cb2de511420c7ad7f0778b6cf2c0a7a3c92806a628"), looks := true }, kinds := [], alts := [], laidByText := true, laidKinds := [.sentinel, .sentinel, .sentinel, .sentinel, .sentinel, .sentinel, .sentinel, .sentinel, .sentinel, .sentinel, .sentinel, .sentinel, .sentinel, .sentinel, .sentinel, .sentinel, .sentinel], laidTests := true, laidLooks := .later }
def ShaSaysCardSaid : Prop := Claim7.holds Tryd.pinned (.plain (OpenSpec.ofChange shaSaysSpec)) shaSaysCard

/-- THE TIED CARD OF 'smithylaw9.NumRings'. -/
def numRingsCard : Claim7 := { stood := { row := numRingsRow, standIns := [], harness := (true, "1f6182d70ad0035f842381cb2de511420c7ad7f0778b6cf2c0a7a3c92806a628"), looks := true }, kinds := [], alts := [], laidByText := true, laidKinds := [.sentinel, .sentinel], laidTests := true, laidLooks := .later }
def NumRingsCardSaid : Prop := Claim7.holds Tryd.pinned (.plain (OpenSpec.ofChange numRingsSpec)) numRingsCard

/-- THE TIED CARD OF 'smithylaw9.NumSays'. -/
def numSaysCard : Claim7 := { stood := { row := numSaysRow, standIns := [], harness := (true, "1f6182d70ad0035f842381cb2de511420c7ad7f0778b6cf2c0a7a3c92806a628"), looks := true }, kinds := [], alts := [], laidByText := true, laidKinds := [.sentinel, .sentinel, .sentinel, .sentinel, .sentinel, .sentinel, .sentinel, .sentinel, .sentinel, .sentinel, .sentinel, .sentinel, .sentinel, .sentinel, .sentinel, .sentinel, .sentinel], laidTests := true, laidLooks := .later }
def NumSaysCardSaid : Prop := Claim7.holds Tryd.pinned (.plain (OpenSpec.ofChange numSaysSpec)) numSaysCard

/-- THE TIED CARD OF 'smithylaw23.ToolSorts'. -/
def toolSortsCard : Claim7 := { stood := { row := toolSortsRow, standIns := [], harness := (true, "1f6182d70ad0035f842381cb2de511420c7ad7f0778b6cf2c0a7a3c92806a628"), looks := true }, kinds := [], alts := [], laidByText := true, laidKinds := [.data, .sentinel, .sentinel, .pinned], laidTests := true, laidLooks := .later }
def ToolSortsCardSaid : Prop := Claim7.holds Tryd.pinned (.plain (OpenSpec.ofChange toolSortsSpec)) toolSortsCard

/-- THE TIED CARD OF 'smithylaw23.ToolJoins'. -/
def toolJoinsCard : Claim7 := { stood := { row := toolJoinsRow, standIns := [], harness := (true, "1f6182d70ad0035f842381cb2de511420c7ad7f0778b6cf2c0a7a3c92806a628"), looks := true }, kinds := [], alts := [], laidByText := true, laidKinds := [.data, .sentinel, .sentinel, .pinned], laidTests := true, laidLooks := .later }
def ToolJoinsCardSaid : Prop := Claim7.holds Tryd.pinned (.plain (OpenSpec.ofChange toolJoinsSpec)) toolJoinsCard

/-- THE TIED CARD OF 'smithylaw20.VisSays'. -/
def visSaysCard : Claim7 := { stood := { row := visSaysRow, standIns := [], harness := (true, "1f6182d70ad0035f842381cb2de511420c7ad7f0778b6cf2c0a7a3c92806a628"), looks := true }, kinds := [], alts := [], laidByText := true, laidKinds := [.data, .sentinel, .sentinel, .sentinel, .sentinel, .sentinel, .sentinel, .sentinel, .sentinel, .sentinel, .sentinel, .sentinel, .sentinel, .sentinel, .sentinel, .sentinel, .sentinel, .sentinel, .pinned], laidTests := true, laidLooks := .later }
def VisSaysCardSaid : Prop := Claim7.holds Tryd.pinned (.plain (OpenSpec.ofChange visSaysSpec)) visSaysCard

/-- THE SECOND FORM's CARD OF 'smithylaw2.ShaSays'. -/
def shaSaysUptoCard : Claim7 := { stood := { row := shaSaysUptoRow, standIns := [], harness := (true, "1f6182d70ad0035f842381cb2de511420c7ad7f0778b6cf2c0a7a3c92806a628"), looks := true }, kinds := [], alts := [], laidByText := true, laidKinds := [.sentinel, .sentinel, .sentinel, .sentinel, .sentinel, .sentinel, .sentinel, .sentinel, .sentinel, .sentinel, .sentinel, .sentinel, .sentinel, .sentinel, .sentinel, .sentinel, .sentinel], laidTests := true, laidLooks := .later }
def ShaSaysUptoCardSaid : Prop := Claim7.holds Tryd.pinned (.plain (OpenSpec.upto shaSaysSpec)) shaSaysUptoCard

/-- THE SECOND FORM's CARD OF 'smithylaw9.NumRings'. -/
def numRingsUptoCard : Claim7 := { stood := { row := numRingsUptoRow, standIns := [], harness := (true, "1f6182d70ad0035f842381cb2de511420c7ad7f0778b6cf2c0a7a3c92806a628"), looks := true }, kinds := [], alts := [], laidByText := true, laidKinds := [.sentinel, .sentinel], laidTests := true, laidLooks := .later }
def NumRingsUptoCardSaid : Prop := Claim7.holds Tryd.pinned (.plain (OpenSpec.upto numRingsSpec)) numRingsUptoCard

/-- THE SECOND FORM's CARD OF 'smithylaw9.NumSays'. -/
def numSaysUptoCard : Claim7 := { stood := { row := numSaysUptoRow, standIns := [], harness := (true, "1f6182d70ad0035f842381cb2de511420c7ad7f0778b6cf2c0a7a3c92806a628"), looks := true }, kinds := [], alts := [], laidByText := true, laidKinds := [.sentinel, .sentinel, .sentinel, .sentinel, .sentinel, .sentinel, .sentinel, .sentinel, .sentinel, .sentinel, .sentinel, .sentinel, .sentinel, .sentinel, .sentinel, .sentinel, .sentinel], laidTests := true, laidLooks := .later }
def NumSaysUptoCardSaid : Prop := Claim7.holds Tryd.pinned (.plain (OpenSpec.upto numSaysSpec)) numSaysUptoCard

/-- THE SECOND FORM's CARD OF 'smithylaw23.ToolSorts'. -/
def toolSortsUptoCard : Claim7 := { stood := { row := toolSortsUptoRow, standIns := [], harness := (true, "1f6182d70ad0035f842381cb2de511420c7ad7f0778b6cf2c0a7a3c92806a628"), looks := true }, kinds := [], alts := [], laidByText := true, laidKinds := [.data, .sentinel, .sentinel, .pinned], laidTests := true, laidLooks := .later }
def ToolSortsUptoCardSaid : Prop := Claim7.holds Tryd.pinned (.plain (OpenSpec.upto toolSortsSpec)) toolSortsUptoCard

/-- THE SECOND FORM's CARD OF 'smithylaw23.ToolJoins'. -/
def toolJoinsUptoCard : Claim7 := { stood := { row := toolJoinsUptoRow, standIns := [], harness := (true, "1f6182d70ad0035f842381cb2de511420c7ad7f0778b6cf2c0a7a3c92806a628"), looks := true }, kinds := [], alts := [], laidByText := true, laidKinds := [.data, .sentinel, .sentinel, .pinned], laidTests := true, laidLooks := .later }
def ToolJoinsUptoCardSaid : Prop := Claim7.holds Tryd.pinned (.plain (OpenSpec.upto toolJoinsSpec)) toolJoinsUptoCard

/-- THE SECOND FORM's CARD OF 'smithylaw20.VisSays'. -/
def visSaysUptoCard : Claim7 := { stood := { row := visSaysUptoRow, standIns := [], harness := (true, "1f6182d70ad0035f842381cb2de511420c7ad7f0778b6cf2c0a7a3c92806a628"), looks := true }, kinds := [], alts := [], laidByText := true, laidKinds := [.data, .sentinel, .sentinel, .sentinel, .sentinel, .sentinel, .sentinel, .sentinel, .sentinel, .sentinel, .sentinel, .sentinel, .sentinel, .sentinel, .sentinel, .sentinel, .sentinel, .sentinel, .pinned], laidTests := true, laidLooks := .later }
def VisSaysUptoCardSaid : Prop := Claim7.holds Tryd.pinned (.plain (OpenSpec.upto visSaysSpec)) visSaysUptoCard
end Rows
end Go.Proofs.YtilphcippnfklaaDoor
