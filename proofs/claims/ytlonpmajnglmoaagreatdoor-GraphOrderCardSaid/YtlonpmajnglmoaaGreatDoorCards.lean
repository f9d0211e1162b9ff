/-
  DERIVED. GIVEN WITH THE SEED: THE CARDS: each row of YtlonpmajnglmoaaGreatDoorRows.lean that lists a variable, with what it lists TIED to the program's text (the seventh form; the later family's looks); each row that meets fmt, with fmt's text TOLD by the authors' own Lean function (tested against real Go, not proved from fmt's source: count such statements apart). THE CARD IS WHAT COUNTS. Prove the row's statement (the work); the ties are given (YtlonpmajnglmoaaGreatDoorTie.lean); close each card by the builder's one call (the guide's Derived/Test/ToyasCard.lean, 'card_holds'). Laid BY PROGRAM, IN A SANDBOX (cutbox-door.mjs). By AI agents, Wed Nov 11 2026. No macro, syntax, notation, axiom, sorry.
-/
import Derived.Test.YtlonpmajnglmoaaGreatDoorRows
import GoSem.ClaimSeven
namespace Go.Proofs.YtlonpmajnglmoaaGreatDoor
namespace Rows

/-- THE TIED CARD OF 'smithylaw25.CachePlays'. -/
def cachePlaysCard : Claim7 := { stood := { row := cachePlaysRow, standIns := [], harness := (true, "7fa4e2bd29732ee9682c28b242605eb46c9ad9a44d2bea68e3db49a682115f1a"), looks := true }, kinds := [], alts := [], laidByText := true, laidKinds := [.data, .sentinel, .sentinel, .sentinel, .sentinel, .sentinel, .sentinel, .sentinel, .sentinel, .sentinel, .sentinel, .sentinel, .sentinel, .sentinel, .sentinel, .sentinel, .sentinel, .sentinel, .pinned], laidTests := true, laidLooks := .later }
def CachePlaysCardSaid : Prop := Claim7.holds Tryz.pinned (.plain (OpenSpec.ofChange cachePlaysSpec)) cachePlaysCard

/-- THE TIED CARD OF 'smithylaw22.GraphSays'. -/
def graphSaysCard : Claim7 := { stood := { row := graphSaysRow, standIns := [], harness := (true, "7fa4e2bd29732ee9682c28b242605eb46c9ad9a44d2bea68e3db49a682115f1a"), looks := true }, kinds := [], alts := [], laidByText := true, laidKinds := [.data, .sentinel, .sentinel, .sentinel, .sentinel, .sentinel, .sentinel, .sentinel, .sentinel, .sentinel, .sentinel, .sentinel, .sentinel, .sentinel, .sentinel, .sentinel, .sentinel, .sentinel, .pinned], laidTests := true, laidLooks := .later }
def GraphSaysCardSaid : Prop := Claim7.holds Tryz.pinned (.plain (OpenSpec.ofChange graphSaysSpec)) graphSaysCard

/-- THE TIED CARD OF 'smithylaw22.GraphOrder'. -/
def graphOrderCard : Claim7 := { stood := { row := graphOrderRow, standIns := [], harness := (true, "7fa4e2bd29732ee9682c28b242605eb46c9ad9a44d2bea68e3db49a682115f1a"), looks := true }, kinds := [], alts := [], laidByText := true, laidKinds := [.data, .data, .data, .data, .sentinel, .sentinel, .sentinel, .sentinel, .sentinel, .pinned, .pinned, .pinned, .pinned, .pinned, .pinned], laidTests := true, laidLooks := .later }
def GraphOrderCardSaid : Prop := Claim7.holds Tryz.pinned (.plain (OpenSpec.ofChange graphOrderSpec)) graphOrderCard

/-- THE SECOND FORM's CARD OF 'smithylaw25.CachePlays'. -/
def cachePlaysUptoCard : Claim7 := { stood := { row := cachePlaysUptoRow, standIns := [], harness := (true, "7fa4e2bd29732ee9682c28b242605eb46c9ad9a44d2bea68e3db49a682115f1a"), looks := true }, kinds := [], alts := [], laidByText := true, laidKinds := [.data, .sentinel, .sentinel, .sentinel, .sentinel, .sentinel, .sentinel, .sentinel, .sentinel, .sentinel, .sentinel, .sentinel, .sentinel, .sentinel, .sentinel, .sentinel, .sentinel, .sentinel, .pinned], laidTests := true, laidLooks := .later }
def CachePlaysUptoCardSaid : Prop := Claim7.holds Tryz.pinned (.plain (OpenSpec.upto cachePlaysSpec)) cachePlaysUptoCard

/-- THE SECOND FORM's CARD OF 'smithylaw22.GraphSays'. -/
def graphSaysUptoCard : Claim7 := { stood := { row := graphSaysUptoRow, standIns := [], harness := (true, "7fa4e2bd29732ee9682c28b242605eb46c9ad9a44d2bea68e3db49a682115f1a"), looks := true }, kinds := [], alts := [], laidByText := true, laidKinds := [.data, .sentinel, .sentinel, .sentinel, .sentinel, .sentinel, .sentinel, .sentinel, .sentinel, .sentinel, .sentinel, .sentinel, .sentinel, .sentinel, .sentinel, .sentinel, .sentinel, .sentinel, .pinned], laidTests := true, laidLooks := .later }
def GraphSaysUptoCardSaid : Prop := Claim7.holds Tryz.pinned (.plain (OpenSpec.upto graphSaysSpec)) graphSaysUptoCard

/-- THE SECOND FORM's CARD OF 'smithylaw22.GraphOrder'. -/
def graphOrderUptoCard : Claim7 := { stood := { row := graphOrderUptoRow, standIns := [], harness := (true, "7fa4e2bd29732ee9682c28b242605eb46c9ad9a44d2bea68e3db49a682115f1a"), looks := true }, kinds := [], alts := [], laidByText := true, laidKinds := [.data, .data, .data, .data, .sentinel, .sentinel, .sentinel, .sentinel, .sentinel, .pinned, .pinned, .pinned, .pinned, .pinned, .pinned], laidTests := true, laidLooks := .later }
def GraphOrderUptoCardSaid : Prop := Claim7.holds Tryz.pinned (.plain (OpenSpec.upto graphOrderSpec)) graphOrderUptoCard
end Rows
end Go.Proofs.YtlonpmajnglmoaaGreatDoor
