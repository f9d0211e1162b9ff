/-
  DERIVED. GIVEN WITH THE SEED: THE CARDS: each row of YtcfljnfaakjdjaaDoorRows.lean that lists a variable, with what it lists TIED to the program's text (the seventh form; the later family's looks); each row that meets fmt, with fmt's text TOLD by the authors' own Lean function (tested against real Go, not proved from fmt's source: count such statements apart). THE CARD IS WHAT COUNTS. Prove the row's statement (the work); the ties are given (YtcfljnfaakjdjaaDoorTie.lean); close each card by the builder's one call (the guide's Derived/Test/ToyasCard.lean, 'card_holds'). Laid BY PROGRAM, IN A SANDBOX (cutbox-door.mjs). By AI agents, Wed Nov 11 2026. No macro, syntax, notation, axiom, sorry.
-/
import Derived.Test.YtcfljnfaakjdjaaDoorRows
import GoSem.ClaimSeven
namespace Go.Proofs.YtcfljnfaakjdjaaDoor
namespace Rows

/-- THE TIED CARD OF 'smithylaw20.VisGrows'. -/
def visGrowsCard : Claim7 := { stood := { row := visGrowsRow, standIns := [], harness := (true, "236f9f0cba386e4a6bc8d54c443fd9bb06a7704a5b57674fbf7e1808255f5e9c"), looks := true }, kinds := [], alts := [], laidByText := true, laidKinds := [.data, .sentinel, .pinned], laidTests := true, laidLooks := .later }
def VisGrowsCardSaid : Prop := Claim7.holds Tryd.pinned (.plain (OpenSpec.ofChange visGrowsSpec)) visGrowsCard

/-- THE TIED CARD OF 'smithylaw24.KeySays'. -/
def keySaysCard : Claim7 := { stood := { row := keySaysRow, standIns := [], harness := (true, "236f9f0cba386e4a6bc8d54c443fd9bb06a7704a5b57674fbf7e1808255f5e9c"), looks := true }, kinds := [], alts := [], laidByText := true, laidKinds := [.data, .data, .data], laidTests := true, laidLooks := .later }
def KeySaysCardSaid : Prop := Claim7.holds Tryd.pinned (.plain (OpenSpec.ofChange keySaysSpec)) keySaysCard

/-- THE TIED CARD OF 'smithylaw24.KeyUnlike'. -/
def keyUnlikeCard : Claim7 := { stood := { row := keyUnlikeRow, standIns := [], harness := (true, "236f9f0cba386e4a6bc8d54c443fd9bb06a7704a5b57674fbf7e1808255f5e9c"), looks := true }, kinds := [], alts := [], laidByText := true, laidKinds := [.data, .data, .data], laidTests := true, laidLooks := .later }
def KeyUnlikeCardSaid : Prop := Claim7.holds Tryd.pinned (.plain (OpenSpec.ofChange keyUnlikeSpec)) keyUnlikeCard

/-- THE TIED CARD OF 'smithylaw24.KeyParts'. -/
def keyPartsCard : Claim7 := { stood := { row := keyPartsRow, standIns := [], harness := (true, "236f9f0cba386e4a6bc8d54c443fd9bb06a7704a5b57674fbf7e1808255f5e9c"), looks := true }, kinds := [], alts := [], laidByText := true, laidKinds := [.data, .data, .data], laidTests := true, laidLooks := .later }
def KeyPartsCardSaid : Prop := Claim7.holds Tryd.pinned (.plain (OpenSpec.ofChange keyPartsSpec)) keyPartsCard

/-- THE TIED CARD OF 'smithylaw17.LabelBack'. -/
def labelBackCard : Claim7 := { stood := { row := labelBackRow, standIns := [], harness := (true, "236f9f0cba386e4a6bc8d54c443fd9bb06a7704a5b57674fbf7e1808255f5e9c"), looks := true }, kinds := [], alts := [], laidByText := true, laidKinds := [.data, .sentinel, .pinned], laidTests := true, laidLooks := .later }
def LabelBackCardSaid : Prop := Claim7.holds Tryd.pinned (.plain (OpenSpec.ofChange labelBackSpec)) labelBackCard

/-- THE TIED CARD OF 'smithylaw17.LabelSorts'. -/
def labelSortsCard : Claim7 := { stood := { row := labelSortsRow, standIns := [], harness := (true, "236f9f0cba386e4a6bc8d54c443fd9bb06a7704a5b57674fbf7e1808255f5e9c"), looks := true }, kinds := [], alts := [], laidByText := true, laidKinds := [.data, .sentinel, .pinned], laidTests := true, laidLooks := .later }
def LabelSortsCardSaid : Prop := Claim7.holds Tryd.pinned (.plain (OpenSpec.ofChange labelSortsSpec)) labelSortsCard

/-- THE TIED CARD OF 'smithylaw1.PathStars'. -/
def pathStarsCard : Claim7 := { stood := { row := pathStarsRow, standIns := [], harness := (true, "236f9f0cba386e4a6bc8d54c443fd9bb06a7704a5b57674fbf7e1808255f5e9c"), looks := true }, kinds := [], alts := [], laidByText := true, laidKinds := [.data, .sentinel, .pinned], laidTests := true, laidLooks := .later }
def PathStarsCardSaid : Prop := Claim7.holds Tryd.pinned (.plain (OpenSpec.ofChange pathStarsSpec)) pathStarsCard

/-- THE TIED CARD OF 'smithylaw1.PathDirs'. -/
def pathDirsCard : Claim7 := { stood := { row := pathDirsRow, standIns := [], harness := (true, "236f9f0cba386e4a6bc8d54c443fd9bb06a7704a5b57674fbf7e1808255f5e9c"), looks := true }, kinds := [], alts := [], laidByText := true, laidKinds := [.data, .sentinel, .pinned], laidTests := true, laidLooks := .later }
def PathDirsCardSaid : Prop := Claim7.holds Tryd.pinned (.plain (OpenSpec.ofChange pathDirsSpec)) pathDirsCard

/-- THE TIED CARD OF 'smithylaw1.PathSays'. -/
def pathSaysCard : Claim7 := { stood := { row := pathSaysRow, standIns := [], harness := (true, "236f9f0cba386e4a6bc8d54c443fd9bb06a7704a5b57674fbf7e1808255f5e9c"), looks := true }, kinds := [], alts := [], laidByText := true, laidKinds := [.data, .sentinel, .sentinel, .sentinel, .sentinel, .sentinel, .sentinel, .sentinel, .sentinel, .sentinel, .sentinel, .sentinel, .sentinel, .sentinel, .sentinel, .sentinel, .sentinel, .sentinel, .pinned], laidTests := true, laidLooks := .later }
def PathSaysCardSaid : Prop := Claim7.holds Tryd.pinned (.plain (OpenSpec.ofChange pathSaysSpec)) pathSaysCard

/-- THE TIED CARD OF 'smithylaw1.PathAgain'. -/
def pathAgainCard : Claim7 := { stood := { row := pathAgainRow, standIns := [], harness := (true, "236f9f0cba386e4a6bc8d54c443fd9bb06a7704a5b57674fbf7e1808255f5e9c"), looks := true }, kinds := [], alts := [], laidByText := true, laidKinds := [.data, .sentinel, .pinned], laidTests := true, laidLooks := .later }
def PathAgainCardSaid : Prop := Claim7.holds Tryd.pinned (.plain (OpenSpec.ofChange pathAgainSpec)) pathAgainCard

/-- THE TIED CARD OF 'smithylaw1.PathMatches'. -/
def pathMatchesCard : Claim7 := { stood := { row := pathMatchesRow, standIns := [], harness := (true, "236f9f0cba386e4a6bc8d54c443fd9bb06a7704a5b57674fbf7e1808255f5e9c"), looks := true }, kinds := [], alts := [], laidByText := true, laidKinds := [.data, .sentinel, .sentinel, .sentinel, .sentinel, .sentinel, .sentinel, .sentinel, .sentinel, .sentinel, .sentinel, .sentinel, .sentinel, .sentinel, .sentinel, .sentinel, .sentinel, .sentinel, .pinned], laidTests := true, laidLooks := .later }
def PathMatchesCardSaid : Prop := Claim7.holds Tryd.pinned (.plain (OpenSpec.ofChange pathMatchesSpec)) pathMatchesCard

/-- THE TIED CARD OF 'smithylaw1.PathGlobs'. -/
def pathGlobsCard : Claim7 := { stood := { row := pathGlobsRow, standIns := [], harness := (true, "236f9f0cba386e4a6bc8d54c443fd9bb06a7704a5b57674fbf7e1808255f5e9c"), looks := true }, kinds := [], alts := [], laidByText := true, laidKinds := [.data, .sentinel, .pinned], laidTests := true, laidLooks := .later }
def PathGlobsCardSaid : Prop := Claim7.holds Tryd.pinned (.plain (OpenSpec.ofChange pathGlobsSpec)) pathGlobsCard

/-- THE SECOND FORM's CARD OF 'smithylaw20.VisGrows'. -/
def visGrowsUptoCard : Claim7 := { stood := { row := visGrowsUptoRow, standIns := [], harness := (true, "236f9f0cba386e4a6bc8d54c443fd9bb06a7704a5b57674fbf7e1808255f5e9c"), looks := true }, kinds := [], alts := [], laidByText := true, laidKinds := [.data, .sentinel, .pinned], laidTests := true, laidLooks := .later }
def VisGrowsUptoCardSaid : Prop := Claim7.holds Tryd.pinned (.plain (OpenSpec.upto visGrowsSpec)) visGrowsUptoCard

/-- THE SECOND FORM's CARD OF 'smithylaw24.KeySays'. -/
def keySaysUptoCard : Claim7 := { stood := { row := keySaysUptoRow, standIns := [], harness := (true, "236f9f0cba386e4a6bc8d54c443fd9bb06a7704a5b57674fbf7e1808255f5e9c"), looks := true }, kinds := [], alts := [], laidByText := true, laidKinds := [.data, .data, .data], laidTests := true, laidLooks := .later }
def KeySaysUptoCardSaid : Prop := Claim7.holds Tryd.pinned (.plain (OpenSpec.upto keySaysSpec)) keySaysUptoCard

/-- THE SECOND FORM's CARD OF 'smithylaw24.KeyUnlike'. -/
def keyUnlikeUptoCard : Claim7 := { stood := { row := keyUnlikeUptoRow, standIns := [], harness := (true, "236f9f0cba386e4a6bc8d54c443fd9bb06a7704a5b57674fbf7e1808255f5e9c"), looks := true }, kinds := [], alts := [], laidByText := true, laidKinds := [.data, .data, .data], laidTests := true, laidLooks := .later }
def KeyUnlikeUptoCardSaid : Prop := Claim7.holds Tryd.pinned (.plain (OpenSpec.upto keyUnlikeSpec)) keyUnlikeUptoCard

/-- THE SECOND FORM's CARD OF 'smithylaw24.KeyParts'. -/
def keyPartsUptoCard : Claim7 := { stood := { row := keyPartsUptoRow, standIns := [], harness := (true, "236f9f0cba386e4a6bc8d54c443fd9bb06a7704a5b57674fbf7e1808255f5e9c"), looks := true }, kinds := [], alts := [], laidByText := true, laidKinds := [.data, .data, .data], laidTests := true, laidLooks := .later }
def KeyPartsUptoCardSaid : Prop := Claim7.holds Tryd.pinned (.plain (OpenSpec.upto keyPartsSpec)) keyPartsUptoCard

/-- THE SECOND FORM's CARD OF 'smithylaw17.LabelBack'. -/
def labelBackUptoCard : Claim7 := { stood := { row := labelBackUptoRow, standIns := [], harness := (true, "236f9f0cba386e4a6bc8d54c443fd9bb06a7704a5b57674fbf7e1808255f5e9c"), looks := true }, kinds := [], alts := [], laidByText := true, laidKinds := [.data, .sentinel, .pinned], laidTests := true, laidLooks := .later }
def LabelBackUptoCardSaid : Prop := Claim7.holds Tryd.pinned (.plain (OpenSpec.upto labelBackSpec)) labelBackUptoCard

/-- THE SECOND FORM's CARD OF 'smithylaw17.LabelSorts'. -/
def labelSortsUptoCard : Claim7 := { stood := { row := labelSortsUptoRow, standIns := [], harness := (true, "236f9f0cba386e4a6bc8d54c443fd9bb06a7704a5b57674fbf7e1808255f5e9c"), looks := true }, kinds := [], alts := [], laidByText := true, laidKinds := [.data, .sentinel, .pinned], laidTests := true, laidLooks := .later }
def LabelSortsUptoCardSaid : Prop := Claim7.holds Tryd.pinned (.plain (OpenSpec.upto labelSortsSpec)) labelSortsUptoCard

/-- THE SECOND FORM's CARD OF 'smithylaw1.PathStars'. -/
def pathStarsUptoCard : Claim7 := { stood := { row := pathStarsUptoRow, standIns := [], harness := (true, "236f9f0cba386e4a6bc8d54c443fd9bb06a7704a5b57674fbf7e1808255f5e9c"), looks := true }, kinds := [], alts := [], laidByText := true, laidKinds := [.data, .sentinel, .pinned], laidTests := true, laidLooks := .later }
def PathStarsUptoCardSaid : Prop := Claim7.holds Tryd.pinned (.plain (OpenSpec.upto pathStarsSpec)) pathStarsUptoCard

/-- THE SECOND FORM's CARD OF 'smithylaw1.PathDirs'. -/
def pathDirsUptoCard : Claim7 := { stood := { row := pathDirsUptoRow, standIns := [], harness := (true, "236f9f0cba386e4a6bc8d54c443fd9bb06a7704a5b57674fbf7e1808255f5e9c"), looks := true }, kinds := [], alts := [], laidByText := true, laidKinds := [.data, .sentinel, .pinned], laidTests := true, laidLooks := .later }
def PathDirsUptoCardSaid : Prop := Claim7.holds Tryd.pinned (.plain (OpenSpec.upto pathDirsSpec)) pathDirsUptoCard

/-- THE SECOND FORM's CARD OF 'smithylaw1.PathSays'. -/
def pathSaysUptoCard : Claim7 := { stood := { row := pathSaysUptoRow, standIns := [], harness := (true, "236f9f0cba386e4a6bc8d54c443fd9bb06a7704a5b57674fbf7e1808255f5e9c"), looks := true }, kinds := [], alts := [], laidByText := true, laidKinds := [.data, .sentinel, .sentinel, .sentinel, .sentinel, .sentinel, .sentinel, .sentinel, .sentinel, .sentinel, .sentinel, .sentinel, .sentinel, .sentinel, .sentinel, .sentinel, .sentinel, .sentinel, .pinned], laidTests := true, laidLooks := .later }
def PathSaysUptoCardSaid : Prop := Claim7.holds Tryd.pinned (.plain (OpenSpec.upto pathSaysSpec)) pathSaysUptoCard

/-- THE SECOND FORM's CARD OF 'smithylaw1.PathAgain'. -/
def pathAgainUptoCard : Claim7 := { stood := { row := pathAgainUptoRow, standIns := [], harness := (true, "236f9f0cba386e4a6bc8d54c443fd9bb06a7704a5b57674fbf7e1808255f5e9c"), looks := true }, kinds := [], alts := [], laidByText := true, laidKinds := [.data, .sentinel, .pinned], laidTests := true, laidLooks := .later }
def PathAgainUptoCardSaid : Prop := Claim7.holds Tryd.pinned (.plain (OpenSpec.upto pathAgainSpec)) pathAgainUptoCard

/-- THE SECOND FORM's CARD OF 'smithylaw1.PathMatches'. -/
def pathMatchesUptoCard : Claim7 := { stood := { row := pathMatchesUptoRow, standIns := [], harness := (true, "236f9f0cba386e4a6bc8d54c443fd9bb06a7704a5b57674fbf7e1808255f5e9c"), looks := true }, kinds := [], alts := [], laidByText := true, laidKinds := [.data, .sentinel, .sentinel, .sentinel, .sentinel, .sentinel, .sentinel, .sentinel, .sentinel, .sentinel, .sentinel, .sentinel, .sentinel, .sentinel, .sentinel, .sentinel, .sentinel, .sentinel, .pinned], laidTests := true, laidLooks := .later }
def PathMatchesUptoCardSaid : Prop := Claim7.holds Tryd.pinned (.plain (OpenSpec.upto pathMatchesSpec)) pathMatchesUptoCard

/-- THE SECOND FORM's CARD OF 'smithylaw1.PathGlobs'. -/
def pathGlobsUptoCard : Claim7 := { stood := { row := pathGlobsUptoRow, standIns := [], harness := (true, "236f9f0cba386e4a6bc8d54c443fd9bb06a7704a5b57674fbf7e1808255f5e9c"), looks := true }, kinds := [], alts := [], laidByText := true, laidKinds := [.data, .sentinel, .pinned], laidTests := true, laidLooks := .later }
def PathGlobsUptoCardSaid : Prop := Claim7.holds Tryd.pinned (.plain (OpenSpec.upto pathGlobsSpec)) pathGlobsUptoCard
end Rows
end Go.Proofs.YtcfljnfaakjdjaaDoor
