/-
  DERIVED. GIVEN WITH THE SEED: THE CARDS: each row of YtjinkmipkfjblaaDoorRows.lean that lists a variable, with what it lists TIED to the program's text (the seventh form; the later family's looks); each row that meets fmt, with fmt's text TOLD by the authors' own Lean function (tested against real Go, not proved from fmt's source: count such statements apart). THE CARD IS WHAT COUNTS. Prove the row's statement (the work); the ties are given (YtjinkmipkfjblaaDoorTie.lean); close each card by the builder's one call (the guide's Derived/Test/ToyasCard.lean, 'card_holds'). Laid BY PROGRAM, IN A SANDBOX (cutbox-door.mjs). By AI agents, Wed Nov 11 2026. No macro, syntax, notation, axiom, sorry.
-/
import Derived.Test.YtjinkmipkfjblaaDoorRows
import GoSem.ClaimSeven
namespace Go.Proofs.YtjinkmipkfjblaaDoor
namespace Rows

/-- THE TIED CARD OF 'smithylaw17.LabelSorts'. -/
def labelSortsCard : Claim7 := { stood := { row := labelSortsRow, standIns := [], harness := (true, "967cff31476afacfa5af0ce5b9394da1cabd80600fd89ed9e304e437cf4a56ea"), looks := true }, kinds := [], alts := [], laidByText := true, laidKinds := [.data, .sentinel, .pinned], laidTests := true, laidLooks := .later }
def LabelSortsCardSaid : Prop := Claim7.holds Tryd.pinned (.plain (OpenSpec.ofChange labelSortsSpec)) labelSortsCard

/-- THE TIED CARD OF 'smithylaw11.StrCuts'. -/
def strCutsCard : Claim7 := { stood := { row := strCutsRow, standIns := [], harness := (true, "967cff31476afacfa5af0ce5b9394da1cabd80600fd89ed9e304e437cf4a56ea"), looks := true }, kinds := [], alts := [], laidByText := true, laidKinds := [.data, .sentinel, .sentinel, .pinned], laidTests := true, laidLooks := .later }
def StrCutsCardSaid : Prop := Claim7.holds Tryd.pinned (.plain (OpenSpec.ofChange strCutsSpec)) strCutsCard

/-- THE TIED CARD OF 'smithylaw11.StrWords'. -/
def strWordsCard : Claim7 := { stood := { row := strWordsRow, standIns := [], harness := (true, "967cff31476afacfa5af0ce5b9394da1cabd80600fd89ed9e304e437cf4a56ea"), looks := true }, kinds := [], alts := [], laidByText := true, laidKinds := [.data, .sentinel, .sentinel, .pinned], laidTests := true, laidLooks := .later }
def StrWordsCardSaid : Prop := Claim7.holds Tryd.pinned (.plain (OpenSpec.ofChange strWordsSpec)) strWordsCard

/-- THE TIED CARD OF 'smithylaw11.StrParts'. -/
def strPartsCard : Claim7 := { stood := { row := strPartsRow, standIns := [], harness := (true, "967cff31476afacfa5af0ce5b9394da1cabd80600fd89ed9e304e437cf4a56ea"), looks := true }, kinds := [], alts := [], laidByText := true, laidKinds := [.data, .sentinel, .sentinel, .pinned], laidTests := true, laidLooks := .later }
def StrPartsCardSaid : Prop := Claim7.holds Tryd.pinned (.plain (OpenSpec.ofChange strPartsSpec)) strPartsCard

/-- THE TIED CARD OF 'smithylaw11.StrRooms'. -/
def strRoomsCard : Claim7 := { stood := { row := strRoomsRow, standIns := [], harness := (true, "967cff31476afacfa5af0ce5b9394da1cabd80600fd89ed9e304e437cf4a56ea"), looks := true }, kinds := [], alts := [], laidByText := true, laidKinds := [.data, .sentinel, .sentinel, .sentinel, .sentinel, .sentinel, .sentinel, .sentinel, .sentinel, .sentinel, .sentinel, .sentinel, .sentinel, .sentinel, .sentinel, .sentinel, .sentinel, .sentinel, .pinned], laidTests := true, laidLooks := .later }
def StrRoomsCardSaid : Prop := Claim7.holds Tryd.pinned (.plain (OpenSpec.ofChange strRoomsSpec)) strRoomsCard

/-- THE TIED CARD OF 'smithylaw11.StrSays'. -/
def strSaysCard : Claim7 := { stood := { row := strSaysRow, standIns := [], harness := (true, "967cff31476afacfa5af0ce5b9394da1cabd80600fd89ed9e304e437cf4a56ea"), looks := true }, kinds := [], alts := [], laidByText := true, laidKinds := [.data, .sentinel, .sentinel, .sentinel, .sentinel, .sentinel, .sentinel, .sentinel, .sentinel, .sentinel, .sentinel, .sentinel, .sentinel, .sentinel, .sentinel, .sentinel, .sentinel, .sentinel, .pinned], laidTests := true, laidLooks := .later }
def StrSaysCardSaid : Prop := Claim7.holds Tryd.pinned (.plain (OpenSpec.ofChange strSaysSpec)) strSaysCard

/-- THE SECOND FORM's CARD OF 'smithylaw17.LabelSorts'. -/
def labelSortsUptoCard : Claim7 := { stood := { row := labelSortsUptoRow, standIns := [], harness := (true, "967cff31476afacfa5af0ce5b9394da1cabd80600fd89ed9e304e437cf4a56ea"), looks := true }, kinds := [], alts := [], laidByText := true, laidKinds := [.data, .sentinel, .pinned], laidTests := true, laidLooks := .later }
def LabelSortsUptoCardSaid : Prop := Claim7.holds Tryd.pinned (.plain (OpenSpec.upto labelSortsSpec)) labelSortsUptoCard

/-- THE SECOND FORM's CARD OF 'smithylaw11.StrCuts'. -/
def strCutsUptoCard : Claim7 := { stood := { row := strCutsUptoRow, standIns := [], harness := (true, "967cff31476afacfa5af0ce5b9394da1cabd80600fd89ed9e304e437cf4a56ea"), looks := true }, kinds := [], alts := [], laidByText := true, laidKinds := [.data, .sentinel, .sentinel, .pinned], laidTests := true, laidLooks := .later }
def StrCutsUptoCardSaid : Prop := Claim7.holds Tryd.pinned (.plain (OpenSpec.upto strCutsSpec)) strCutsUptoCard

/-- THE SECOND FORM's CARD OF 'smithylaw11.StrWords'. -/
def strWordsUptoCard : Claim7 := { stood := { row := strWordsUptoRow, standIns := [], harness := (true, "967cff31476afacfa5af0ce5b9394da1cabd80600fd89ed9e304e437cf4a56ea"), looks := true }, kinds := [], alts := [], laidByText := true, laidKinds := [.data, .sentinel, .sentinel, .pinned], laidTests := true, laidLooks := .later }
def StrWordsUptoCardSaid : Prop := Claim7.holds Tryd.pinned (.plain (OpenSpec.upto strWordsSpec)) strWordsUptoCard

/-- THE SECOND FORM's CARD OF 'smithylaw11.StrParts'. -/
def strPartsUptoCard : Claim7 := { stood := { row := strPartsUptoRow, standIns := [], harness := (true, "967cff31476afacfa5af0ce5b9394da1cabd80600fd89ed9e304e437cf4a56ea"), looks := true }, kinds := [], alts := [], laidByText := true, laidKinds := [.data, .sentinel, .sentinel, .pinned], laidTests := true, laidLooks := .later }
def StrPartsUptoCardSaid : Prop := Claim7.holds Tryd.pinned (.plain (OpenSpec.upto strPartsSpec)) strPartsUptoCard

/-- THE SECOND FORM's CARD OF 'smithylaw11.StrRooms'. -/
def strRoomsUptoCard : Claim7 := { stood := { row := strRoomsUptoRow, standIns := [], harness := (true, "967cff31476afacfa5af0ce5b9394da1cabd80600fd89ed9e304e437cf4a56ea"), looks := true }, kinds := [], alts := [], laidByText := true, laidKinds := [.data, .sentinel, .sentinel, .sentinel, .sentinel, .sentinel, .sentinel, .sentinel, .sentinel, .sentinel, .sentinel, .sentinel, .sentinel, .sentinel, .sentinel, .sentinel, .sentinel, .sentinel, .pinned], laidTests := true, laidLooks := .later }
def StrRoomsUptoCardSaid : Prop := Claim7.holds Tryd.pinned (.plain (OpenSpec.upto strRoomsSpec)) strRoomsUptoCard

/-- THE SECOND FORM's CARD OF 'smithylaw11.StrSays'. -/
def strSaysUptoCard : Claim7 := { stood := { row := strSaysUptoRow, standIns := [], harness := (true, "967cff31476afacfa5af0ce5b9394da1cabd80600fd89ed9e304e437cf4a56ea"), looks := true }, kinds := [], alts := [], laidByText := true, laidKinds := [.data, .sentinel, .sentinel, .sentinel, .sentinel, .sentinel, .sentinel, .sentinel, .sentinel, .sentinel, .sentinel, .sentinel, .sentinel, .sentinel, .sentinel, .sentinel, .sentinel, .sentinel, .pinned], laidTests := true, laidLooks := .later }
def StrSaysUptoCardSaid : Prop := Claim7.holds Tryd.pinned (.plain (OpenSpec.upto strSaysSpec)) strSaysUptoCard
end Rows
end Go.Proofs.YtjinkmipkfjblaaDoor
