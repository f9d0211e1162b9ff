/-
  DERIVED. GIVEN WITH THE SEED: THE CARDS: each row of YtlonpmajnglmoaaDoorRows.lean that lists a variable, with what it lists TIED to the program's text (the seventh form; the later family's looks); each row that meets fmt, with fmt's text TOLD by the authors' own Lean function (tested against real Go, not proved from fmt's source: count such statements apart). THE CARD IS WHAT COUNTS. Prove the row's statement (the work); the ties are given (YtlonpmajnglmoaaDoorTie.lean); close each card by the builder's one call (the guide's Derived/Test/ToyasCard.lean, 'card_holds'). Laid BY PROGRAM, IN A SANDBOX (cutbox-door.mjs). By AI agents, Wed Nov 11 2026. No macro, syntax, notation, axiom, sorry.
-/
import Derived.Test.YtlonpmajnglmoaaDoorRows
import GoSem.ClaimSeven
namespace Go.Proofs.YtlonpmajnglmoaaDoor
namespace Rows

/-- THE TIED CARD OF 'smithylaw17.LabelSorts'. -/
def labelSortsCard : Claim7 := { stood := { row := labelSortsRow, standIns := [], harness := (true, "9025bed9c7fc0627f3d8d9040e1e220c0768a673a305addf51463151ffaea098"), looks := true }, kinds := [], alts := [], laidByText := true, laidKinds := [.data, .sentinel, .pinned], laidTests := true, laidLooks := .later }
def LabelSortsCardSaid : Prop := Claim7.holds Tryd.pinned (.plain (OpenSpec.ofChange labelSortsSpec)) labelSortsCard

/-- THE TIED CARD OF 'smithylaw3.DiskArms'. -/
def diskArmsCard : Claim7 := { stood := { row := diskArmsRow, standIns := [], harness := (true, "9025bed9c7fc0627f3d8d9040e1e220c0768a673a305addf51463151ffaea098"), looks := true }, kinds := [], alts := [], laidByText := true, laidKinds := [.data, .sentinel, .sentinel, .sentinel, .sentinel, .sentinel, .sentinel, .sentinel, .sentinel, .sentinel, .sentinel, .sentinel, .sentinel, .sentinel, .sentinel, .sentinel, .sentinel, .sentinel, .pinned], laidTests := true, laidLooks := .later }
def DiskArmsCardSaid : Prop := Claim7.holds Tryd.pinned (.plain (OpenSpec.ofChange diskArmsSpec)) diskArmsCard

/-- THE TIED CARD OF 'smithylaw3.DiskKeeps'. -/
def diskKeepsCard : Claim7 := { stood := { row := diskKeepsRow, standIns := [], harness := (true, "9025bed9c7fc0627f3d8d9040e1e220c0768a673a305addf51463151ffaea098"), looks := true }, kinds := [], alts := [], laidByText := true, laidKinds := [.data, .sentinel, .sentinel, .sentinel, .sentinel, .sentinel, .sentinel, .sentinel, .sentinel, .sentinel, .sentinel, .sentinel, .sentinel, .sentinel, .sentinel, .sentinel, .sentinel, .sentinel, .pinned], laidTests := true, laidLooks := .later }
def DiskKeepsCardSaid : Prop := Claim7.holds Tryd.pinned (.plain (OpenSpec.ofChange diskKeepsSpec)) diskKeepsCard

/-- THE TIED CARD OF 'smithylaw3.DiskFiles'. -/
def diskFilesCard : Claim7 := { stood := { row := diskFilesRow, standIns := [], harness := (true, "9025bed9c7fc0627f3d8d9040e1e220c0768a673a305addf51463151ffaea098"), looks := true }, kinds := [], alts := [], laidByText := true, laidKinds := [.data, .sentinel, .sentinel, .sentinel, .sentinel, .sentinel, .sentinel, .sentinel, .sentinel, .sentinel, .sentinel, .sentinel, .sentinel, .sentinel, .sentinel, .sentinel, .sentinel, .sentinel, .pinned], laidTests := true, laidLooks := .later }
def DiskFilesCardSaid : Prop := Claim7.holds Tryd.pinned (.plain (OpenSpec.ofChange diskFilesSpec)) diskFilesCard

/-- THE TIED CARD OF 'smithylaw25.CacheReads'. -/
def cacheReadsCard : Claim7 := { stood := { row := cacheReadsRow, standIns := [], harness := (true, "9025bed9c7fc0627f3d8d9040e1e220c0768a673a305addf51463151ffaea098"), looks := true }, kinds := [], alts := [], laidByText := true, laidKinds := [.data, .sentinel, .sentinel, .sentinel, .sentinel, .pinned], laidTests := true, laidLooks := .later }
def CacheReadsCardSaid : Prop := Claim7.holds Tryd.pinned (.plain (OpenSpec.ofChange cacheReadsSpec)) cacheReadsCard

/-- THE TIED CARD OF 'smithylaw25.CacheLast'. -/
def cacheLastCard : Claim7 := { stood := { row := cacheLastRow, standIns := [], harness := (true, "9025bed9c7fc0627f3d8d9040e1e220c0768a673a305addf51463151ffaea098"), looks := true }, kinds := [], alts := [], laidByText := true, laidKinds := [.data, .sentinel, .sentinel, .sentinel, .sentinel, .pinned], laidTests := true, laidLooks := .later }
def CacheLastCardSaid : Prop := Claim7.holds Tryd.pinned (.plain (OpenSpec.ofChange cacheLastSpec)) cacheLastCard

/-- THE TIED CARD OF 'smithylaw25.CacheFalls'. -/
def cacheFallsCard : Claim7 := { stood := { row := cacheFallsRow, standIns := [], harness := (true, "9025bed9c7fc0627f3d8d9040e1e220c0768a673a305addf51463151ffaea098"), looks := true }, kinds := [], alts := [], laidByText := true, laidKinds := [.data, .sentinel, .sentinel, .sentinel, .sentinel, .pinned], laidTests := true, laidLooks := .later }
def CacheFallsCardSaid : Prop := Claim7.holds Tryd.pinned (.plain (OpenSpec.ofChange cacheFallsSpec)) cacheFallsCard

/-- THE TIED CARD OF 'smithylaw22.GraphRings'. -/
def graphRingsCard : Claim7 := { stood := { row := graphRingsRow, standIns := [], harness := (true, "9025bed9c7fc0627f3d8d9040e1e220c0768a673a305addf51463151ffaea098"), looks := true }, kinds := [], alts := [], laidByText := true, laidKinds := [.data, .sentinel, .sentinel, .sentinel, .sentinel, .sentinel, .sentinel, .sentinel, .sentinel, .sentinel, .sentinel, .sentinel, .sentinel, .sentinel, .sentinel, .sentinel, .sentinel, .sentinel, .pinned], laidTests := true, laidLooks := .later }
def GraphRingsCardSaid : Prop := Claim7.holds Tryd.pinned (.plain (OpenSpec.ofChange graphRingsSpec)) graphRingsCard

/-- THE SECOND FORM's CARD OF 'smithylaw17.LabelSorts'. -/
def labelSortsUptoCard : Claim7 := { stood := { row := labelSortsUptoRow, standIns := [], harness := (true, "9025bed9c7fc0627f3d8d9040e1e220c0768a673a305addf51463151ffaea098"), looks := true }, kinds := [], alts := [], laidByText := true, laidKinds := [.data, .sentinel, .pinned], laidTests := true, laidLooks := .later }
def LabelSortsUptoCardSaid : Prop := Claim7.holds Tryd.pinned (.plain (OpenSpec.upto labelSortsSpec)) labelSortsUptoCard

/-- THE SECOND FORM's CARD OF 'smithylaw3.DiskArms'. -/
def diskArmsUptoCard : Claim7 := { stood := { row := diskArmsUptoRow, standIns := [], harness := (true, "9025bed9c7fc0627f3d8d9040e1e220c0768a673a305addf51463151ffaea098"), looks := true }, kinds := [], alts := [], laidByText := true, laidKinds := [.data, .sentinel, .sentinel, .sentinel, .sentinel, .sentinel, .sentinel, .sentinel, .sentinel, .sentinel, .sentinel, .sentinel, .sentinel, .sentinel, .sentinel, .sentinel, .sentinel, .sentinel, .pinned], laidTests := true, laidLooks := .later }
def DiskArmsUptoCardSaid : Prop := Claim7.holds Tryd.pinned (.plain (OpenSpec.upto diskArmsSpec)) diskArmsUptoCard

/-- THE SECOND FORM's CARD OF 'smithylaw3.DiskKeeps'. -/
def diskKeepsUptoCard : Claim7 := { stood := { row := diskKeepsUptoRow, standIns := [], harness := (true, "9025bed9c7fc0627f3d8d9040e1e220c0768a673a305addf51463151ffaea098"), looks := true }, kinds := [], alts := [], laidByText := true, laidKinds := [.data, .sentinel, .sentinel, .sentinel, .sentinel, .sentinel, .sentinel, .sentinel, .sentinel, .sentinel, .sentinel, .sentinel, .sentinel, .sentinel, .sentinel, .sentinel, .sentinel, .sentinel, .pinned], laidTests := true, laidLooks := .later }
def DiskKeepsUptoCardSaid : Prop := Claim7.holds Tryd.pinned (.plain (OpenSpec.upto diskKeepsSpec)) diskKeepsUptoCard

/-- THE SECOND FORM's CARD OF 'smithylaw3.DiskFiles'. -/
def diskFilesUptoCard : Claim7 := { stood := { row := diskFilesUptoRow, standIns := [], harness := (true, "9025bed9c7fc0627f3d8d9040e1e220c0768a673a305addf51463151ffaea098"), looks := true }, kinds := [], alts := [], laidByText := true, laidKinds := [.data, .sentinel, .sentinel, .sentinel, .sentinel, .sentinel, .sentinel, .sentinel, .sentinel, .sentinel, .sentinel, .sentinel, .sentinel, .sentinel, .sentinel, .sentinel, .sentinel, .sentinel, .pinned], laidTests := true, laidLooks := .later }
def DiskFilesUptoCardSaid : Prop := Claim7.holds Tryd.pinned (.plain (OpenSpec.upto diskFilesSpec)) diskFilesUptoCard

/-- THE SECOND FORM's CARD OF 'smithylaw25.CacheReads'. -/
def cacheReadsUptoCard : Claim7 := { stood := { row := cacheReadsUptoRow, standIns := [], harness := (true, "9025bed9c7fc0627f3d8d9040e1e220c0768a673a305addf51463151ffaea098"), looks := true }, kinds := [], alts := [], laidByText := true, laidKinds := [.data, .sentinel, .sentinel, .sentinel, .sentinel, .pinned], laidTests := true, laidLooks := .later }
def CacheReadsUptoCardSaid : Prop := Claim7.holds Tryd.pinned (.plain (OpenSpec.upto cacheReadsSpec)) cacheReadsUptoCard

/-- THE SECOND FORM's CARD OF 'smithylaw25.CacheLast'. -/
def cacheLastUptoCard : Claim7 := { stood := { row := cacheLastUptoRow, standIns := [], harness := (true, "9025bed9c7fc0627f3d8d9040e1e220c0768a673a305addf51463151ffaea098"), looks := true }, kinds := [], alts := [], laidByText := true, laidKinds := [.data, .sentinel, .sentinel, .sentinel, .sentinel, .pinned], laidTests := true, laidLooks := .later }
def CacheLastUptoCardSaid : Prop := Claim7.holds Tryd.pinned (.plain (OpenSpec.upto cacheLastSpec)) cacheLastUptoCard

/-- THE SECOND FORM's CARD OF 'smithylaw25.CacheFalls'. -/
def cacheFallsUptoCard : Claim7 := { stood := { row := cacheFallsUptoRow, standIns := [], harness := (true, "9025bed9c7fc0627f3d8d9040e1e220c0768a673a305addf51463151ffaea098"), looks := true }, kinds := [], alts := [], laidByText := true, laidKinds := [.data, .sentinel, .sentinel, .sentinel, .sentinel, .pinned], laidTests := true, laidLooks := .later }
def CacheFallsUptoCardSaid : Prop := Claim7.holds Tryd.pinned (.plain (OpenSpec.upto cacheFallsSpec)) cacheFallsUptoCard

/-- THE SECOND FORM's CARD OF 'smithylaw22.GraphRings'. -/
def graphRingsUptoCard : Claim7 := { stood := { row := graphRingsUptoRow, standIns := [], harness := (true, "9025bed9c7fc0627f3d8d9040e1e220c0768a673a305addf51463151ffaea098"), looks := true }, kinds := [], alts := [], laidByText := true, laidKinds := [.data, .sentinel, .sentinel, .sentinel, .sentinel, .sentinel, .sentinel, .sentinel, .sentinel, .sentinel, .sentinel, .sentinel, .sentinel, .sentinel, .sentinel, .sentinel, .sentinel, .sentinel, .pinned], laidTests := true, laidLooks := .later }
def GraphRingsUptoCardSaid : Prop := Claim7.holds Tryd.pinned (.plain (OpenSpec.upto graphRingsSpec)) graphRingsUptoCard
end Rows
end Go.Proofs.YtlonpmajnglmoaaDoor
