/-
  DERIVED. GIVEN WITH THE SEED: THE PROGRAM's TIES (one call each: nine closed facts by the kernel) AND EACH ROW's TIE, after the 31st guide's Derived/Test/Toyas{Tie, Card}.lean. No idea stands in it: it is a product of the set-up. Laid BY PROGRAM, IN A SANDBOX (cutbox-door.mjs). By AI agents, Wed Nov 11 2026. No macro, syntax, notation, axiom, sorry.
-/
import Derived.Test.YtafpeckmdjplnaaGreatDoorRows
import Derived.LaidByTextLater
import Derived.SevenTiedAt
import Derived.LaidSub
import Derived.LaidOnce
namespace Go.Proofs.YtafpeckmdjplnaaGreatDoor
open Go
set_option maxRecDepth 100000
theorem seatTie1 : Tryz.prog.laidByTextLater [("unicode/utf8.acceptRanges", Rows.laid_unicode_utf8_acceptRanges), ("smithy/api.ErrLex", Rows.laid_smithy_api_ErrLex), ("smithy/api.ErrParse", Rows.laid_smithy_api_ErrParse), ("smithy/api.ErrResolve", Rows.laid_smithy_api_ErrResolve), ("smithy/api.ErrDynamic", Rows.laid_smithy_api_ErrDynamic), ("smithy/api.ErrCycle", Rows.laid_smithy_api_ErrCycle), ("smithy/api.ErrVisibility", Rows.laid_smithy_api_ErrVisibility), ("smithy/api.ErrAnalysis", Rows.laid_smithy_api_ErrAnalysis), ("smithy/api.ErrLimit", Rows.laid_smithy_api_ErrLimit), ("smithy/api.ErrMissing", Rows.laid_smithy_api_ErrMissing), ("smithy/api.ErrMany", Rows.laid_smithy_api_ErrMany), ("smithy/api.ErrKind", Rows.laid_smithy_api_ErrKind), ("smithy/api.ErrPath", Rows.laid_smithy_api_ErrPath), ("smithy/api.ErrShape", Rows.laid_smithy_api_ErrShape), ("smithy/api.ErrEnd", Rows.laid_smithy_api_ErrEnd), ("smithy/api.ErrRange", Rows.laid_smithy_api_ErrRange), ("smithy/api.ErrDown", Rows.laid_smithy_api_ErrDown), ("smithy/api.ErrFail", Rows.laid_smithy_api_ErrFail)] [.data, .sentinel, .sentinel, .sentinel, .sentinel, .sentinel, .sentinel, .sentinel, .sentinel, .sentinel, .sentinel, .sentinel, .sentinel, .sentinel, .sentinel, .sentinel, .sentinel, .sentinel] true :=
  Program.laidByTextLater_by_one 342 8 33 (by kernel_rfl) (by kernel_rfl) (by kernel_rfl) (by kernel_rfl) (by kernel_rfl) (by kernel_rfl) (fun _ _ => by kernel_rfl)
theorem pin_laid_unicode_utf8_first : Tryz.pinned.checked.prog.pinnedFits "unicode/utf8.first" = true := by kernel_rfl
theorem noOwnUnsafe : Tryz.pinned.checked.prog.headLifts.contains "ownunsafe" = false := by kernel_rfl
theorem fits1 : Tryz.pinned.checked.prog.listedFits [("unicode/utf8.acceptRanges", Rows.laid_unicode_utf8_acceptRanges), ("smithy/api.ErrLex", Rows.laid_smithy_api_ErrLex), ("smithy/api.ErrParse", Rows.laid_smithy_api_ErrParse), ("smithy/api.ErrResolve", Rows.laid_smithy_api_ErrResolve), ("smithy/api.ErrDynamic", Rows.laid_smithy_api_ErrDynamic), ("smithy/api.ErrCycle", Rows.laid_smithy_api_ErrCycle), ("smithy/api.ErrVisibility", Rows.laid_smithy_api_ErrVisibility), ("smithy/api.ErrAnalysis", Rows.laid_smithy_api_ErrAnalysis), ("smithy/api.ErrLimit", Rows.laid_smithy_api_ErrLimit), ("smithy/api.ErrMissing", Rows.laid_smithy_api_ErrMissing), ("smithy/api.ErrMany", Rows.laid_smithy_api_ErrMany), ("smithy/api.ErrKind", Rows.laid_smithy_api_ErrKind), ("smithy/api.ErrPath", Rows.laid_smithy_api_ErrPath), ("smithy/api.ErrShape", Rows.laid_smithy_api_ErrShape), ("smithy/api.ErrEnd", Rows.laid_smithy_api_ErrEnd), ("smithy/api.ErrRange", Rows.laid_smithy_api_ErrRange), ("smithy/api.ErrDown", Rows.laid_smithy_api_ErrDown), ("smithy/api.ErrFail", Rows.laid_smithy_api_ErrFail), ("unicode/utf8.first", Rows.laid_unicode_utf8_first)] = true := by
  unfold Program.listedFits
  rw [noOwnUnsafe]
  kernel_rfl
theorem tie : Tryz.prog.laidByTextLater [("unicode/utf8.acceptRanges", Rows.laid_unicode_utf8_acceptRanges), ("smithy/api.ErrLex", Rows.laid_smithy_api_ErrLex), ("smithy/api.ErrParse", Rows.laid_smithy_api_ErrParse), ("smithy/api.ErrResolve", Rows.laid_smithy_api_ErrResolve), ("smithy/api.ErrDynamic", Rows.laid_smithy_api_ErrDynamic), ("smithy/api.ErrCycle", Rows.laid_smithy_api_ErrCycle), ("smithy/api.ErrVisibility", Rows.laid_smithy_api_ErrVisibility), ("smithy/api.ErrAnalysis", Rows.laid_smithy_api_ErrAnalysis), ("smithy/api.ErrLimit", Rows.laid_smithy_api_ErrLimit), ("smithy/api.ErrMissing", Rows.laid_smithy_api_ErrMissing), ("smithy/api.ErrMany", Rows.laid_smithy_api_ErrMany), ("smithy/api.ErrKind", Rows.laid_smithy_api_ErrKind), ("smithy/api.ErrPath", Rows.laid_smithy_api_ErrPath), ("smithy/api.ErrShape", Rows.laid_smithy_api_ErrShape), ("smithy/api.ErrEnd", Rows.laid_smithy_api_ErrEnd), ("smithy/api.ErrRange", Rows.laid_smithy_api_ErrRange), ("smithy/api.ErrDown", Rows.laid_smithy_api_ErrDown), ("smithy/api.ErrFail", Rows.laid_smithy_api_ErrFail)] [.data, .sentinel, .sentinel, .sentinel, .sentinel, .sentinel, .sentinel, .sentinel, .sentinel, .sentinel, .sentinel, .sentinel, .sentinel, .sentinel, .sentinel, .sentinel, .sentinel, .sentinel] true :=
  Program.laidByTextLater.sub seatTie1 ["unicode/utf8.acceptRanges", "smithy/api.ErrLex", "smithy/api.ErrParse", "smithy/api.ErrResolve", "smithy/api.ErrDynamic", "smithy/api.ErrCycle", "smithy/api.ErrVisibility", "smithy/api.ErrAnalysis", "smithy/api.ErrLimit", "smithy/api.ErrMissing", "smithy/api.ErrMany", "smithy/api.ErrKind", "smithy/api.ErrPath", "smithy/api.ErrShape", "smithy/api.ErrEnd", "smithy/api.ErrRange", "smithy/api.ErrDown", "smithy/api.ErrFail"] (by kernel_rfl) (by kernel_rfl)
theorem cachePlays_row_tie : Rows.cachePlaysRow.laidByTextAt .later Tryz.pinned [.data, .sentinel, .sentinel, .sentinel, .sentinel, .sentinel, .sentinel, .sentinel, .sentinel, .sentinel, .sentinel, .sentinel, .sentinel, .sentinel, .sentinel, .sentinel, .sentinel, .sentinel, .pinned] true :=
  OpenClaim.laidByTextAt_pinned rfl rfl tie rfl rfl rfl rfl (fun y hy _e => by
    simp only [Rows.cachePlaysRow, List.zip_cons_cons, List.zip_nil_right, List.mem_cons, List.mem_nil_iff, or_false] at hy
    rcases hy with rfl | rfl | rfl | rfl | rfl | rfl | rfl | rfl | rfl | rfl | rfl | rfl | rfl | rfl | rfl | rfl | rfl | rfl | rfl
    · cases _e
    · cases _e
    · cases _e
    · cases _e
    · cases _e
    · cases _e
    · cases _e
    · cases _e
    · cases _e
    · cases _e
    · cases _e
    · cases _e
    · cases _e
    · cases _e
    · cases _e
    · cases _e
    · cases _e
    · cases _e
    · exact ⟨pin_laid_unicode_utf8_first, by kernel_rfl⟩) fits1
theorem cachePlaysUpto_row_tie : Rows.cachePlaysUptoRow.laidByTextAt .later Tryz.pinned [.data, .sentinel, .sentinel, .sentinel, .sentinel, .sentinel, .sentinel, .sentinel, .sentinel, .sentinel, .sentinel, .sentinel, .sentinel, .sentinel, .sentinel, .sentinel, .sentinel, .sentinel, .pinned] true :=
  OpenClaim.laidByTextAt_pinned rfl rfl tie rfl rfl rfl rfl (fun y hy _e => by
    simp only [Rows.cachePlaysUptoRow, List.zip_cons_cons, List.zip_nil_right, List.mem_cons, List.mem_nil_iff, or_false] at hy
    rcases hy with rfl | rfl | rfl | rfl | rfl | rfl | rfl | rfl | rfl | rfl | rfl | rfl | rfl | rfl | rfl | rfl | rfl | rfl | rfl
    · cases _e
    · cases _e
    · cases _e
    · cases _e
    · cases _e
    · cases _e
    · cases _e
    · cases _e
    · cases _e
    · cases _e
    · cases _e
    · cases _e
    · cases _e
    · cases _e
    · cases _e
    · cases _e
    · cases _e
    · cases _e
    · exact ⟨pin_laid_unicode_utf8_first, by kernel_rfl⟩) fits1
end Go.Proofs.YtafpeckmdjplnaaGreatDoor
