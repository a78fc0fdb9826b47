/-
  DERIVED. GIVEN WITH THE SEED: THE PROGRAM's TIES (one call each: nine closed facts by the kernel) AND EACH ROW's TIE, after the 31st guide's Derived/Test/Toyas{Tie, Card}.lean. No idea stands in it: it is a product of the set-up. Laid BY PROGRAM, IN A SANDBOX (cutbox-door.mjs). By AI agents, Wed Nov 11 2026. No macro, syntax, notation, axiom, sorry.
-/
import Derived.Test.YtafleenajffpkaaDoorRows
import Derived.LaidByTextLater
import Derived.SevenTiedAt
import Derived.LaidSub
import Derived.LaidOnce
namespace Go.Proofs.YtafleenajffpkaaDoor
open Go
set_option maxRecDepth 100000
theorem seatTie1 : Tryd.prog.laidByTextLater [("glazier/order.spans", Rows.laid_glazier_order_spans), ("unicode.White_Space", Rows.laid_unicode_White_Space), ("strings.asciiSpace", Rows.laid_strings_asciiSpace), ("glazier/format.sizes", Rows.laid_glazier_format_sizes)] [.data, .listed, .data, .data] true :=
  Program.laidByTextLater_by_one 49 8 257 (by kernel_rfl) (by kernel_rfl) (by kernel_rfl) (by kernel_rfl) (by kernel_rfl) (by kernel_rfl) (fun _ _ => by kernel_rfl)
theorem noOwnUnsafe : Tryd.pinned.checked.prog.headLifts.contains "ownunsafe" = false := by kernel_rfl
theorem tie : Tryd.prog.laidByTextLater [("glazier/order.spans", Rows.laid_glazier_order_spans), ("unicode.White_Space", Rows.laid_unicode_White_Space), ("strings.asciiSpace", Rows.laid_strings_asciiSpace), ("glazier/format.sizes", Rows.laid_glazier_format_sizes)] [.data, .listed, .data, .data] true :=
  Program.laidByTextLater.sub seatTie1 ["glazier/order.spans", "unicode.White_Space", "strings.asciiSpace", "glazier/format.sizes"] (by kernel_rfl) (by kernel_rfl)
theorem tellGets_row_tie : Rows.tellGetsRow.laidByTextAt .later Tryd.pinned [.data, .listed, .data, .data] true :=
  OpenClaim.laidByTextAt_later rfl rfl tie noOwnUnsafe
theorem tellBack_row_tie : Rows.tellBackRow.laidByTextAt .later Tryd.pinned [.data, .listed, .data, .data] true :=
  OpenClaim.laidByTextAt_later rfl rfl tie noOwnUnsafe
theorem tellChains_row_tie : Rows.tellChainsRow.laidByTextAt .later Tryd.pinned [.data, .listed, .data, .data] true :=
  OpenClaim.laidByTextAt_later rfl rfl tie noOwnUnsafe
theorem tellCuts_row_tie : Rows.tellCutsRow.laidByTextAt .later Tryd.pinned [.data, .listed, .data, .data] true :=
  OpenClaim.laidByTextAt_later rfl rfl tie noOwnUnsafe
theorem tellNumbers_row_tie : Rows.tellNumbersRow.laidByTextAt .later Tryd.pinned [.data, .listed, .data, .data] true :=
  OpenClaim.laidByTextAt_later rfl rfl tie noOwnUnsafe
theorem tellPuts_row_tie : Rows.tellPutsRow.laidByTextAt .later Tryd.pinned [.data, .listed, .data, .data] true :=
  OpenClaim.laidByTextAt_later rfl rfl tie noOwnUnsafe
theorem tellSame_row_tie : Rows.tellSameRow.laidByTextAt .later Tryd.pinned [.data, .listed, .data, .data] true :=
  OpenClaim.laidByTextAt_later rfl rfl tie noOwnUnsafe
theorem tellGetsUpto_row_tie : Rows.tellGetsUptoRow.laidByTextAt .later Tryd.pinned [.data, .listed, .data, .data] true :=
  OpenClaim.laidByTextAt_later rfl rfl tie noOwnUnsafe
theorem tellBackUpto_row_tie : Rows.tellBackUptoRow.laidByTextAt .later Tryd.pinned [.data, .listed, .data, .data] true :=
  OpenClaim.laidByTextAt_later rfl rfl tie noOwnUnsafe
theorem tellChainsUpto_row_tie : Rows.tellChainsUptoRow.laidByTextAt .later Tryd.pinned [.data, .listed, .data, .data] true :=
  OpenClaim.laidByTextAt_later rfl rfl tie noOwnUnsafe
theorem tellCutsUpto_row_tie : Rows.tellCutsUptoRow.laidByTextAt .later Tryd.pinned [.data, .listed, .data, .data] true :=
  OpenClaim.laidByTextAt_later rfl rfl tie noOwnUnsafe
theorem tellNumbersUpto_row_tie : Rows.tellNumbersUptoRow.laidByTextAt .later Tryd.pinned [.data, .listed, .data, .data] true :=
  OpenClaim.laidByTextAt_later rfl rfl tie noOwnUnsafe
theorem tellPutsUpto_row_tie : Rows.tellPutsUptoRow.laidByTextAt .later Tryd.pinned [.data, .listed, .data, .data] true :=
  OpenClaim.laidByTextAt_later rfl rfl tie noOwnUnsafe
theorem tellSameUpto_row_tie : Rows.tellSameUptoRow.laidByTextAt .later Tryd.pinned [.data, .listed, .data, .data] true :=
  OpenClaim.laidByTextAt_later rfl rfl tie noOwnUnsafe
end Go.Proofs.YtafleenajffpkaaDoor
