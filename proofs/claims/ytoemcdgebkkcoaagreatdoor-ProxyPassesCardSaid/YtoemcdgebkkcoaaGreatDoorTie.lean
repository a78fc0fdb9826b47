/-
  DERIVED. GIVEN WITH THE SEED: THE PROGRAM's TIES (one call each: nine closed facts by the kernel) AND EACH ROW's TIE, after the 31st guide's Derived/Test/Toyas{Tie, Card}.lean. No idea stands in it: it is a product of the set-up. Laid BY PROGRAM, IN A SANDBOX (cutbox-door.mjs). By AI agents, Wed Nov 11 2026. No macro, syntax, notation, axiom, sorry.
-/
import Derived.Test.YtoemcdgebkkcoaaGreatDoorRows
import Derived.LaidByTextLater
import Derived.SevenTiedAt
import Derived.LaidSub
import Derived.LaidOnce
namespace Go.Proofs.YtoemcdgebkkcoaaGreatDoor
open Go
set_option maxRecDepth 100000
theorem seatTie1 : Tryz.prog.laidByTextLater [("glazier/order.spans", Rows.laid_glazier_order_spans), ("unicode.White_Space", Rows.laid_unicode_White_Space), ("strings.asciiSpace", Rows.laid_strings_asciiSpace), ("glazier/format.sizes", Rows.laid_glazier_format_sizes)] [.data, .listed, .data, .data] true :=
  Program.laidByTextLater_by_one 49 8 257 (by kernel_rfl) (by kernel_rfl) (by kernel_rfl) (by kernel_rfl) (by kernel_rfl) (by kernel_rfl) (fun _ _ => by kernel_rfl)
theorem noOwnUnsafe : Tryz.pinned.checked.prog.headLifts.contains "ownunsafe" = false := by kernel_rfl
theorem tie : Tryz.prog.laidByTextLater [("glazier/order.spans", Rows.laid_glazier_order_spans), ("unicode.White_Space", Rows.laid_unicode_White_Space), ("strings.asciiSpace", Rows.laid_strings_asciiSpace), ("glazier/format.sizes", Rows.laid_glazier_format_sizes)] [.data, .listed, .data, .data] true :=
  Program.laidByTextLater.sub seatTie1 ["glazier/order.spans", "unicode.White_Space", "strings.asciiSpace", "glazier/format.sizes"] (by kernel_rfl) (by kernel_rfl)
theorem proxyParts_row_tie : Rows.proxyPartsRow.laidByTextAt .later Tryz.pinned [.data, .listed, .data, .data] true :=
  OpenClaim.laidByTextAt_later rfl rfl tie noOwnUnsafe
theorem proxyDies_row_tie : Rows.proxyDiesRow.laidByTextAt .later Tryz.pinned [.data, .listed, .data, .data] true :=
  OpenClaim.laidByTextAt_later rfl rfl tie noOwnUnsafe
theorem proxySends_row_tie : Rows.proxySendsRow.laidByTextAt .later Tryz.pinned [.data, .listed, .data, .data] true :=
  OpenClaim.laidByTextAt_later rfl rfl tie noOwnUnsafe
theorem proxyPasses_row_tie : Rows.proxyPassesRow.laidByTextAt .later Tryz.pinned [.data, .listed, .data, .data] true :=
  OpenClaim.laidByTextAt_later rfl rfl tie noOwnUnsafe
theorem proxyPartsUpto_row_tie : Rows.proxyPartsUptoRow.laidByTextAt .later Tryz.pinned [.data, .listed, .data, .data] true :=
  OpenClaim.laidByTextAt_later rfl rfl tie noOwnUnsafe
theorem proxyDiesUpto_row_tie : Rows.proxyDiesUptoRow.laidByTextAt .later Tryz.pinned [.data, .listed, .data, .data] true :=
  OpenClaim.laidByTextAt_later rfl rfl tie noOwnUnsafe
theorem proxySendsUpto_row_tie : Rows.proxySendsUptoRow.laidByTextAt .later Tryz.pinned [.data, .listed, .data, .data] true :=
  OpenClaim.laidByTextAt_later rfl rfl tie noOwnUnsafe
theorem proxyPassesUpto_row_tie : Rows.proxyPassesUptoRow.laidByTextAt .later Tryz.pinned [.data, .listed, .data, .data] true :=
  OpenClaim.laidByTextAt_later rfl rfl tie noOwnUnsafe
end Go.Proofs.YtoemcdgebkkcoaaGreatDoor
