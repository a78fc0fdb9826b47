/-
  DERIVED. GIVEN WITH THE SEED: THE PROGRAM's TIES (one call each: nine closed facts by the kernel) AND EACH ROW's TIE, after the 31st guide's Derived/Test/Toyas{Tie, Card}.lean. No idea stands in it: it is a product of the set-up. Laid BY PROGRAM, IN A SANDBOX (cutbox-door.mjs). By AI agents, Wed Nov 11 2026. No macro, syntax, notation, axiom, sorry.
-/
import Derived.Test.YtbpjoeopnaggoaaDoorRows
import Derived.LaidByTextLater
import Derived.SevenTiedAt
import Derived.LaidSub
import Derived.LaidOnce
namespace Go.Proofs.YtbpjoeopnaggoaaDoor
open Go
set_option maxRecDepth 100000
theorem seatTie1 : Tryd.prog.laidByTextLater [("glazier/order.spans", Rows.laid_glazier_order_spans), ("unicode.White_Space", Rows.laid_unicode_White_Space), ("strings.asciiSpace", Rows.laid_strings_asciiSpace), ("glazier/format.sizes", Rows.laid_glazier_format_sizes)] [.data, .listed, .data, .data] true :=
  Program.laidByTextLater_by_one 49 8 257 (by kernel_rfl) (by kernel_rfl) (by kernel_rfl) (by kernel_rfl) (by kernel_rfl) (by kernel_rfl) (fun _ _ => by kernel_rfl)
theorem noOwnUnsafe : Tryd.pinned.checked.prog.headLifts.contains "ownunsafe" = false := by kernel_rfl
theorem tie : Tryd.prog.laidByTextLater [("glazier/order.spans", Rows.laid_glazier_order_spans), ("unicode.White_Space", Rows.laid_unicode_White_Space), ("strings.asciiSpace", Rows.laid_strings_asciiSpace), ("glazier/format.sizes", Rows.laid_glazier_format_sizes)] [.data, .listed, .data, .data] true :=
  Program.laidByTextLater.sub seatTie1 ["glazier/order.spans", "unicode.White_Space", "strings.asciiSpace", "glazier/format.sizes"] (by kernel_rfl) (by kernel_rfl)
theorem stubWide_row_tie : Rows.stubWideRow.laidByTextAt .later Tryd.pinned [.data, .listed, .data, .data] true :=
  OpenClaim.laidByTextAt_later rfl rfl tie noOwnUnsafe
theorem stubAsks_row_tie : Rows.stubAsksRow.laidByTextAt .later Tryd.pinned [.data, .listed, .data, .data] true :=
  OpenClaim.laidByTextAt_later rfl rfl tie noOwnUnsafe
theorem stubFresh_row_tie : Rows.stubFreshRow.laidByTextAt .later Tryd.pinned [.data, .listed, .data, .data] true :=
  OpenClaim.laidByTextAt_later rfl rfl tie noOwnUnsafe
theorem stubZero_row_tie : Rows.stubZeroRow.laidByTextAt .later Tryd.pinned [.data, .listed, .data, .data] true :=
  OpenClaim.laidByTextAt_later rfl rfl tie noOwnUnsafe
theorem stubParts_row_tie : Rows.stubPartsRow.laidByTextAt .later Tryd.pinned [.data, .listed, .data, .data] true :=
  OpenClaim.laidByTextAt_later rfl rfl tie noOwnUnsafe
theorem stubGets_row_tie : Rows.stubGetsRow.laidByTextAt .later Tryd.pinned [.data, .listed, .data, .data] true :=
  OpenClaim.laidByTextAt_later rfl rfl tie noOwnUnsafe
theorem topWaits_row_tie : Rows.topWaitsRow.laidByTextAt .later Tryd.pinned [.data, .listed, .data, .data] true :=
  OpenClaim.laidByTextAt_later rfl rfl tie noOwnUnsafe
theorem topBack_row_tie : Rows.topBackRow.laidByTextAt .later Tryd.pinned [.data, .listed, .data, .data] true :=
  OpenClaim.laidByTextAt_later rfl rfl tie noOwnUnsafe
theorem stubWideUpto_row_tie : Rows.stubWideUptoRow.laidByTextAt .later Tryd.pinned [.data, .listed, .data, .data] true :=
  OpenClaim.laidByTextAt_later rfl rfl tie noOwnUnsafe
theorem stubAsksUpto_row_tie : Rows.stubAsksUptoRow.laidByTextAt .later Tryd.pinned [.data, .listed, .data, .data] true :=
  OpenClaim.laidByTextAt_later rfl rfl tie noOwnUnsafe
theorem stubFreshUpto_row_tie : Rows.stubFreshUptoRow.laidByTextAt .later Tryd.pinned [.data, .listed, .data, .data] true :=
  OpenClaim.laidByTextAt_later rfl rfl tie noOwnUnsafe
theorem stubZeroUpto_row_tie : Rows.stubZeroUptoRow.laidByTextAt .later Tryd.pinned [.data, .listed, .data, .data] true :=
  OpenClaim.laidByTextAt_later rfl rfl tie noOwnUnsafe
theorem stubPartsUpto_row_tie : Rows.stubPartsUptoRow.laidByTextAt .later Tryd.pinned [.data, .listed, .data, .data] true :=
  OpenClaim.laidByTextAt_later rfl rfl tie noOwnUnsafe
theorem stubGetsUpto_row_tie : Rows.stubGetsUptoRow.laidByTextAt .later Tryd.pinned [.data, .listed, .data, .data] true :=
  OpenClaim.laidByTextAt_later rfl rfl tie noOwnUnsafe
theorem topWaitsUpto_row_tie : Rows.topWaitsUptoRow.laidByTextAt .later Tryd.pinned [.data, .listed, .data, .data] true :=
  OpenClaim.laidByTextAt_later rfl rfl tie noOwnUnsafe
theorem topBackUpto_row_tie : Rows.topBackUptoRow.laidByTextAt .later Tryd.pinned [.data, .listed, .data, .data] true :=
  OpenClaim.laidByTextAt_later rfl rfl tie noOwnUnsafe
end Go.Proofs.YtbpjoeopnaggoaaDoor
