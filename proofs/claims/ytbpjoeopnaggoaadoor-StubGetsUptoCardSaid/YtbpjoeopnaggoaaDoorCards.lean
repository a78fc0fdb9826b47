/-
  DERIVED. GIVEN WITH THE SEED: THE CARDS: each row of YtbpjoeopnaggoaaDoorRows.lean that lists a variable, with what it lists TIED to the program's text (the seventh form; the later family's looks); each row that meets fmt, with fmt's text TOLD by the authors' own Lean function (tested against real Go, not proved from fmt's source: count such statements apart). THE CARD IS WHAT COUNTS. Prove the row's statement (the work); the ties are given (YtbpjoeopnaggoaaDoorTie.lean); close each card by the builder's one call (the guide's Derived/Test/ToyasCard.lean, 'card_holds'). Laid BY PROGRAM, IN A SANDBOX (cutbox-door.mjs). By AI agents, Wed Nov 11 2026. No macro, syntax, notation, axiom, sorry.
-/
import Derived.Test.YtbpjoeopnaggoaaDoorRows
import GoSem.ClaimSeven
namespace Go.Proofs.YtbpjoeopnaggoaaDoor
namespace Rows

/-- THE TIED CARD OF 'glazierlaw08.StubWide'. -/
def stubWideCard : Claim7 := { stood := { row := stubWideRow, standIns := [], harness := (true, "b0f27f898b90f5db0f99a5da3175e688fc5bb262d7fa9e96bfb0d38f8489e16c"), looks := true }, kinds := [], alts := [], laidByText := true, laidKinds := [.data, .listed, .data, .data], laidTests := true, laidLooks := .later }
def StubWideCardSaid : Prop := Claim7.holds Tryd.pinned (.plain (OpenSpec.ofChange stubWideSpec)) stubWideCard

/-- THE TIED CARD OF 'glazierlaw08.StubAsks'. -/
def stubAsksCard : Claim7 := { stood := { row := stubAsksRow, standIns := [], harness := (true, "b0f27f898b90f5db0f99a5da3175e688fc5bb262d7fa9e96bfb0d38f8489e16c"), looks := true }, kinds := [], alts := [], laidByText := true, laidKinds := [.data, .listed, .data, .data], laidTests := true, laidLooks := .later }
def StubAsksCardSaid : Prop := Claim7.holds Tryd.pinned (.plain (OpenSpec.ofChange stubAsksSpec)) stubAsksCard

/-- THE TIED CARD OF 'glazierlaw08.StubFresh'. -/
def stubFreshCard : Claim7 := { stood := { row := stubFreshRow, standIns := [], harness := (true, "b0f27f898b90f5db0f99a5da3175e688fc5bb262d7fa9e96bfb0d38f8489e16c"), looks := true }, kinds := [], alts := [], laidByText := true, laidKinds := [.data, .listed, .data, .data], laidTests := true, laidLooks := .later }
def StubFreshCardSaid : Prop := Claim7.holds Tryd.pinned (.plain (OpenSpec.ofChange stubFreshSpec)) stubFreshCard

/-- THE TIED CARD OF 'glazierlaw08.StubZero'. -/
def stubZeroCard : Claim7 := { stood := { row := stubZeroRow, standIns := [], harness := (true, "b0f27f898b90f5db0f99a5da3175e688fc5bb262d7fa9e96bfb0d38f8489e16c"), looks := true }, kinds := [], alts := [], laidByText := true, laidKinds := [.data, .listed, .data, .data], laidTests := true, laidLooks := .later }
def StubZeroCardSaid : Prop := Claim7.holds Tryd.pinned (.plain (OpenSpec.ofChange stubZeroSpec)) stubZeroCard

/-- THE TIED CARD OF 'glazierlaw08.StubParts'. -/
def stubPartsCard : Claim7 := { stood := { row := stubPartsRow, standIns := [], harness := (true, "b0f27f898b90f5db0f99a5da3175e688fc5bb262d7fa9e96bfb0d38f8489e16c"), looks := true }, kinds := [], alts := [], laidByText := true, laidKinds := [.data, .listed, .data, .data], laidTests := true, laidLooks := .later }
def StubPartsCardSaid : Prop := Claim7.holds Tryd.pinned (.plain (OpenSpec.ofChange stubPartsSpec)) stubPartsCard

/-- THE TIED CARD OF 'glazierlaw08.StubGets'. -/
def stubGetsCard : Claim7 := { stood := { row := stubGetsRow, standIns := [], harness := (true, "b0f27f898b90f5db0f99a5da3175e688fc5bb262d7fa9e96bfb0d38f8489e16c"), looks := true }, kinds := [], alts := [], laidByText := true, laidKinds := [.data, .listed, .data, .data], laidTests := true, laidLooks := .later }
def StubGetsCardSaid : Prop := Claim7.holds Tryd.pinned (.plain (OpenSpec.ofChange stubGetsSpec)) stubGetsCard

/-- THE TIED CARD OF 'glaziertop.TopWaits'. -/
def topWaitsCard : Claim7 := { stood := { row := topWaitsRow, standIns := [], harness := (true, "b0f27f898b90f5db0f99a5da3175e688fc5bb262d7fa9e96bfb0d38f8489e16c"), looks := true }, kinds := [], alts := [], laidByText := true, laidKinds := [.data, .listed, .data, .data], laidTests := true, laidLooks := .later }
def TopWaitsCardSaid : Prop := Claim7.holds Tryd.pinned (.plain (OpenSpec.ofChange topWaitsSpec)) topWaitsCard

/-- THE TIED CARD OF 'glaziertop.TopBack'. -/
def topBackCard : Claim7 := { stood := { row := topBackRow, standIns := [], harness := (true, "b0f27f898b90f5db0f99a5da3175e688fc5bb262d7fa9e96bfb0d38f8489e16c"), looks := true }, kinds := [], alts := [], laidByText := true, laidKinds := [.data, .listed, .data, .data], laidTests := true, laidLooks := .later }
def TopBackCardSaid : Prop := Claim7.holds Tryd.pinned (.plain (OpenSpec.ofChange topBackSpec)) topBackCard

/-- THE SECOND FORM's CARD OF 'glazierlaw08.StubWide'. -/
def stubWideUptoCard : Claim7 := { stood := { row := stubWideUptoRow, standIns := [], harness := (true, "b0f27f898b90f5db0f99a5da3175e688fc5bb262d7fa9e96bfb0d38f8489e16c"), looks := true }, kinds := [], alts := [], laidByText := true, laidKinds := [.data, .listed, .data, .data], laidTests := true, laidLooks := .later }
def StubWideUptoCardSaid : Prop := Claim7.holds Tryd.pinned (.plain (OpenSpec.upto stubWideSpec)) stubWideUptoCard

/-- THE SECOND FORM's CARD OF 'glazierlaw08.StubAsks'. -/
def stubAsksUptoCard : Claim7 := { stood := { row := stubAsksUptoRow, standIns := [], harness := (true, "b0f27f898b90f5db0f99a5da3175e688fc5bb262d7fa9e96bfb0d38f8489e16c"), looks := true }, kinds := [], alts := [], laidByText := true, laidKinds := [.data, .listed, .data, .data], laidTests := true, laidLooks := .later }
def StubAsksUptoCardSaid : Prop := Claim7.holds Tryd.pinned (.plain (OpenSpec.upto stubAsksSpec)) stubAsksUptoCard

/-- THE SECOND FORM's CARD OF 'glazierlaw08.StubFresh'. -/
def stubFreshUptoCard : Claim7 := { stood := { row := stubFreshUptoRow, standIns := [], harness := (true, "b0f27f898b90f5db0f99a5da3175e688fc5bb262d7fa9e96bfb0d38f8489e16c"), looks := true }, kinds := [], alts := [], laidByText := true, laidKinds := [.data, .listed, .data, .data], laidTests := true, laidLooks := .later }
def StubFreshUptoCardSaid : Prop := Claim7.holds Tryd.pinned (.plain (OpenSpec.upto stubFreshSpec)) stubFreshUptoCard

/-- THE SECOND FORM's CARD OF 'glazierlaw08.StubZero'. -/
def stubZeroUptoCard : Claim7 := { stood := { row := stubZeroUptoRow, standIns := [], harness := (true, "b0f27f898b90f5db0f99a5da3175e688fc5bb262d7fa9e96bfb0d38f8489e16c"), looks := true }, kinds := [], alts := [], laidByText := true, laidKinds := [.data, .listed, .data, .data], laidTests := true, laidLooks := .later }
def StubZeroUptoCardSaid : Prop := Claim7.holds Tryd.pinned (.plain (OpenSpec.upto stubZeroSpec)) stubZeroUptoCard

/-- THE SECOND FORM's CARD OF 'glazierlaw08.StubParts'. -/
def stubPartsUptoCard : Claim7 := { stood := { row := stubPartsUptoRow, standIns := [], harness := (true, "b0f27f898b90f5db0f99a5da3175e688fc5bb262d7fa9e96bfb0d38f8489e16c"), looks := true }, kinds := [], alts := [], laidByText := true, laidKinds := [.data, .listed, .data, .data], laidTests := true, laidLooks := .later }
def StubPartsUptoCardSaid : Prop := Claim7.holds Tryd.pinned (.plain (OpenSpec.upto stubPartsSpec)) stubPartsUptoCard

/-- THE SECOND FORM's CARD OF 'glazierlaw08.StubGets'. -/
def stubGetsUptoCard : Claim7 := { stood := { row := stubGetsUptoRow, standIns := [], harness := (true, "b0f27f898b90f5db0f99a5da3175e688fc5bb262d7fa9e96bfb0d38f8489e16c"), looks := true }, kinds := [], alts := [], laidByText := true, laidKinds := [.data, .listed, .data, .data], laidTests := true, laidLooks := .later }
def StubGetsUptoCardSaid : Prop := Claim7.holds Tryd.pinned (.plain (OpenSpec.upto stubGetsSpec)) stubGetsUptoCard

/-- THE SECOND FORM's CARD OF 'glaziertop.TopWaits'. -/
def topWaitsUptoCard : Claim7 := { stood := { row := topWaitsUptoRow, standIns := [], harness := (true, "b0f27f898b90f5db0f99a5da3175e688fc5bb262d7fa9e96bfb0d38f8489e16c"), looks := true }, kinds := [], alts := [], laidByText := true, laidKinds := [.data, .listed, .data, .data], laidTests := true, laidLooks := .later }
def TopWaitsUptoCardSaid : Prop := Claim7.holds Tryd.pinned (.plain (OpenSpec.upto topWaitsSpec)) topWaitsUptoCard

/-- THE SECOND FORM's CARD OF 'glaziertop.TopBack'. -/
def topBackUptoCard : Claim7 := { stood := { row := topBackUptoRow, standIns := [], harness := (true, "b0f27f898b90f5db0f99a5da3175e688fc5bb262d7fa9e96bfb0d38f8489e16c"), looks := true }, kinds := [], alts := [], laidByText := true, laidKinds := [.data, .listed, .data, .data], laidTests := true, laidLooks := .later }
def TopBackUptoCardSaid : Prop := Claim7.holds Tryd.pinned (.plain (OpenSpec.upto topBackSpec)) topBackUptoCard
end Rows
end Go.Proofs.YtbpjoeopnaggoaaDoor
