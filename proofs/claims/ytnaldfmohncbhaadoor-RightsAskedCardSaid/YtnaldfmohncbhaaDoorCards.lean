/-
  DERIVED. GIVEN WITH THE SEED: THE CARDS: each row of YtnaldfmohncbhaaDoorRows.lean that lists a variable, with what it lists TIED to the program's text (the seventh form; the later family's looks); each row that meets fmt, with fmt's text TOLD by the authors' own Lean function (tested against real Go, not proved from fmt's source: count such statements apart). THE CARD IS WHAT COUNTS. Prove the row's statement (the work); the ties are given (YtnaldfmohncbhaaDoorTie.lean); close each card by the builder's one call (the guide's Derived/Test/ToyasCard.lean, 'card_holds'). Laid BY PROGRAM, IN A SANDBOX (cutbox-door.mjs). By AI agents, Wed Nov 11 2026. No macro, syntax, notation, axiom, sorry.
-/
import Derived.Test.YtnaldfmohncbhaaDoorRows
import GoSem.ClaimSeven
namespace Go.Proofs.YtnaldfmohncbhaaDoor
namespace Rows

/-- THE TIED CARD OF 'glazierlaw44.RightsFacts'. -/
def rightsFactsCard : Claim7 := { stood := { row := rightsFactsRow, standIns := [], harness := (true, "9975fee9cb326bd0d3c16e69b0a9e91ac2f5f2f4c15af73037674246e727d7cc"), looks := false }, kinds := [], alts := [], laidByText := true, laidKinds := [.data], laidTests := true, laidLooks := .later }
def RightsFactsCardSaid : Prop := Claim7.holds Tryd.pinned (.plain (OpenSpec.ofChange rightsFactsSpec)) rightsFactsCard

/-- THE TIED CARD OF 'glazierlaw44.RightsAlone'. -/
def rightsAloneCard : Claim7 := { stood := { row := rightsAloneRow, standIns := [], harness := (true, "9975fee9cb326bd0d3c16e69b0a9e91ac2f5f2f4c15af73037674246e727d7cc"), looks := false }, kinds := [], alts := [], laidByText := true, laidKinds := [.data], laidTests := true, laidLooks := .later }
def RightsAloneCardSaid : Prop := Claim7.holds Tryd.pinned (.plain (OpenSpec.ofChange rightsAloneSpec)) rightsAloneCard

/-- THE TIED CARD OF 'glazierlaw44.RightsTable'. -/
def rightsTableCard : Claim7 := { stood := { row := rightsTableRow, standIns := [], harness := (true, "9975fee9cb326bd0d3c16e69b0a9e91ac2f5f2f4c15af73037674246e727d7cc"), looks := false }, kinds := [], alts := [], laidByText := true, laidKinds := [.data], laidTests := true, laidLooks := .later }
def RightsTableCardSaid : Prop := Claim7.holds Tryd.pinned (.plain (OpenSpec.ofChange rightsTableSpec)) rightsTableCard

/-- THE TIED CARD OF 'glazierlaw44.RightsMore'. -/
def rightsMoreCard : Claim7 := { stood := { row := rightsMoreRow, standIns := [], harness := (true, "9975fee9cb326bd0d3c16e69b0a9e91ac2f5f2f4c15af73037674246e727d7cc"), looks := false }, kinds := [], alts := [], laidByText := true, laidKinds := [.data], laidTests := true, laidLooks := .later }
def RightsMoreCardSaid : Prop := Claim7.holds Tryd.pinned (.plain (OpenSpec.ofChange rightsMoreSpec)) rightsMoreCard

/-- THE TIED CARD OF 'glazierlaw44.RightsAsked'. -/
def rightsAskedCard : Claim7 := { stood := { row := rightsAskedRow, standIns := [], harness := (true, "9975fee9cb326bd0d3c16e69b0a9e91ac2f5f2f4c15af73037674246e727d7cc"), looks := false }, kinds := [], alts := [], laidByText := true, laidKinds := [.data], laidTests := true, laidLooks := .later }
def RightsAskedCardSaid : Prop := Claim7.holds Tryd.pinned (.plain (OpenSpec.ofChange rightsAskedSpec)) rightsAskedCard

/-- THE TIED CARD OF 'glazierlaw44.RightsNeeds'. -/
def rightsNeedsCard : Claim7 := { stood := { row := rightsNeedsRow, standIns := [], harness := (true, "9975fee9cb326bd0d3c16e69b0a9e91ac2f5f2f4c15af73037674246e727d7cc"), looks := false }, kinds := [], alts := [], laidByText := true, laidKinds := [.data, .listed, .data], laidTests := true, laidLooks := .later }
def RightsNeedsCardSaid : Prop := Claim7.holds Tryd.pinned (.plain (OpenSpec.ofChange rightsNeedsSpec)) rightsNeedsCard

/-- THE SECOND FORM's CARD OF 'glazierlaw44.RightsFacts'. -/
def rightsFactsUptoCard : Claim7 := { stood := { row := rightsFactsUptoRow, standIns := [], harness := (true, "9975fee9cb326bd0d3c16e69b0a9e91ac2f5f2f4c15af73037674246e727d7cc"), looks := false }, kinds := [], alts := [], laidByText := true, laidKinds := [.data], laidTests := true, laidLooks := .later }
def RightsFactsUptoCardSaid : Prop := Claim7.holds Tryd.pinned (.plain (OpenSpec.upto rightsFactsSpec)) rightsFactsUptoCard

/-- THE SECOND FORM's CARD OF 'glazierlaw44.RightsAlone'. -/
def rightsAloneUptoCard : Claim7 := { stood := { row := rightsAloneUptoRow, standIns := [], harness := (true, "9975fee9cb326bd0d3c16e69b0a9e91ac2f5f2f4c15af73037674246e727d7cc"), looks := false }, kinds := [], alts := [], laidByText := true, laidKinds := [.data], laidTests := true, laidLooks := .later }
def RightsAloneUptoCardSaid : Prop := Claim7.holds Tryd.pinned (.plain (OpenSpec.upto rightsAloneSpec)) rightsAloneUptoCard

/-- THE SECOND FORM's CARD OF 'glazierlaw44.RightsTable'. -/
def rightsTableUptoCard : Claim7 := { stood := { row := rightsTableUptoRow, standIns := [], harness := (true, "9975fee9cb326bd0d3c16e69b0a9e91ac2f5f2f4c15af73037674246e727d7cc"), looks := false }, kinds := [], alts := [], laidByText := true, laidKinds := [.data], laidTests := true, laidLooks := .later }
def RightsTableUptoCardSaid : Prop := Claim7.holds Tryd.pinned (.plain (OpenSpec.upto rightsTableSpec)) rightsTableUptoCard

/-- THE SECOND FORM's CARD OF 'glazierlaw44.RightsMore'. -/
def rightsMoreUptoCard : Claim7 := { stood := { row := rightsMoreUptoRow, standIns := [], harness := (true, "9975fee9cb326bd0d3c16e69b0a9e91ac2f5f2f4c15af73037674246e727d7cc"), looks := false }, kinds := [], alts := [], laidByText := true, laidKinds := [.data], laidTests := true, laidLooks := .later }
def RightsMoreUptoCardSaid : Prop := Claim7.holds Tryd.pinned (.plain (OpenSpec.upto rightsMoreSpec)) rightsMoreUptoCard

/-- THE SECOND FORM's CARD OF 'glazierlaw44.RightsAsked'. -/
def rightsAskedUptoCard : Claim7 := { stood := { row := rightsAskedUptoRow, standIns := [], harness := (true, "9975fee9cb326bd0d3c16e69b0a9e91ac2f5f2f4c15af73037674246e727d7cc"), looks := false }, kinds := [], alts := [], laidByText := true, laidKinds := [.data], laidTests := true, laidLooks := .later }
def RightsAskedUptoCardSaid : Prop := Claim7.holds Tryd.pinned (.plain (OpenSpec.upto rightsAskedSpec)) rightsAskedUptoCard

/-- THE SECOND FORM's CARD OF 'glazierlaw44.RightsNeeds'. -/
def rightsNeedsUptoCard : Claim7 := { stood := { row := rightsNeedsUptoRow, standIns := [], harness := (true, "9975fee9cb326bd0d3c16e69b0a9e91ac2f5f2f4c15af73037674246e727d7cc"), looks := false }, kinds := [], alts := [], laidByText := true, laidKinds := [.data, .listed, .data], laidTests := true, laidLooks := .later }
def RightsNeedsUptoCardSaid : Prop := Claim7.holds Tryd.pinned (.plain (OpenSpec.upto rightsNeedsSpec)) rightsNeedsUptoCard
end Rows
end Go.Proofs.YtnaldfmohncbhaaDoor
