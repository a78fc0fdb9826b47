/-
  DERIVED. GIVEN WITH THE SEED: THE CARDS: each row of YtafleenajffpkaaDoorRows.lean that lists a variable, with what it lists TIED to the program's text (the seventh form; the later family's looks); each row that meets fmt, with fmt's text TOLD by the authors' own Lean function (tested against real Go, not proved from fmt's source: count such statements apart). THE CARD IS WHAT COUNTS. Prove the row's statement (the work); the ties are given (YtafleenajffpkaaDoorTie.lean); close each card by the builder's one call (the guide's Derived/Test/ToyasCard.lean, 'card_holds'). Laid BY PROGRAM, IN A SANDBOX (cutbox-door.mjs). By AI agents, Wed Nov 11 2026. No macro, syntax, notation, axiom, sorry.
-/
import Derived.Test.YtafleenajffpkaaDoorRows
import GoSem.ClaimSeven
namespace Go.Proofs.YtafleenajffpkaaDoor
namespace Rows

/-- THE TIED CARD OF 'glazierlaw05.TellGets'. -/
def tellGetsCard : Claim7 := { stood := { row := tellGetsRow, standIns := [], harness := (true, "5875827545007c748aecefaf921826f4ca07b7c037740d3e78f6fc75a262a6d3"), looks := false }, kinds := [], alts := [], laidByText := true, laidKinds := [.data, .listed, .data, .data], laidTests := true, laidLooks := .later }
def TellGetsCardSaid : Prop := Claim7.holds Tryd.pinned (.plain (OpenSpec.ofChange tellGetsSpec)) tellGetsCard

/-- THE TIED CARD OF 'glazierlaw05.TellBack'. -/
def tellBackCard : Claim7 := { stood := { row := tellBackRow, standIns := [], harness := (true, "5875827545007c748aecefaf921826f4ca07b7c037740d3e78f6fc75a262a6d3"), looks := false }, kinds := [], alts := [], laidByText := true, laidKinds := [.data, .listed, .data, .data], laidTests := true, laidLooks := .later }
def TellBackCardSaid : Prop := Claim7.holds Tryd.pinned (.plain (OpenSpec.ofChange tellBackSpec)) tellBackCard

/-- THE TIED CARD OF 'glazierlaw05.TellChains'. -/
def tellChainsCard : Claim7 := { stood := { row := tellChainsRow, standIns := [], harness := (true, "5875827545007c748aecefaf921826f4ca07b7c037740d3e78f6fc75a262a6d3"), looks := false }, kinds := [], alts := [], laidByText := true, laidKinds := [.data, .listed, .data, .data], laidTests := true, laidLooks := .later }
def TellChainsCardSaid : Prop := Claim7.holds Tryd.pinned (.plain (OpenSpec.ofChange tellChainsSpec)) tellChainsCard

/-- THE TIED CARD OF 'glazierlaw05.TellCuts'. -/
def tellCutsCard : Claim7 := { stood := { row := tellCutsRow, standIns := [], harness := (true, "5875827545007c748aecefaf921826f4ca07b7c037740d3e78f6fc75a262a6d3"), looks := false }, kinds := [], alts := [], laidByText := true, laidKinds := [.data, .listed, .data, .data], laidTests := true, laidLooks := .later }
def TellCutsCardSaid : Prop := Claim7.holds Tryd.pinned (.plain (OpenSpec.ofChange tellCutsSpec)) tellCutsCard

/-- THE TIED CARD OF 'glazierlaw05.TellNumbers'. -/
def tellNumbersCard : Claim7 := { stood := { row := tellNumbersRow, standIns := [], harness := (true, "5875827545007c748aecefaf921826f4ca07b7c037740d3e78f6fc75a262a6d3"), looks := false }, kinds := [], alts := [], laidByText := true, laidKinds := [.data, .listed, .data, .data], laidTests := true, laidLooks := .later }
def TellNumbersCardSaid : Prop := Claim7.holds Tryd.pinned (.plain (OpenSpec.ofChange tellNumbersSpec)) tellNumbersCard

/-- THE TIED CARD OF 'glazierlaw05.TellPuts'. -/
def tellPutsCard : Claim7 := { stood := { row := tellPutsRow, standIns := [], harness := (true, "5875827545007c748aecefaf921826f4ca07b7c037740d3e78f6fc75a262a6d3"), looks := false }, kinds := [], alts := [], laidByText := true, laidKinds := [.data, .listed, .data, .data], laidTests := true, laidLooks := .later }
def TellPutsCardSaid : Prop := Claim7.holds Tryd.pinned (.plain (OpenSpec.ofChange tellPutsSpec)) tellPutsCard

/-- THE TIED CARD OF 'glazierlaw05.TellSame'. -/
def tellSameCard : Claim7 := { stood := { row := tellSameRow, standIns := [], harness := (true, "5875827545007c748aecefaf921826f4ca07b7c037740d3e78f6fc75a262a6d3"), looks := false }, kinds := [], alts := [], laidByText := true, laidKinds := [.data, .listed, .data, .data], laidTests := true, laidLooks := .later }
def TellSameCardSaid : Prop := Claim7.holds Tryd.pinned (.plain (OpenSpec.ofChange tellSameSpec)) tellSameCard

/-- THE SECOND FORM's CARD OF 'glazierlaw05.TellGets'. -/
def tellGetsUptoCard : Claim7 := { stood := { row := tellGetsUptoRow, standIns := [], harness := (true, "5875827545007c748aecefaf921826f4ca07b7c037740d3e78f6fc75a262a6d3"), looks := false }, kinds := [], alts := [], laidByText := true, laidKinds := [.data, .listed, .data, .data], laidTests := true, laidLooks := .later }
def TellGetsUptoCardSaid : Prop := Claim7.holds Tryd.pinned (.plain (OpenSpec.upto tellGetsSpec)) tellGetsUptoCard

/-- THE SECOND FORM's CARD OF 'glazierlaw05.TellBack'. -/
def tellBackUptoCard : Claim7 := { stood := { row := tellBackUptoRow, standIns := [], harness := (true, "5875827545007c748aecefaf921826f4ca07b7c037740d3e78f6fc75a262a6d3"), looks := false }, kinds := [], alts := [], laidByText := true, laidKinds := [.data, .listed, .data, .data], laidTests := true, laidLooks := .later }
def TellBackUptoCardSaid : Prop := Claim7.holds Tryd.pinned (.plain (OpenSpec.upto tellBackSpec)) tellBackUptoCard

/-- THE SECOND FORM's CARD OF 'glazierlaw05.TellChains'. -/
def tellChainsUptoCard : Claim7 := { stood := { row := tellChainsUptoRow, standIns := [], harness := (true, "5875827545007c748aecefaf921826f4ca07b7c037740d3e78f6fc75a262a6d3"), looks := false }, kinds := [], alts := [], laidByText := true, laidKinds := [.data, .listed, .data, .data], laidTests := true, laidLooks := .later }
def TellChainsUptoCardSaid : Prop := Claim7.holds Tryd.pinned (.plain (OpenSpec.upto tellChainsSpec)) tellChainsUptoCard

/-- THE SECOND FORM's CARD OF 'glazierlaw05.TellCuts'. -/
def tellCutsUptoCard : Claim7 := { stood := { row := tellCutsUptoRow, standIns := [], harness := (true, "5875827545007c748aecefaf921826f4ca07b7c037740d3e78f6fc75a262a6d3"), looks := false }, kinds := [], alts := [], laidByText := true, laidKinds := [.data, .listed, .data, .data], laidTests := true, laidLooks := .later }
def TellCutsUptoCardSaid : Prop := Claim7.holds Tryd.pinned (.plain (OpenSpec.upto tellCutsSpec)) tellCutsUptoCard

/-- THE SECOND FORM's CARD OF 'glazierlaw05.TellNumbers'. -/
def tellNumbersUptoCard : Claim7 := { stood := { row := tellNumbersUptoRow, standIns := [], harness := (true, "5875827545007c748aecefaf921826f4ca07b7c037740d3e78f6fc75a262a6d3"), looks := false }, kinds := [], alts := [], laidByText := true, laidKinds := [.data, .listed, .data, .data], laidTests := true, laidLooks := .later }
def TellNumbersUptoCardSaid : Prop := Claim7.holds Tryd.pinned (.plain (OpenSpec.upto tellNumbersSpec)) tellNumbersUptoCard

/-- THE SECOND FORM's CARD OF 'glazierlaw05.TellPuts'. -/
def tellPutsUptoCard : Claim7 := { stood := { row := tellPutsUptoRow, standIns := [], harness := (true, "5875827545007c748aecefaf921826f4ca07b7c037740d3e78f6fc75a262a6d3"), looks := false }, kinds := [], alts := [], laidByText := true, laidKinds := [.data, .listed, .data, .data], laidTests := true, laidLooks := .later }
def TellPutsUptoCardSaid : Prop := Claim7.holds Tryd.pinned (.plain (OpenSpec.upto tellPutsSpec)) tellPutsUptoCard

/-- THE SECOND FORM's CARD OF 'glazierlaw05.TellSame'. -/
def tellSameUptoCard : Claim7 := { stood := { row := tellSameUptoRow, standIns := [], harness := (true, "5875827545007c748aecefaf921826f4ca07b7c037740d3e78f6fc75a262a6d3"), looks := false }, kinds := [], alts := [], laidByText := true, laidKinds := [.data, .listed, .data, .data], laidTests := true, laidLooks := .later }
def TellSameUptoCardSaid : Prop := Claim7.holds Tryd.pinned (.plain (OpenSpec.upto tellSameSpec)) tellSameUptoCard
end Rows
end Go.Proofs.YtafleenajffpkaaDoor
