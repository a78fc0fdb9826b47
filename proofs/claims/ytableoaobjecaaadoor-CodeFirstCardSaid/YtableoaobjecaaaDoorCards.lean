/-
  DERIVED. GIVEN WITH THE SEED: THE CARDS: each row of YtableoaobjecaaaDoorRows.lean that lists a variable, with what it lists TIED to the program's text (the seventh form; the later family's looks); each row that meets fmt, with fmt's text TOLD by the authors' own Lean function (tested against real Go, not proved from fmt's source: count such statements apart). THE CARD IS WHAT COUNTS. Prove the row's statement (the work); the ties are given (YtableoaobjecaaaDoorTie.lean); close each card by the builder's one call (the guide's Derived/Test/ToyasCard.lean, 'card_holds'). Laid BY PROGRAM, IN A SANDBOX (cutbox-door.mjs). By AI agents, Wed Nov 11 2026. No macro, syntax, notation, axiom, sorry.
-/
import Derived.Test.YtableoaobjecaaaDoorRows
import GoSem.ClaimSeven
namespace Go.Proofs.YtableoaobjecaaaDoor
namespace Rows

/-- THE TIED CARD OF 'glazierlaw03.CodeFields'. -/
def codeFieldsCard : Claim7 := { stood := { row := codeFieldsRow, standIns := [], harness := (true, "9e723c01afe4b273c7a5f3a67ec4233a8002f44a12126a14a2c7eacc84208c85"), looks := false }, kinds := [], alts := [], laidByText := true, laidKinds := [.listed, .data], laidTests := true, laidLooks := .later }
def CodeFieldsCardSaid : Prop := Claim7.holds Tryd.pinned (.plain (OpenSpec.ofChange codeFieldsSpec)) codeFieldsCard

/-- THE TIED CARD OF 'glazierlaw03.CodeBack'. -/
def codeBackCard : Claim7 := { stood := { row := codeBackRow, standIns := [], harness := (true, "9e723c01afe4b273c7a5f3a67ec4233a8002f44a12126a14a2c7eacc84208c85"), looks := false }, kinds := [], alts := [], laidByText := true, laidKinds := [.listed, .data], laidTests := true, laidLooks := .later }
def CodeBackCardSaid : Prop := Claim7.holds Tryd.pinned (.plain (OpenSpec.ofChange codeBackSpec)) codeBackCard

/-- THE TIED CARD OF 'glazierlaw03.CodeNames'. -/
def codeNamesCard : Claim7 := { stood := { row := codeNamesRow, standIns := [], harness := (true, "9e723c01afe4b273c7a5f3a67ec4233a8002f44a12126a14a2c7eacc84208c85"), looks := false }, kinds := [], alts := [], laidByText := true, laidKinds := [.listed, .data], laidTests := true, laidLooks := .later }
def CodeNamesCardSaid : Prop := Claim7.holds Tryd.pinned (.plain (OpenSpec.ofChange codeNamesSpec)) codeNamesCard

/-- THE TIED CARD OF 'glazierlaw03.CodeAlone'. -/
def codeAloneCard : Claim7 := { stood := { row := codeAloneRow, standIns := [], harness := (true, "9e723c01afe4b273c7a5f3a67ec4233a8002f44a12126a14a2c7eacc84208c85"), looks := false }, kinds := [], alts := [], laidByText := true, laidKinds := [.listed, .data], laidTests := true, laidLooks := .later }
def CodeAloneCardSaid : Prop := Claim7.holds Tryd.pinned (.plain (OpenSpec.ofChange codeAloneSpec)) codeAloneCard

/-- THE TIED CARD OF 'glazierlaw03.CodeForms'. -/
def codeFormsCard : Claim7 := { stood := { row := codeFormsRow, standIns := [], harness := (true, "9e723c01afe4b273c7a5f3a67ec4233a8002f44a12126a14a2c7eacc84208c85"), looks := false }, kinds := [], alts := [], laidByText := true, laidKinds := [.listed, .data], laidTests := true, laidLooks := .later }
def CodeFormsCardSaid : Prop := Claim7.holds Tryd.pinned (.plain (OpenSpec.ofChange codeFormsSpec)) codeFormsCard

/-- THE TIED CARD OF 'glazierlaw03.CodeFirst'. -/
def codeFirstCard : Claim7 := { stood := { row := codeFirstRow, standIns := [], harness := (true, "9e723c01afe4b273c7a5f3a67ec4233a8002f44a12126a14a2c7eacc84208c85"), looks := false }, kinds := [], alts := [], laidByText := true, laidKinds := [.listed, .data, .data], laidTests := true, laidLooks := .later }
def CodeFirstCardSaid : Prop := Claim7.holds Tryd.pinned (.plain (OpenSpec.ofChange codeFirstSpec)) codeFirstCard

/-- THE TIED CARD OF 'glazierlaw04.PackLong'. -/
def packLongCard : Claim7 := { stood := { row := packLongRow, standIns := [], harness := (true, "9e723c01afe4b273c7a5f3a67ec4233a8002f44a12126a14a2c7eacc84208c85"), looks := false }, kinds := [], alts := [], laidByText := true, laidKinds := [.data, .listed, .data, .data], laidTests := true, laidLooks := .later }
def PackLongCardSaid : Prop := Claim7.holds Tryd.pinned (.plain (OpenSpec.ofChange packLongSpec)) packLongCard

/-- THE TIED CARD OF 'glazierlaw04.PackPuts'. -/
def packPutsCard : Claim7 := { stood := { row := packPutsRow, standIns := [], harness := (true, "9e723c01afe4b273c7a5f3a67ec4233a8002f44a12126a14a2c7eacc84208c85"), looks := false }, kinds := [], alts := [], laidByText := true, laidKinds := [.data, .listed, .data, .data], laidTests := true, laidLooks := .later }
def PackPutsCardSaid : Prop := Claim7.holds Tryd.pinned (.plain (OpenSpec.ofChange packPutsSpec)) packPutsCard

/-- THE TIED CARD OF 'glazierlaw04.PackSame'. -/
def packSameCard : Claim7 := { stood := { row := packSameRow, standIns := [], harness := (true, "9e723c01afe4b273c7a5f3a67ec4233a8002f44a12126a14a2c7eacc84208c85"), looks := false }, kinds := [], alts := [], laidByText := true, laidKinds := [.data, .listed, .data, .data], laidTests := true, laidLooks := .later }
def PackSameCardSaid : Prop := Claim7.holds Tryd.pinned (.plain (OpenSpec.ofChange packSameSpec)) packSameCard

/-- THE TIED CARD OF 'glazierlaw04.PackCuts'. -/
def packCutsCard : Claim7 := { stood := { row := packCutsRow, standIns := [], harness := (true, "9e723c01afe4b273c7a5f3a67ec4233a8002f44a12126a14a2c7eacc84208c85"), looks := false }, kinds := [], alts := [], laidByText := true, laidKinds := [.data, .listed, .data, .data], laidTests := true, laidLooks := .later }
def PackCutsCardSaid : Prop := Claim7.holds Tryd.pinned (.plain (OpenSpec.ofChange packCutsSpec)) packCutsCard

/-- THE TIED CARD OF 'glazierlaw04.PackGets'. -/
def packGetsCard : Claim7 := { stood := { row := packGetsRow, standIns := [], harness := (true, "9e723c01afe4b273c7a5f3a67ec4233a8002f44a12126a14a2c7eacc84208c85"), looks := false }, kinds := [], alts := [], laidByText := true, laidKinds := [.data, .listed, .data, .data], laidTests := true, laidLooks := .later }
def PackGetsCardSaid : Prop := Claim7.holds Tryd.pinned (.plain (OpenSpec.ofChange packGetsSpec)) packGetsCard

/-- THE TIED CARD OF 'glazierlaw04.PackBack'. -/
def packBackCard : Claim7 := { stood := { row := packBackRow, standIns := [], harness := (true, "9e723c01afe4b273c7a5f3a67ec4233a8002f44a12126a14a2c7eacc84208c85"), looks := false }, kinds := [], alts := [], laidByText := true, laidKinds := [.data, .listed, .data, .data], laidTests := true, laidLooks := .later }
def PackBackCardSaid : Prop := Claim7.holds Tryd.pinned (.plain (OpenSpec.ofChange packBackSpec)) packBackCard

/-- THE SECOND FORM's CARD OF 'glazierlaw03.CodeFields'. -/
def codeFieldsUptoCard : Claim7 := { stood := { row := codeFieldsUptoRow, standIns := [], harness := (true, "9e723c01afe4b273c7a5f3a67ec4233a8002f44a12126a14a2c7eacc84208c85"), looks := false }, kinds := [], alts := [], laidByText := true, laidKinds := [.listed, .data], laidTests := true, laidLooks := .later }
def CodeFieldsUptoCardSaid : Prop := Claim7.holds Tryd.pinned (.plain (OpenSpec.upto codeFieldsSpec)) codeFieldsUptoCard

/-- THE SECOND FORM's CARD OF 'glazierlaw03.CodeBack'. -/
def codeBackUptoCard : Claim7 := { stood := { row := codeBackUptoRow, standIns := [], harness := (true, "9e723c01afe4b273c7a5f3a67ec4233a8002f44a12126a14a2c7eacc84208c85"), looks := false }, kinds := [], alts := [], laidByText := true, laidKinds := [.listed, .data], laidTests := true, laidLooks := .later }
def CodeBackUptoCardSaid : Prop := Claim7.holds Tryd.pinned (.plain (OpenSpec.upto codeBackSpec)) codeBackUptoCard

/-- THE SECOND FORM's CARD OF 'glazierlaw03.CodeNames'. -/
def codeNamesUptoCard : Claim7 := { stood := { row := codeNamesUptoRow, standIns := [], harness := (true, "9e723c01afe4b273c7a5f3a67ec4233a8002f44a12126a14a2c7eacc84208c85"), looks := false }, kinds := [], alts := [], laidByText := true, laidKinds := [.listed, .data], laidTests := true, laidLooks := .later }
def CodeNamesUptoCardSaid : Prop := Claim7.holds Tryd.pinned (.plain (OpenSpec.upto codeNamesSpec)) codeNamesUptoCard

/-- THE SECOND FORM's CARD OF 'glazierlaw03.CodeAlone'. -/
def codeAloneUptoCard : Claim7 := { stood := { row := codeAloneUptoRow, standIns := [], harness := (true, "9e723c01afe4b273c7a5f3a67ec4233a8002f44a12126a14a2c7eacc84208c85"), looks := false }, kinds := [], alts := [], laidByText := true, laidKinds := [.listed, .data], laidTests := true, laidLooks := .later }
def CodeAloneUptoCardSaid : Prop := Claim7.holds Tryd.pinned (.plain (OpenSpec.upto codeAloneSpec)) codeAloneUptoCard

/-- THE SECOND FORM's CARD OF 'glazierlaw03.CodeForms'. -/
def codeFormsUptoCard : Claim7 := { stood := { row := codeFormsUptoRow, standIns := [], harness := (true, "9e723c01afe4b273c7a5f3a67ec4233a8002f44a12126a14a2c7eacc84208c85"), looks := false }, kinds := [], alts := [], laidByText := true, laidKinds := [.listed, .data], laidTests := true, laidLooks := .later }
def CodeFormsUptoCardSaid : Prop := Claim7.holds Tryd.pinned (.plain (OpenSpec.upto codeFormsSpec)) codeFormsUptoCard

/-- THE SECOND FORM's CARD OF 'glazierlaw03.CodeFirst'. -/
def codeFirstUptoCard : Claim7 := { stood := { row := codeFirstUptoRow, standIns := [], harness := (true, "9e723c01afe4b273c7a5f3a67ec4233a8002f44a12126a14a2c7eacc84208c85"), looks := false }, kinds := [], alts := [], laidByText := true, laidKinds := [.listed, .data, .data], laidTests := true, laidLooks := .later }
def CodeFirstUptoCardSaid : Prop := Claim7.holds Tryd.pinned (.plain (OpenSpec.upto codeFirstSpec)) codeFirstUptoCard

/-- THE SECOND FORM's CARD OF 'glazierlaw04.PackLong'. -/
def packLongUptoCard : Claim7 := { stood := { row := packLongUptoRow, standIns := [], harness := (true, "9e723c01afe4b273c7a5f3a67ec4233a8002f44a12126a14a2c7eacc84208c85"), looks := false }, kinds := [], alts := [], laidByText := true, laidKinds := [.data, .listed, .data, .data], laidTests := true, laidLooks := .later }
def PackLongUptoCardSaid : Prop := Claim7.holds Tryd.pinned (.plain (OpenSpec.upto packLongSpec)) packLongUptoCard

/-- THE SECOND FORM's CARD OF 'glazierlaw04.PackPuts'. -/
def packPutsUptoCard : Claim7 := { stood := { row := packPutsUptoRow, standIns := [], harness := (true, "9e723c01afe4b273c7a5f3a67ec4233a8002f44a12126a14a2c7eacc84208c85"), looks := false }, kinds := [], alts := [], laidByText := true, laidKinds := [.data, .listed, .data, .data], laidTests := true, laidLooks := .later }
def PackPutsUptoCardSaid : Prop := Claim7.holds Tryd.pinned (.plain (OpenSpec.upto packPutsSpec)) packPutsUptoCard

/-- THE SECOND FORM's CARD OF 'glazierlaw04.PackSame'. -/
def packSameUptoCard : Claim7 := { stood := { row := packSameUptoRow, standIns := [], harness := (true, "9e723c01afe4b273c7a5f3a67ec4233a8002f44a12126a14a2c7eacc84208c85"), looks := false }, kinds := [], alts := [], laidByText := true, laidKinds := [.data, .listed, .data, .data], laidTests := true, laidLooks := .later }
def PackSameUptoCardSaid : Prop := Claim7.holds Tryd.pinned (.plain (OpenSpec.upto packSameSpec)) packSameUptoCard

/-- THE SECOND FORM's CARD OF 'glazierlaw04.PackCuts'. -/
def packCutsUptoCard : Claim7 := { stood := { row := packCutsUptoRow, standIns := [], harness := (true, "9e723c01afe4b273c7a5f3a67ec4233a8002f44a12126a14a2c7eacc84208c85"), looks := false }, kinds := [], alts := [], laidByText := true, laidKinds := [.data, .listed, .data, .data], laidTests := true, laidLooks := .later }
def PackCutsUptoCardSaid : Prop := Claim7.holds Tryd.pinned (.plain (OpenSpec.upto packCutsSpec)) packCutsUptoCard

/-- THE SECOND FORM's CARD OF 'glazierlaw04.PackGets'. -/
def packGetsUptoCard : Claim7 := { stood := { row := packGetsUptoRow, standIns := [], harness := (true, "9e723c01afe4b273c7a5f3a67ec4233a8002f44a12126a14a2c7eacc84208c85"), looks := false }, kinds := [], alts := [], laidByText := true, laidKinds := [.data, .listed, .data, .data], laidTests := true, laidLooks := .later }
def PackGetsUptoCardSaid : Prop := Claim7.holds Tryd.pinned (.plain (OpenSpec.upto packGetsSpec)) packGetsUptoCard

/-- THE SECOND FORM's CARD OF 'glazierlaw04.PackBack'. -/
def packBackUptoCard : Claim7 := { stood := { row := packBackUptoRow, standIns := [], harness := (true, "9e723c01afe4b273c7a5f3a67ec4233a8002f44a12126a14a2c7eacc84208c85"), looks := false }, kinds := [], alts := [], laidByText := true, laidKinds := [.data, .listed, .data, .data], laidTests := true, laidLooks := .later }
def PackBackUptoCardSaid : Prop := Claim7.holds Tryd.pinned (.plain (OpenSpec.upto packBackSpec)) packBackUptoCard
end Rows
end Go.Proofs.YtableoaobjecaaaDoor
