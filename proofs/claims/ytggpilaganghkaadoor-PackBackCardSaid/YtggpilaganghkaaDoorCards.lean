/-
  DERIVED. GIVEN WITH THE SEED: THE CARDS: each row of YtggpilaganghkaaDoorRows.lean that lists a variable, with what it lists TIED to the program's text (the seventh form; the later family's looks); each row that meets fmt, with fmt's text TOLD by the authors' own Lean function (tested against real Go, not proved from fmt's source: count such statements apart). THE CARD IS WHAT COUNTS. Prove the row's statement (the work); the ties are given (YtggpilaganghkaaDoorTie.lean); close each card by the builder's one call (the guide's Derived/Test/ToyasCard.lean, 'card_holds'). Laid BY PROGRAM, IN A SANDBOX (cutbox-door.mjs). By AI agents, Wed Nov 11 2026. No macro, syntax, notation, axiom, sorry.
-/
import Derived.Test.YtggpilaganghkaaDoorRows
import GoSem.ClaimSeven
namespace Go.Proofs.YtggpilaganghkaaDoor
namespace Rows

/-- THE TIED CARD OF 'glazierlaw04.PackLong'. -/
def packLongCard : Claim7 := { stood := { row := packLongRow, standIns := [], harness := (true, "d7b7ec74b729f206fa59db2279d84841eb95da28c13569a9aa58d2fc06a234f4"), looks := false }, kinds := [], alts := [], laidByText := true, laidKinds := [.data, .listed, .data, .data], laidTests := true, laidLooks := .later }
def PackLongCardSaid : Prop := Claim7.holds Tryd.pinned (.plain (OpenSpec.ofChange packLongSpec)) packLongCard

/-- THE TIED CARD OF 'glazierlaw04.PackPuts'. -/
def packPutsCard : Claim7 := { stood := { row := packPutsRow, standIns := [], harness := (true, "d7b7ec74b729f206fa59db2279d84841eb95da28c13569a9aa58d2fc06a234f4"), looks := false }, kinds := [], alts := [], laidByText := true, laidKinds := [.data, .listed, .data, .data], laidTests := true, laidLooks := .later }
def PackPutsCardSaid : Prop := Claim7.holds Tryd.pinned (.plain (OpenSpec.ofChange packPutsSpec)) packPutsCard

/-- THE TIED CARD OF 'glazierlaw04.PackSame'. -/
def packSameCard : Claim7 := { stood := { row := packSameRow, standIns := [], harness := (true, "d7b7ec74b729f206fa59db2279d84841eb95da28c13569a9aa58d2fc06a234f4"), looks := false }, kinds := [], alts := [], laidByText := true, laidKinds := [.data, .listed, .data, .data], laidTests := true, laidLooks := .later }
def PackSameCardSaid : Prop := Claim7.holds Tryd.pinned (.plain (OpenSpec.ofChange packSameSpec)) packSameCard

/-- THE TIED CARD OF 'glazierlaw04.PackCuts'. -/
def packCutsCard : Claim7 := { stood := { row := packCutsRow, standIns := [], harness := (true, "d7b7ec74b729f206fa59db2279d84841eb95da28c13569a9aa58d2fc06a234f4"), looks := false }, kinds := [], alts := [], laidByText := true, laidKinds := [.data, .listed, .data, .data], laidTests := true, laidLooks := .later }
def PackCutsCardSaid : Prop := Claim7.holds Tryd.pinned (.plain (OpenSpec.ofChange packCutsSpec)) packCutsCard

/-- THE TIED CARD OF 'glazierlaw04.PackGets'. -/
def packGetsCard : Claim7 := { stood := { row := packGetsRow, standIns := [], harness := (true, "d7b7ec74b729f206fa59db2279d84841eb95da28c13569a9aa58d2fc06a234f4"), looks := false }, kinds := [], alts := [], laidByText := true, laidKinds := [.data, .listed, .data, .data], laidTests := true, laidLooks := .later }
def PackGetsCardSaid : Prop := Claim7.holds Tryd.pinned (.plain (OpenSpec.ofChange packGetsSpec)) packGetsCard

/-- THE TIED CARD OF 'glazierlaw04.PackBack'. -/
def packBackCard : Claim7 := { stood := { row := packBackRow, standIns := [], harness := (true, "d7b7ec74b729f206fa59db2279d84841eb95da28c13569a9aa58d2fc06a234f4"), looks := false }, kinds := [], alts := [], laidByText := true, laidKinds := [.data, .listed, .data, .data], laidTests := true, laidLooks := .later }
def PackBackCardSaid : Prop := Claim7.holds Tryd.pinned (.plain (OpenSpec.ofChange packBackSpec)) packBackCard

/-- THE SECOND FORM's CARD OF 'glazierlaw04.PackLong'. -/
def packLongUptoCard : Claim7 := { stood := { row := packLongUptoRow, standIns := [], harness := (true, "d7b7ec74b729f206fa59db2279d84841eb95da28c13569a9aa58d2fc06a234f4"), looks := false }, kinds := [], alts := [], laidByText := true, laidKinds := [.data, .listed, .data, .data], laidTests := true, laidLooks := .later }
def PackLongUptoCardSaid : Prop := Claim7.holds Tryd.pinned (.plain (OpenSpec.upto packLongSpec)) packLongUptoCard

/-- THE SECOND FORM's CARD OF 'glazierlaw04.PackPuts'. -/
def packPutsUptoCard : Claim7 := { stood := { row := packPutsUptoRow, standIns := [], harness := (true, "d7b7ec74b729f206fa59db2279d84841eb95da28c13569a9aa58d2fc06a234f4"), looks := false }, kinds := [], alts := [], laidByText := true, laidKinds := [.data, .listed, .data, .data], laidTests := true, laidLooks := .later }
def PackPutsUptoCardSaid : Prop := Claim7.holds Tryd.pinned (.plain (OpenSpec.upto packPutsSpec)) packPutsUptoCard

/-- THE SECOND FORM's CARD OF 'glazierlaw04.PackSame'. -/
def packSameUptoCard : Claim7 := { stood := { row := packSameUptoRow, standIns := [], harness := (true, "d7b7ec74b729f206fa59db2279d84841eb95da28c13569a9aa58d2fc06a234f4"), looks := false }, kinds := [], alts := [], laidByText := true, laidKinds := [.data, .listed, .data, .data], laidTests := true, laidLooks := .later }
def PackSameUptoCardSaid : Prop := Claim7.holds Tryd.pinned (.plain (OpenSpec.upto packSameSpec)) packSameUptoCard

/-- THE SECOND FORM's CARD OF 'glazierlaw04.PackCuts'. -/
def packCutsUptoCard : Claim7 := { stood := { row := packCutsUptoRow, standIns := [], harness := (true, "d7b7ec74b729f206fa59db2279d84841eb95da28c13569a9aa58d2fc06a234f4"), looks := false }, kinds := [], alts := [], laidByText := true, laidKinds := [.data, .listed, .data, .data], laidTests := true, laidLooks := .later }
def PackCutsUptoCardSaid : Prop := Claim7.holds Tryd.pinned (.plain (OpenSpec.upto packCutsSpec)) packCutsUptoCard

/-- THE SECOND FORM's CARD OF 'glazierlaw04.PackGets'. -/
def packGetsUptoCard : Claim7 := { stood := { row := packGetsUptoRow, standIns := [], harness := (true, "d7b7ec74b729f206fa59db2279d84841eb95da28c13569a9aa58d2fc06a234f4"), looks := false }, kinds := [], alts := [], laidByText := true, laidKinds := [.data, .listed, .data, .data], laidTests := true, laidLooks := .later }
def PackGetsUptoCardSaid : Prop := Claim7.holds Tryd.pinned (.plain (OpenSpec.upto packGetsSpec)) packGetsUptoCard

/-- THE SECOND FORM's CARD OF 'glazierlaw04.PackBack'. -/
def packBackUptoCard : Claim7 := { stood := { row := packBackUptoRow, standIns := [], harness := (true, "d7b7ec74b729f206fa59db2279d84841eb95da28c13569a9aa58d2fc06a234f4"), looks := false }, kinds := [], alts := [], laidByText := true, laidKinds := [.data, .listed, .data, .data], laidTests := true, laidLooks := .later }
def PackBackUptoCardSaid : Prop := Claim7.holds Tryd.pinned (.plain (OpenSpec.upto packBackSpec)) packBackUptoCard
end Rows
end Go.Proofs.YtggpilaganghkaaDoor
