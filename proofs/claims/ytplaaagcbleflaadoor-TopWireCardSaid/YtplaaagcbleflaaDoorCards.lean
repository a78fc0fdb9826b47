/-
  DERIVED. GIVEN WITH THE SEED: THE CARDS: each row of YtplaaagcbleflaaDoorRows.lean that lists a variable, with what it lists TIED to the program's text (the seventh form; the later family's looks); each row that meets fmt, with fmt's text TOLD by the authors' own Lean function (tested against real Go, not proved from fmt's source: count such statements apart). THE CARD IS WHAT COUNTS. Prove the row's statement (the work); the ties are given (YtplaaagcbleflaaDoorTie.lean); close each card by the builder's one call (the guide's Derived/Test/ToyasCard.lean, 'card_holds'). Laid BY PROGRAM, IN A SANDBOX (cutbox-door.mjs). By AI agents, Wed Nov 11 2026. No macro, syntax, notation, axiom, sorry.
-/
import Derived.Test.YtplaaagcbleflaaDoorRows
import GoSem.ClaimSeven
namespace Go.Proofs.YtplaaagcbleflaaDoor
namespace Rows

/-- THE TIED CARD OF 'glaziertop.TopJunk'. -/
def topJunkCard : Claim7 := { stood := { row := topJunkRow, standIns := [], harness := (true, "b3c43b2d62158024e77209a9bbe207a23b9b11c8b51bdb8807d52182dffb55c2"), looks := true }, kinds := [], alts := [], laidByText := true, laidKinds := [.data, .listed, .data, .data], laidTests := true, laidLooks := .later }
def TopJunkCardSaid : Prop := Claim7.holds Tryd.pinned (.plain (OpenSpec.ofChange topJunkSpec)) topJunkCard

/-- THE TIED CARD OF 'glazierlaw06.StreamBegins'. -/
def streamBeginsCard : Claim7 := { stood := { row := streamBeginsRow, standIns := [], harness := (true, "b3c43b2d62158024e77209a9bbe207a23b9b11c8b51bdb8807d52182dffb55c2"), looks := true }, kinds := [], alts := [], laidByText := true, laidKinds := [.data, .listed, .data, .data], laidTests := true, laidLooks := .later }
def StreamBeginsCardSaid : Prop := Claim7.holds Tryd.pinned (.plain (OpenSpec.ofChange streamBeginsSpec)) streamBeginsCard

/-- THE TIED CARD OF 'glaziertop.TopWire'. -/
def topWireCard : Claim7 := { stood := { row := topWireRow, standIns := [], harness := (true, "b3c43b2d62158024e77209a9bbe207a23b9b11c8b51bdb8807d52182dffb55c2"), looks := true }, kinds := [], alts := [], laidByText := true, laidKinds := [.data, .listed, .data, .data], laidTests := true, laidLooks := .later }
def TopWireCardSaid : Prop := Claim7.holds Tryd.pinned (.plain (OpenSpec.ofChange topWireSpec)) topWireCard

/-- THE TIED CARD OF 'glazierlaw06.StreamFeeds'. -/
def streamFeedsCard : Claim7 := { stood := { row := streamFeedsRow, standIns := [], harness := (true, "b3c43b2d62158024e77209a9bbe207a23b9b11c8b51bdb8807d52182dffb55c2"), looks := true }, kinds := [], alts := [], laidByText := true, laidKinds := [.data, .listed, .data, .data], laidTests := true, laidLooks := .later }
def StreamFeedsCardSaid : Prop := Claim7.holds Tryd.pinned (.plain (OpenSpec.ofChange streamFeedsSpec)) streamFeedsCard

/-- THE TIED CARD OF 'glazierlaw06.StreamParts'. -/
def streamPartsCard : Claim7 := { stood := { row := streamPartsRow, standIns := [], harness := (true, "b3c43b2d62158024e77209a9bbe207a23b9b11c8b51bdb8807d52182dffb55c2"), looks := true }, kinds := [], alts := [], laidByText := true, laidKinds := [.data, .listed, .data, .data], laidTests := true, laidLooks := .later }
def StreamPartsCardSaid : Prop := Claim7.holds Tryd.pinned (.plain (OpenSpec.ofChange streamPartsSpec)) streamPartsCard

/-- THE TIED CARD OF 'glazierlaw06.StreamStays'. -/
def streamStaysCard : Claim7 := { stood := { row := streamStaysRow, standIns := [], harness := (true, "b3c43b2d62158024e77209a9bbe207a23b9b11c8b51bdb8807d52182dffb55c2"), looks := true }, kinds := [], alts := [], laidByText := true, laidKinds := [.data, .listed, .data, .data], laidTests := true, laidLooks := .later }
def StreamStaysCardSaid : Prop := Claim7.holds Tryd.pinned (.plain (OpenSpec.ofChange streamStaysSpec)) streamStaysCard

/-- THE TIED CARD OF 'glazierlaw06.StreamDies'. -/
def streamDiesCard : Claim7 := { stood := { row := streamDiesRow, standIns := [], harness := (true, "b3c43b2d62158024e77209a9bbe207a23b9b11c8b51bdb8807d52182dffb55c2"), looks := true }, kinds := [], alts := [], laidByText := true, laidKinds := [.data, .listed, .data, .data], laidTests := true, laidLooks := .later }
def StreamDiesCardSaid : Prop := Claim7.holds Tryd.pinned (.plain (OpenSpec.ofChange streamDiesSpec)) streamDiesCard

/-- THE TIED CARD OF 'glazierlaw06.StreamAsks'. -/
def streamAsksCard : Claim7 := { stood := { row := streamAsksRow, standIns := [], harness := (true, "b3c43b2d62158024e77209a9bbe207a23b9b11c8b51bdb8807d52182dffb55c2"), looks := true }, kinds := [], alts := [], laidByText := true, laidKinds := [.data, .listed, .data, .data], laidTests := true, laidLooks := .later }
def StreamAsksCardSaid : Prop := Claim7.holds Tryd.pinned (.plain (OpenSpec.ofChange streamAsksSpec)) streamAsksCard

/-- THE TIED CARD OF 'glazierlaw06.StreamWrong'. -/
def streamWrongCard : Claim7 := { stood := { row := streamWrongRow, standIns := [], harness := (true, "b3c43b2d62158024e77209a9bbe207a23b9b11c8b51bdb8807d52182dffb55c2"), looks := true }, kinds := [], alts := [], laidByText := true, laidKinds := [.data, .listed, .data, .data], laidTests := true, laidLooks := .later }
def StreamWrongCardSaid : Prop := Claim7.holds Tryd.pinned (.plain (OpenSpec.ofChange streamWrongSpec)) streamWrongCard

/-- THE SECOND FORM's CARD OF 'glaziertop.TopJunk'. -/
def topJunkUptoCard : Claim7 := { stood := { row := topJunkUptoRow, standIns := [], harness := (true, "b3c43b2d62158024e77209a9bbe207a23b9b11c8b51bdb8807d52182dffb55c2"), looks := true }, kinds := [], alts := [], laidByText := true, laidKinds := [.data, .listed, .data, .data], laidTests := true, laidLooks := .later }
def TopJunkUptoCardSaid : Prop := Claim7.holds Tryd.pinned (.plain (OpenSpec.upto topJunkSpec)) topJunkUptoCard

/-- THE SECOND FORM's CARD OF 'glazierlaw06.StreamBegins'. -/
def streamBeginsUptoCard : Claim7 := { stood := { row := streamBeginsUptoRow, standIns := [], harness := (true, "b3c43b2d62158024e77209a9bbe207a23b9b11c8b51bdb8807d52182dffb55c2"), looks := true }, kinds := [], alts := [], laidByText := true, laidKinds := [.data, .listed, .data, .data], laidTests := true, laidLooks := .later }
def StreamBeginsUptoCardSaid : Prop := Claim7.holds Tryd.pinned (.plain (OpenSpec.upto streamBeginsSpec)) streamBeginsUptoCard

/-- THE SECOND FORM's CARD OF 'glaziertop.TopWire'. -/
def topWireUptoCard : Claim7 := { stood := { row := topWireUptoRow, standIns := [], harness := (true, "b3c43b2d62158024e77209a9bbe207a23b9b11c8b51bdb8807d52182dffb55c2"), looks := true }, kinds := [], alts := [], laidByText := true, laidKinds := [.data, .listed, .data, .data], laidTests := true, laidLooks := .later }
def TopWireUptoCardSaid : Prop := Claim7.holds Tryd.pinned (.plain (OpenSpec.upto topWireSpec)) topWireUptoCard

/-- THE SECOND FORM's CARD OF 'glazierlaw06.StreamFeeds'. -/
def streamFeedsUptoCard : Claim7 := { stood := { row := streamFeedsUptoRow, standIns := [], harness := (true, "b3c43b2d62158024e77209a9bbe207a23b9b11c8b51bdb8807d52182dffb55c2"), looks := true }, kinds := [], alts := [], laidByText := true, laidKinds := [.data, .listed, .data, .data], laidTests := true, laidLooks := .later }
def StreamFeedsUptoCardSaid : Prop := Claim7.holds Tryd.pinned (.plain (OpenSpec.upto streamFeedsSpec)) streamFeedsUptoCard

/-- THE SECOND FORM's CARD OF 'glazierlaw06.StreamParts'. -/
def streamPartsUptoCard : Claim7 := { stood := { row := streamPartsUptoRow, standIns := [], harness := (true, "b3c43b2d62158024e77209a9bbe207a23b9b11c8b51bdb8807d52182dffb55c2"), looks := true }, kinds := [], alts := [], laidByText := true, laidKinds := [.data, .listed, .data, .data], laidTests := true, laidLooks := .later }
def StreamPartsUptoCardSaid : Prop := Claim7.holds Tryd.pinned (.plain (OpenSpec.upto streamPartsSpec)) streamPartsUptoCard

/-- THE SECOND FORM's CARD OF 'glazierlaw06.StreamStays'. -/
def streamStaysUptoCard : Claim7 := { stood := { row := streamStaysUptoRow, standIns := [], harness := (true, "b3c43b2d62158024e77209a9bbe207a23b9b11c8b51bdb8807d52182dffb55c2"), looks := true }, kinds := [], alts := [], laidByText := true, laidKinds := [.data, .listed, .data, .data], laidTests := true, laidLooks := .later }
def StreamStaysUptoCardSaid : Prop := Claim7.holds Tryd.pinned (.plain (OpenSpec.upto streamStaysSpec)) streamStaysUptoCard

/-- THE SECOND FORM's CARD OF 'glazierlaw06.StreamDies'. -/
def streamDiesUptoCard : Claim7 := { stood := { row := streamDiesUptoRow, standIns := [], harness := (true, "b3c43b2d62158024e77209a9bbe207a23b9b11c8b51bdb8807d52182dffb55c2"), looks := true }, kinds := [], alts := [], laidByText := true, laidKinds := [.data, .listed, .data, .data], laidTests := true, laidLooks := .later }
def StreamDiesUptoCardSaid : Prop := Claim7.holds Tryd.pinned (.plain (OpenSpec.upto streamDiesSpec)) streamDiesUptoCard

/-- THE SECOND FORM's CARD OF 'glazierlaw06.StreamAsks'. -/
def streamAsksUptoCard : Claim7 := { stood := { row := streamAsksUptoRow, standIns := [], harness := (true, "b3c43b2d62158024e77209a9bbe207a23b9b11c8b51bdb8807d52182dffb55c2"), looks := true }, kinds := [], alts := [], laidByText := true, laidKinds := [.data, .listed, .data, .data], laidTests := true, laidLooks := .later }
def StreamAsksUptoCardSaid : Prop := Claim7.holds Tryd.pinned (.plain (OpenSpec.upto streamAsksSpec)) streamAsksUptoCard

/-- THE SECOND FORM's CARD OF 'glazierlaw06.StreamWrong'. -/
def streamWrongUptoCard : Claim7 := { stood := { row := streamWrongUptoRow, standIns := [], harness := (true, "b3c43b2d62158024e77209a9bbe207a23b9b11c8b51bdb8807d52182dffb55c2"), looks := true }, kinds := [], alts := [], laidByText := true, laidKinds := [.data, .listed, .data, .data], laidTests := true, laidLooks := .later }
def StreamWrongUptoCardSaid : Prop := Claim7.holds Tryd.pinned (.plain (OpenSpec.upto streamWrongSpec)) streamWrongUptoCard
end Rows
end Go.Proofs.YtplaaagcbleflaaDoor
