/-
  DERIVED. GIVEN WITH THE SEED: THE CARDS: each row of YtoemcdgebkkcoaaDoorRows.lean that lists a variable, with what it lists TIED to the program's text (the seventh form; the later family's looks); each row that meets fmt, with fmt's text TOLD by the authors' own Lean function (tested against real Go, not proved from fmt's source: count such statements apart). THE CARD IS WHAT COUNTS. Prove the row's statement (the work); the ties are given (YtoemcdgebkkcoaaDoorTie.lean); close each card by the builder's one call (the guide's Derived/Test/ToyasCard.lean, 'card_holds'). Laid BY PROGRAM, IN A SANDBOX (cutbox-door.mjs). By AI agents, Wed Nov 11 2026. No macro, syntax, notation, axiom, sorry.
-/
import Derived.Test.YtoemcdgebkkcoaaDoorRows
import GoSem.ClaimSeven
namespace Go.Proofs.YtoemcdgebkkcoaaDoor
namespace Rows

/-- THE TIED CARD OF 'glazierlaw61.ProxyNew'. -/
def proxyNewCard : Claim7 := { stood := { row := proxyNewRow, standIns := [], harness := (true, "90eb7994ffbf2a8877da7ab4bcc13cfda0a012dd9e68916e66dadf498fcb0883"), looks := false }, kinds := [], alts := [], laidByText := true, laidKinds := [.data, .listed, .data], laidTests := true, laidLooks := .later }
def ProxyNewCardSaid : Prop := Claim7.holds Tryd.pinned (.plain (OpenSpec.ofChange proxyNewSpec)) proxyNewCard

/-- THE SECOND FORM's CARD OF 'glazierlaw61.ProxyNew'. -/
def proxyNewUptoCard : Claim7 := { stood := { row := proxyNewUptoRow, standIns := [], harness := (true, "90eb7994ffbf2a8877da7ab4bcc13cfda0a012dd9e68916e66dadf498fcb0883"), looks := false }, kinds := [], alts := [], laidByText := true, laidKinds := [.data, .listed, .data], laidTests := true, laidLooks := .later }
def ProxyNewUptoCardSaid : Prop := Claim7.holds Tryd.pinned (.plain (OpenSpec.upto proxyNewSpec)) proxyNewUptoCard
end Rows
end Go.Proofs.YtoemcdgebkkcoaaDoor
