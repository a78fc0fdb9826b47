/-
  DERIVED. GIVEN WITH THE SEED: THE CARDS: each row of YtbjeagcnakdmnaaDoorRows.lean that lists a variable, with what it lists TIED to the program's text (the seventh form; the later family's looks); each row that meets fmt, with fmt's text TOLD by the authors' own Lean function (tested against real Go, not proved from fmt's source: count such statements apart). THE CARD IS WHAT COUNTS. Prove the row's statement (the work); the ties are given (YtbjeagcnakdmnaaDoorTie.lean); close each card by the builder's one call (the guide's Derived/Test/ToyasCard.lean, 'card_holds'). Laid BY PROGRAM, IN A SANDBOX (cutbox-door.mjs). By AI agents, Wed Nov 11 2026. No macro, syntax, notation, axiom, sorry.
-/
import Derived.Test.YtbjeagcnakdmnaaDoorRows
import GoSem.ClaimSeven
namespace Go.Proofs.YtbjeagcnakdmnaaDoor
namespace Rows

/-- THE TIED CARD OF 'glaziertop.TopGravity'. -/
def topGravityCard : Claim7 := { stood := { row := topGravityRow, standIns := [], harness := (true, "6857a647fca0fd5394b979f6ec48b0d21ffb90402751b194313498932d35f333"), looks := false }, kinds := [], alts := [], laidByText := true, laidKinds := [.data], laidTests := true, laidLooks := .later }
def TopGravityCardSaid : Prop := Claim7.holds Tryd.pinned (.plain (OpenSpec.ofChange topGravitySpec)) topGravityCard

/-- THE SECOND FORM's CARD OF 'glaziertop.TopGravity'. -/
def topGravityUptoCard : Claim7 := { stood := { row := topGravityUptoRow, standIns := [], harness := (true, "6857a647fca0fd5394b979f6ec48b0d21ffb90402751b194313498932d35f333"), looks := false }, kinds := [], alts := [], laidByText := true, laidKinds := [.data], laidTests := true, laidLooks := .later }
def TopGravityUptoCardSaid : Prop := Claim7.holds Tryd.pinned (.plain (OpenSpec.upto topGravitySpec)) topGravityUptoCard
end Rows
end Go.Proofs.YtbjeagcnakdmnaaDoor
