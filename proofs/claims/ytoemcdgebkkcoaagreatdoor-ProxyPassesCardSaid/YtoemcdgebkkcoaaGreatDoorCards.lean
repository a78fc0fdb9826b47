/-
  DERIVED. GIVEN WITH THE SEED: THE CARDS: each row of YtoemcdgebkkcoaaGreatDoorRows.lean that lists a variable, with what it lists TIED to the program's text (the seventh form; the later family's looks); each row that meets fmt, with fmt's text TOLD by the authors' own Lean function (tested against real Go, not proved from fmt's source: count such statements apart). THE CARD IS WHAT COUNTS. Prove the row's statement (the work); the ties are given (YtoemcdgebkkcoaaGreatDoorTie.lean); close each card by the builder's one call (the guide's Derived/Test/ToyasCard.lean, 'card_holds'). Laid BY PROGRAM, IN A SANDBOX (cutbox-door.mjs). By AI agents, Wed Nov 11 2026. No macro, syntax, notation, axiom, sorry.
-/
import Derived.Test.YtoemcdgebkkcoaaGreatDoorRows
import GoSem.ClaimSeven
namespace Go.Proofs.YtoemcdgebkkcoaaGreatDoor
namespace Rows

/-- THE TIED CARD OF 'glazierlaw61.ProxyParts'. -/
def proxyPartsCard : Claim7 := { stood := { row := proxyPartsRow, standIns := [], harness := (true, "96bdd31037fbb8da275680d09ec0d880733ff5197ed64ebcd1203fbb20af3386"), looks := false }, kinds := [], alts := [], laidByText := true, laidKinds := [.data, .listed, .data, .data], laidTests := true, laidLooks := .later }
def ProxyPartsCardSaid : Prop := Claim7.holds Tryz.pinned (.plain (OpenSpec.ofChange proxyPartsSpec)) proxyPartsCard

/-- THE TIED CARD OF 'glazierlaw61.ProxyDies'. -/
def proxyDiesCard : Claim7 := { stood := { row := proxyDiesRow, standIns := [], harness := (true, "96bdd31037fbb8da275680d09ec0d880733ff5197ed64ebcd1203fbb20af3386"), looks := false }, kinds := [], alts := [], laidByText := true, laidKinds := [.data, .listed, .data, .data], laidTests := true, laidLooks := .later }
def ProxyDiesCardSaid : Prop := Claim7.holds Tryz.pinned (.plain (OpenSpec.ofChange proxyDiesSpec)) proxyDiesCard

/-- THE TIED CARD OF 'glazierlaw61.ProxySends'. -/
def proxySendsCard : Claim7 := { stood := { row := proxySendsRow, standIns := [], harness := (true, "96bdd31037fbb8da275680d09ec0d880733ff5197ed64ebcd1203fbb20af3386"), looks := false }, kinds := [], alts := [], laidByText := true, laidKinds := [.data, .listed, .data, .data], laidTests := true, laidLooks := .later }
def ProxySendsCardSaid : Prop := Claim7.holds Tryz.pinned (.plain (OpenSpec.ofChange proxySendsSpec)) proxySendsCard

/-- THE TIED CARD OF 'glazierlaw61.ProxyPasses'. -/
def proxyPassesCard : Claim7 := { stood := { row := proxyPassesRow, standIns := [], harness := (true, "96bdd31037fbb8da275680d09ec0d880733ff5197ed64ebcd1203fbb20af3386"), looks := false }, kinds := [], alts := [], laidByText := true, laidKinds := [.data, .listed, .data, .data], laidTests := true, laidLooks := .later }
def ProxyPassesCardSaid : Prop := Claim7.holds Tryz.pinned (.plain (OpenSpec.ofChange proxyPassesSpec)) proxyPassesCard

/-- THE SECOND FORM's CARD OF 'glazierlaw61.ProxyParts'. -/
def proxyPartsUptoCard : Claim7 := { stood := { row := proxyPartsUptoRow, standIns := [], harness := (true, "96bdd31037fbb8da275680d09ec0d880733ff5197ed64ebcd1203fbb20af3386"), looks := false }, kinds := [], alts := [], laidByText := true, laidKinds := [.data, .listed, .data, .data], laidTests := true, laidLooks := .later }
def ProxyPartsUptoCardSaid : Prop := Claim7.holds Tryz.pinned (.plain (OpenSpec.upto proxyPartsSpec)) proxyPartsUptoCard

/-- THE SECOND FORM's CARD OF 'glazierlaw61.ProxyDies'. -/
def proxyDiesUptoCard : Claim7 := { stood := { row := proxyDiesUptoRow, standIns := [], harness := (true, "96bdd31037fbb8da275680d09ec0d880733ff5197ed64ebcd1203fbb20af3386"), looks := false }, kinds := [], alts := [], laidByText := true, laidKinds := [.data, .listed, .data, .data], laidTests := true, laidLooks := .later }
def ProxyDiesUptoCardSaid : Prop := Claim7.holds Tryz.pinned (.plain (OpenSpec.upto proxyDiesSpec)) proxyDiesUptoCard

/-- THE SECOND FORM's CARD OF 'glazierlaw61.ProxySends'. -/
def proxySendsUptoCard : Claim7 := { stood := { row := proxySendsUptoRow, standIns := [], harness := (true, "96bdd31037fbb8da275680d09ec0d880733ff5197ed64ebcd1203fbb20af3386"), looks := false }, kinds := [], alts := [], laidByText := true, laidKinds := [.data, .listed, .data, .data], laidTests := true, laidLooks := .later }
def ProxySendsUptoCardSaid : Prop := Claim7.holds Tryz.pinned (.plain (OpenSpec.upto proxySendsSpec)) proxySendsUptoCard

/-- THE SECOND FORM's CARD OF 'glazierlaw61.ProxyPasses'. -/
def proxyPassesUptoCard : Claim7 := { stood := { row := proxyPassesUptoRow, standIns := [], harness := (true, "96bdd31037fbb8da275680d09ec0d880733ff5197ed64ebcd1203fbb20af3386"), looks := false }, kinds := [], alts := [], laidByText := true, laidKinds := [.data, .listed, .data, .data], laidTests := true, laidLooks := .later }
def ProxyPassesUptoCardSaid : Prop := Claim7.holds Tryz.pinned (.plain (OpenSpec.upto proxyPassesSpec)) proxyPassesUptoCard
end Rows
end Go.Proofs.YtoemcdgebkkcoaaGreatDoor
