/-
  No cell of these rows narrows 'for every input' (looked for: loops, veiled, ifaces, maps, wideKeys, modest, calm, conditions, laid).
  DERIVED. THE GIVEN ROWS OF THIS SEAT. 6 by the template 'for every input the law returns true; each argument reads behind the call as it read before'; 0 by the template 'total and deterministic' (their statements: YtjhkaanphpcepaaTotals.lean).
  GIVEN WITH THE SEED: the statements are not yours to turn. If you find one false, say at which input.
  Laid BY PROGRAM, IN A SANDBOX (cutbox-rows.mjs): the forced cells as the released guide's own fill.sh prints them over the translation 0495937a40777293… (all of the seat's roots in one cut). By AI agents, Wed Nov 11 2026. No macro, syntax, notation, axiom, sorry.
-/
import Derived.Test.YtjhkaanphpcepaaChecked
import GoSem.Claim
import GoSem.ClaimJoined
import GoSem.ClaimMapViews
import Derived.JoinedTies
import Derived.KernelRfl
namespace Go.Proofs.Ytjhkaanphpcepaa
/- THE CELL 'sum', in the pinned program and in every row, IS THE sha256 OF THE DUMP (.gsa) THAT YtjhkaanphpcepaaProg.lean LOADS. Nothing in Lean hashes anything: it is a label: what it is worth is what the hold of that sum in a sandbox is worth. -/
noncomputable def Try.pinned : Pinned := { name := "ytjhkaanphpcepaa", sum := "0495937a407772933b8151c812c54ad5bcb1afca777a149d82cc41f29ece3518", checked := Try.checked }
namespace Rows
def none {H : Type} : Left H := { results := [], args := [] }

/-- 'glazierlaw60.LinkPackets': WHATEVER THE INPUT: true; the input reads as it did. -/
def linkPacketsSpec : ChangeSpec := { name := "linkPackets", fn := fun _ => fun
  | [d1, d2, d3, d4] => { results := [.lit (.bool true)], args := [d1, d2, d3, d4] }
  | _ => none }
def linkPacketsRow : OpenClaim := { program := "ytjhkaanphpcepaa", sum := "0495937a407772933b8151c812c54ad5bcb1afca777a149d82cc41f29ece3518", func := "glazier/glazierlaw60.LinkPackets", spec := "linkPackets", apart := false }
def LinkPacketsSaid : Prop := linkPacketsRow.holds Try.pinned (OpenSpec.ofChange linkPacketsSpec)

/-- ITS FALSE NEIGHBOUR: 'it returns false'. Refute it at one input. -/
def linkPacketsWrong : ChangeSpec := { name := "linkPackets", fn := fun _ => fun
  | [d1, d2, d3, d4] => { results := [.lit (.bool false)], args := [d1, d2, d3, d4] }
  | _ => none }
def LinkPacketsWrongFalsely : Prop := linkPacketsRow.holds Try.pinned (OpenSpec.ofChange linkPacketsWrong)

/-- 'glazierlaw60.LinkFull': WHATEVER THE INPUT: true; the input reads as it did. -/
def linkFullSpec : ChangeSpec := { name := "linkFull", fn := fun _ => fun
  | [d1, d2] => { results := [.lit (.bool true)], args := [d1, d2] }
  | _ => none }
def linkFullRow : OpenClaim := { program := "ytjhkaanphpcepaa", sum := "0495937a407772933b8151c812c54ad5bcb1afca777a149d82cc41f29ece3518", func := "glazier/glazierlaw60.LinkFull", spec := "linkFull", apart := false }
def LinkFullSaid : Prop := linkFullRow.holds Try.pinned (OpenSpec.ofChange linkFullSpec)

/-- ITS FALSE NEIGHBOUR: 'it returns false'. Refute it at one input. -/
def linkFullWrong : ChangeSpec := { name := "linkFull", fn := fun _ => fun
  | [d1, d2] => { results := [.lit (.bool false)], args := [d1, d2] }
  | _ => none }
def LinkFullWrongFalsely : Prop := linkFullRow.holds Try.pinned (OpenSpec.ofChange linkFullWrong)

/-- 'glazierlaw60.LinkOrders': WHATEVER THE INPUT: true; the input reads as it did. -/
def linkOrdersSpec : ChangeSpec := { name := "linkOrders", fn := fun _ => fun
  | [d1, d2] => { results := [.lit (.bool true)], args := [d1, d2] }
  | _ => none }
def linkOrdersRow : OpenClaim := { program := "ytjhkaanphpcepaa", sum := "0495937a407772933b8151c812c54ad5bcb1afca777a149d82cc41f29ece3518", func := "glazier/glazierlaw60.LinkOrders", spec := "linkOrders", apart := false }
def LinkOrdersSaid : Prop := linkOrdersRow.holds Try.pinned (OpenSpec.ofChange linkOrdersSpec)

/-- ITS FALSE NEIGHBOUR: 'it returns false'. Refute it at one input. -/
def linkOrdersWrong : ChangeSpec := { name := "linkOrders", fn := fun _ => fun
  | [d1, d2] => { results := [.lit (.bool false)], args := [d1, d2] }
  | _ => none }
def LinkOrdersWrongFalsely : Prop := linkOrdersRow.holds Try.pinned (OpenSpec.ofChange linkOrdersWrong)

/-- 'glazierlaw60.LinkPlays': WHATEVER THE INPUT: true; the input reads as it did. -/
def linkPlaysSpec : ChangeSpec := { name := "linkPlays", fn := fun _ => fun
  | [d1, d2] => { results := [.lit (.bool true)], args := [d1, d2] }
  | _ => none }
def linkPlaysRow : OpenClaim := { program := "ytjhkaanphpcepaa", sum := "0495937a407772933b8151c812c54ad5bcb1afca777a149d82cc41f29ece3518", func := "glazier/glazierlaw60.LinkPlays", spec := "linkPlays", apart := false }
def LinkPlaysSaid : Prop := linkPlaysRow.holds Try.pinned (OpenSpec.ofChange linkPlaysSpec)

/-- ITS FALSE NEIGHBOUR: 'it returns false'. Refute it at one input. -/
def linkPlaysWrong : ChangeSpec := { name := "linkPlays", fn := fun _ => fun
  | [d1, d2] => { results := [.lit (.bool false)], args := [d1, d2] }
  | _ => none }
def LinkPlaysWrongFalsely : Prop := linkPlaysRow.holds Try.pinned (OpenSpec.ofChange linkPlaysWrong)

/-- 'glazierlaw60.LinkCalms': WHATEVER THE INPUT: true; the input reads as it did. -/
def linkCalmsSpec : ChangeSpec := { name := "linkCalms", fn := fun _ => fun
  | [d1, d2] => { results := [.lit (.bool true)], args := [d1, d2] }
  | _ => none }
def linkCalmsRow : OpenClaim := { program := "ytjhkaanphpcepaa", sum := "0495937a407772933b8151c812c54ad5bcb1afca777a149d82cc41f29ece3518", func := "glazier/glazierlaw60.LinkCalms", spec := "linkCalms", apart := false }
def LinkCalmsSaid : Prop := linkCalmsRow.holds Try.pinned (OpenSpec.ofChange linkCalmsSpec)

/-- ITS FALSE NEIGHBOUR: 'it returns false'. Refute it at one input. -/
def linkCalmsWrong : ChangeSpec := { name := "linkCalms", fn := fun _ => fun
  | [d1, d2] => { results := [.lit (.bool false)], args := [d1, d2] }
  | _ => none }
def LinkCalmsWrongFalsely : Prop := linkCalmsRow.holds Try.pinned (OpenSpec.ofChange linkCalmsWrong)

/-- 'glazierlaw60.LinkStays': WHATEVER THE INPUT: true; the input reads as it did. -/
def linkStaysSpec : ChangeSpec := { name := "linkStays", fn := fun _ => fun
  | [d1, d2, d3] => { results := [.lit (.bool true)], args := [d1, d2, d3] }
  | _ => none }
def linkStaysRow : OpenClaim := { program := "ytjhkaanphpcepaa", sum := "0495937a407772933b8151c812c54ad5bcb1afca777a149d82cc41f29ece3518", func := "glazier/glazierlaw60.LinkStays", spec := "linkStays", apart := false }
def LinkStaysSaid : Prop := linkStaysRow.holds Try.pinned (OpenSpec.ofChange linkStaysSpec)

/-- ITS FALSE NEIGHBOUR: 'it returns false'. Refute it at one input. -/
def linkStaysWrong : ChangeSpec := { name := "linkStays", fn := fun _ => fun
  | [d1, d2, d3] => { results := [.lit (.bool false)], args := [d1, d2, d3] }
  | _ => none }
def LinkStaysWrongFalsely : Prop := linkStaysRow.holds Try.pinned (OpenSpec.ofChange linkStaysWrong)

/- THE SECOND FORM. 'bulk': how many values and letters a reading holds, each counted each time it is reached (what is shared counts as often as it is met; a slice's spare places count too). A statement '..UptoSaid' is the law's where the arguments, and the package variables that the reading takes, are together of bulk at most 1048576: NARROWER than '..Said'. Prove '..Said' where nothing that the law and all that it calls make is longer than what came in: it says more and counts as full. Else prove '..UptoSaid'. A law counts once. -/
mutual
def uptoBulk {H : Type} : DataW H → Nat
  | .lit (.string bytes) => bytes.length + 1
  | .lit _ => 1
  | .nil => 1
  | .ptr d => uptoBulk d + 1
  | .slice elems spare => uptoBulkAll elems + uptoBulkAll spare + 1
  | .agg parts => uptoBulkAll parts + 1
  | .iface _ d => uptoBulk d + 1
  | .map entries => uptoBulkEntries entries + 1
  | .held _ => 1
def uptoBulkAll {H : Type} : List (DataW H) → Nat
  | [] => 0
  | d :: r => uptoBulk d + uptoBulkAll r
def uptoBulkEntries {H : Type} : List (Lit × DataW H) → Nat
  | [] => 0
  | x :: r => uptoBulkEntry x + uptoBulkEntries r
def uptoBulkEntry {H : Type} : Lit × DataW H → Nat
  | (.string bytes, d) => bytes.length + uptoBulk d + 1
  | (_, d) => uptoBulk d + 1
 end
def uptoSmall : (H : Type) → List (DataW H) → Bool := fun _ ds => decide (uptoBulkAll ds ≤ 1048576)
def OpenSpec.upto (s : _root_.Go.ChangeSpec) : _root_.Go.OpenSpec := { _root_.Go.OpenSpec.ofChange s with cond := some uptoSmall }

/-- 'glazierlaw60.LinkPackets', WHERE WHAT IT READS IS OF BULK AT MOST 1048576: true; the input reads as it did. -/
def linkPacketsUptoRow : OpenClaim := { program := "ytjhkaanphpcepaa", sum := "0495937a407772933b8151c812c54ad5bcb1afca777a149d82cc41f29ece3518", func := "glazier/glazierlaw60.LinkPackets", spec := "linkPackets", apart := false, narrowed := true }
def LinkPacketsUptoSaid : Prop := linkPacketsUptoRow.holds Try.pinned (OpenSpec.upto linkPacketsSpec)

/-- 'glazierlaw60.LinkFull', WHERE WHAT IT READS IS OF BULK AT MOST 1048576: true; the input reads as it did. -/
def linkFullUptoRow : OpenClaim := { program := "ytjhkaanphpcepaa", sum := "0495937a407772933b8151c812c54ad5bcb1afca777a149d82cc41f29ece3518", func := "glazier/glazierlaw60.LinkFull", spec := "linkFull", apart := false, narrowed := true }
def LinkFullUptoSaid : Prop := linkFullUptoRow.holds Try.pinned (OpenSpec.upto linkFullSpec)

/-- 'glazierlaw60.LinkOrders', WHERE WHAT IT READS IS OF BULK AT MOST 1048576: true; the input reads as it did. -/
def linkOrdersUptoRow : OpenClaim := { program := "ytjhkaanphpcepaa", sum := "0495937a407772933b8151c812c54ad5bcb1afca777a149d82cc41f29ece3518", func := "glazier/glazierlaw60.LinkOrders", spec := "linkOrders", apart := false, narrowed := true }
def LinkOrdersUptoSaid : Prop := linkOrdersUptoRow.holds Try.pinned (OpenSpec.upto linkOrdersSpec)

/-- 'glazierlaw60.LinkPlays', WHERE WHAT IT READS IS OF BULK AT MOST 1048576: true; the input reads as it did. -/
def linkPlaysUptoRow : OpenClaim := { program := "ytjhkaanphpcepaa", sum := "0495937a407772933b8151c812c54ad5bcb1afca777a149d82cc41f29ece3518", func := "glazier/glazierlaw60.LinkPlays", spec := "linkPlays", apart := false, narrowed := true }
def LinkPlaysUptoSaid : Prop := linkPlaysUptoRow.holds Try.pinned (OpenSpec.upto linkPlaysSpec)

/-- 'glazierlaw60.LinkCalms', WHERE WHAT IT READS IS OF BULK AT MOST 1048576: true; the input reads as it did. -/
def linkCalmsUptoRow : OpenClaim := { program := "ytjhkaanphpcepaa", sum := "0495937a407772933b8151c812c54ad5bcb1afca777a149d82cc41f29ece3518", func := "glazier/glazierlaw60.LinkCalms", spec := "linkCalms", apart := false, narrowed := true }
def LinkCalmsUptoSaid : Prop := linkCalmsUptoRow.holds Try.pinned (OpenSpec.upto linkCalmsSpec)

/-- 'glazierlaw60.LinkStays', WHERE WHAT IT READS IS OF BULK AT MOST 1048576: true; the input reads as it did. -/
def linkStaysUptoRow : OpenClaim := { program := "ytjhkaanphpcepaa", sum := "0495937a407772933b8151c812c54ad5bcb1afca777a149d82cc41f29ece3518", func := "glazier/glazierlaw60.LinkStays", spec := "linkStays", apart := false, narrowed := true }
def LinkStaysUptoSaid : Prop := linkStaysUptoRow.holds Try.pinned (OpenSpec.upto linkStaysSpec)

end Rows
end Go.Proofs.Ytjhkaanphpcepaa
