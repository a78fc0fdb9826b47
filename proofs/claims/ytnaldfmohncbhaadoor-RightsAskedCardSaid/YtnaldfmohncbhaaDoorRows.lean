/-
  NARROWER THAN 'FOR EVERY INPUT', by the rows' own cells (each row's printed sentence says how): RightsFacts: laid · RightsAlone: laid · RightsTable: laid · RightsMore: laid · RightsAsked: laid · RightsNeeds: laid.
  DERIVED. THE GIVEN ROWS OF THIS SEAT. 6 by the template 'for every input the law returns true; each argument reads behind the call as it read before'; 0 by the template 'total and deterministic' (their statements: YtnaldfmohncbhaaDoorTotals.lean).
  GIVEN WITH THE SEED: the statements are not yours to turn. If you find one false, say at which input.
  Laid BY PROGRAM, IN A SANDBOX (cutbox-rows.mjs): the forced cells as the released guide's own fill.sh prints them over the translation 9c904f1c36677e70… (all of the seat's roots in one cut). By AI agents, Wed Nov 11 2026. No macro, syntax, notation, axiom, sorry.
-/
import Derived.Test.YtnaldfmohncbhaaDoorChecked
import GoSem.Claim
import GoSem.ClaimJoined
import GoSem.ClaimMapViews
import Derived.JoinedTies
import Derived.KernelRfl
namespace Go.Proofs.YtnaldfmohncbhaaDoor
/- THE CELL 'sum', in the pinned program and in every row, IS THE sha256 OF THE DUMP (.gsa) THAT YtnaldfmohncbhaaDoorProg.lean LOADS. Nothing in Lean hashes anything: it is a label: what it is worth is what the hold of that sum in a sandbox is worth. -/
noncomputable def Tryd.pinned : Pinned := { name := "ytnaldfmohncbhaadoor", sum := "9c904f1c36677e7059fc0ad1ec450ff7e1bf8638d2a31b7363e0f2574080111c", checked := Tryd.checked }
namespace Rows
def none {H : Type} : Left H := { results := [], args := [] }

/- WHAT THE LISTED PACKAGE-LEVEL VARIABLES READ AS WHEN THE CALL BEGINS. Each datum BY PROGRAM (the guide's laid-datum.mjs) off the statement by which the dump's own 'gosem.cut.vars' lays the variable. In a bare row this is a premise. The card (YtnaldfmohncbhaaDoorCards.lean) ties it to the program's text. -/
def laid_glazier_rights_rules {H : Type} : DataW H := .agg [.lit (.int .u8 5), .lit (.int .u8 3), .lit (.int .u8 2), .lit (.int .u8 4), .lit (.int .u8 4), .lit (.int .u8 4), .lit (.int .u8 4), .lit (.int .u8 2), .lit (.int .u8 2), .lit (.int .u8 1), .lit (.int .u8 1), .lit (.int .u8 1), .lit (.int .u8 1), .lit (.int .u8 6), .lit (.int .u8 6), .lit (.int .u8 6), .lit (.int .u8 6), .lit (.int .u8 1), .lit (.int .u8 1), .lit (.int .u8 1), .lit (.int .u8 1), .lit (.int .u8 1), .lit (.int .u8 1), .lit (.int .u8 1), .lit (.int .u8 1), .lit (.int .u8 1), .lit (.int .u8 2), .lit (.int .u8 2), .lit (.int .u8 2), .lit (.int .u8 2), .lit (.int .u8 2), .lit (.int .u8 2), .lit (.int .u8 2), .lit (.int .u8 2), .lit (.int .u8 2), .lit (.int .u8 2), .lit (.int .u8 2), .lit (.int .u8 4), .lit (.int .u8 1), .lit (.int .u8 4), .lit (.int .u8 1), .lit (.int .u8 4), .lit (.int .u8 1), .lit (.int .u8 4), .lit (.int .u8 1), .lit (.int .u8 4), .lit (.int .u8 1), .lit (.int .u8 1), .lit (.int .u8 1), .lit (.int .u8 4), .lit (.int .u8 2), .lit (.int .u8 1), .lit (.int .u8 2), .lit (.int .u8 6), .lit (.int .u8 7), .lit (.int .u8 7), .lit (.int .u8 8), .lit (.int .u8 1), .lit (.int .u8 1)]
def laid_unicode_White_Space {H : Type} : DataW H := .ptr (.agg [.slice [.agg [.lit (.int .u16 9), .lit (.int .u16 13), .lit (.int .u16 1)], .agg [.lit (.int .u16 32), .lit (.int .u16 133), .lit (.int .u16 101)], .agg [.lit (.int .u16 160), .lit (.int .u16 5760), .lit (.int .u16 5600)], .agg [.lit (.int .u16 8192), .lit (.int .u16 8202), .lit (.int .u16 1)], .agg [.lit (.int .u16 8232), .lit (.int .u16 8233), .lit (.int .u16 1)], .agg [.lit (.int .u16 8239), .lit (.int .u16 8287), .lit (.int .u16 48)], .agg [.lit (.int .u16 12288), .lit (.int .u16 12288), .lit (.int .u16 1)]] [], .nil, .lit (.int .i64 2)])
def laid_strings_asciiSpace {H : Type} : DataW H := .agg [.lit (.int .u8 0), .lit (.int .u8 0), .lit (.int .u8 0), .lit (.int .u8 0), .lit (.int .u8 0), .lit (.int .u8 0), .lit (.int .u8 0), .lit (.int .u8 0), .lit (.int .u8 0), .lit (.int .u8 1), .lit (.int .u8 1), .lit (.int .u8 1), .lit (.int .u8 1), .lit (.int .u8 1), .lit (.int .u8 0), .lit (.int .u8 0), .lit (.int .u8 0), .lit (.int .u8 0), .lit (.int .u8 0), .lit (.int .u8 0), .lit (.int .u8 0), .lit (.int .u8 0), .lit (.int .u8 0), .lit (.int .u8 0), .lit (.int .u8 0), .lit (.int .u8 0), .lit (.int .u8 0), .lit (.int .u8 0), .lit (.int .u8 0), .lit (.int .u8 0), .lit (.int .u8 0), .lit (.int .u8 0), .lit (.int .u8 1), .lit (.int .u8 0), .lit (.int .u8 0), .lit (.int .u8 0), .lit (.int .u8 0), .lit (.int .u8 0), .lit (.int .u8 0), .lit (.int .u8 0), .lit (.int .u8 0), .lit (.int .u8 0), .lit (.int .u8 0), .lit (.int .u8 0), .lit (.int .u8 0), .lit (.int .u8 0), .lit (.int .u8 0), .lit (.int .u8 0), .lit (.int .u8 0), .lit (.int .u8 0), .lit (.int .u8 0), .lit (.int .u8 0), .lit (.int .u8 0), .lit (.int .u8 0), .lit (.int .u8 0), .lit (.int .u8 0), .lit (.int .u8 0), .lit (.int .u8 0), .lit (.int .u8 0), .lit (.int .u8 0), .lit (.int .u8 0), .lit (.int .u8 0), .lit (.int .u8 0), .lit (.int .u8 0), .lit (.int .u8 0), .lit (.int .u8 0), .lit (.int .u8 0), .lit (.int .u8 0), .lit (.int .u8 0), .lit (.int .u8 0), .lit (.int .u8 0), .lit (.int .u8 0), .lit (.int .u8 0), .lit (.int .u8 0), .lit (.int .u8 0), .lit (.int .u8 0), .lit (.int .u8 0), .lit (.int .u8 0), .lit (.int .u8 0), .lit (.int .u8 0), .lit (.int .u8 0), .lit (.int .u8 0), .lit (.int .u8 0), .lit (.int .u8 0), .lit (.int .u8 0), .lit (.int .u8 0), .lit (.int .u8 0), .lit (.int .u8 0), .lit (.int .u8 0), .lit (.int .u8 0), .lit (.int .u8 0), .lit (.int .u8 0), .lit (.int .u8 0), .lit (.int .u8 0), .lit (.int .u8 0), .lit (.int .u8 0), .lit (.int .u8 0), .lit (.int .u8 0), .lit (.int .u8 0), .lit (.int .u8 0), .lit (.int .u8 0), .lit (.int .u8 0), .lit (.int .u8 0), .lit (.int .u8 0), .lit (.int .u8 0), .lit (.int .u8 0), .lit (.int .u8 0), .lit (.int .u8 0), .lit (.int .u8 0), .lit (.int .u8 0), .lit (.int .u8 0), .lit (.int .u8 0), .lit (.int .u8 0), .lit (.int .u8 0), .lit (.int .u8 0), .lit (.int .u8 0), .lit (.int .u8 0), .lit (.int .u8 0), .lit (.int .u8 0), .lit (.int .u8 0), .lit (.int .u8 0), .lit (.int .u8 0), .lit (.int .u8 0), .lit (.int .u8 0), .lit (.int .u8 0), .lit (.int .u8 0), .lit (.int .u8 0), .lit (.int .u8 0), .lit (.int .u8 0), .lit (.int .u8 0), .lit (.int .u8 0), .lit (.int .u8 0), .lit (.int .u8 0), .lit (.int .u8 0), .lit (.int .u8 0), .lit (.int .u8 0), .lit (.int .u8 0), .lit (.int .u8 0), .lit (.int .u8 0), .lit (.int .u8 0), .lit (.int .u8 0), .lit (.int .u8 0), .lit (.int .u8 0), .lit (.int .u8 0), .lit (.int .u8 0), .lit (.int .u8 0), .lit (.int .u8 0), .lit (.int .u8 0), .lit (.int .u8 0), .lit (.int .u8 0), .lit (.int .u8 0), .lit (.int .u8 0), .lit (.int .u8 0), .lit (.int .u8 0), .lit (.int .u8 0), .lit (.int .u8 0), .lit (.int .u8 0), .lit (.int .u8 0), .lit (.int .u8 0), .lit (.int .u8 0), .lit (.int .u8 0), .lit (.int .u8 0), .lit (.int .u8 0), .lit (.int .u8 0), .lit (.int .u8 0), .lit (.int .u8 0), .lit (.int .u8 0), .lit (.int .u8 0), .lit (.int .u8 0), .lit (.int .u8 0), .lit (.int .u8 0), .lit (.int .u8 0), .lit (.int .u8 0), .lit (.int .u8 0), .lit (.int .u8 0), .lit (.int .u8 0), .lit (.int .u8 0), .lit (.int .u8 0), .lit (.int .u8 0), .lit (.int .u8 0), .lit (.int .u8 0), .lit (.int .u8 0), .lit (.int .u8 0), .lit (.int .u8 0), .lit (.int .u8 0), .lit (.int .u8 0), .lit (.int .u8 0), .lit (.int .u8 0), .lit (.int .u8 0), .lit (.int .u8 0), .lit (.int .u8 0), .lit (.int .u8 0), .lit (.int .u8 0), .lit (.int .u8 0), .lit (.int .u8 0), .lit (.int .u8 0), .lit (.int .u8 0), .lit (.int .u8 0), .lit (.int .u8 0), .lit (.int .u8 0), .lit (.int .u8 0), .lit (.int .u8 0), .lit (.int .u8 0), .lit (.int .u8 0), .lit (.int .u8 0), .lit (.int .u8 0), .lit (.int .u8 0), .lit (.int .u8 0), .lit (.int .u8 0), .lit (.int .u8 0), .lit (.int .u8 0), .lit (.int .u8 0), .lit (.int .u8 0), .lit (.int .u8 0), .lit (.int .u8 0), .lit (.int .u8 0), .lit (.int .u8 0), .lit (.int .u8 0), .lit (.int .u8 0), .lit (.int .u8 0), .lit (.int .u8 0), .lit (.int .u8 0), .lit (.int .u8 0), .lit (.int .u8 0), .lit (.int .u8 0), .lit (.int .u8 0), .lit (.int .u8 0), .lit (.int .u8 0), .lit (.int .u8 0), .lit (.int .u8 0), .lit (.int .u8 0), .lit (.int .u8 0), .lit (.int .u8 0), .lit (.int .u8 0), .lit (.int .u8 0), .lit (.int .u8 0), .lit (.int .u8 0), .lit (.int .u8 0), .lit (.int .u8 0), .lit (.int .u8 0), .lit (.int .u8 0), .lit (.int .u8 0), .lit (.int .u8 0), .lit (.int .u8 0), .lit (.int .u8 0), .lit (.int .u8 0), .lit (.int .u8 0), .lit (.int .u8 0), .lit (.int .u8 0), .lit (.int .u8 0), .lit (.int .u8 0), .lit (.int .u8 0), .lit (.int .u8 0), .lit (.int .u8 0), .lit (.int .u8 0), .lit (.int .u8 0)]

/-- 'glazierlaw44.RightsFacts': WHATEVER THE INPUT: true; the input reads as it did. -/
def rightsFactsSpec : ChangeSpec := { name := "rightsFacts", fn := fun _ => fun
  | [d1, d2, d3, d4, d5] => { results := [.lit (.bool true)], args := [d1, d2, d3, d4, d5] }
  | _ => none }
def rightsFactsRow : OpenClaim := { program := "ytnaldfmohncbhaadoor", sum := "9c904f1c36677e7059fc0ad1ec450ff7e1bf8638d2a31b7363e0f2574080111c", func := "glazier/glazierlaw44.RightsFacts", spec := "rightsFacts", unfollowed := true, recurses := true, named := ["glazier/rights.rules"], plainKeys := false, apart := false, laid := [("glazier/rights.rules", laid_glazier_rights_rules)] }
def RightsFactsSaid : Prop := rightsFactsRow.holds Tryd.pinned (OpenSpec.ofChange rightsFactsSpec)

/-- ITS FALSE NEIGHBOUR: 'it returns false'. Refute it at one input. -/
def rightsFactsWrong : ChangeSpec := { name := "rightsFacts", fn := fun _ => fun
  | [d1, d2, d3, d4, d5] => { results := [.lit (.bool false)], args := [d1, d2, d3, d4, d5] }
  | _ => none }
def RightsFactsWrongFalsely : Prop := rightsFactsRow.holds Tryd.pinned (OpenSpec.ofChange rightsFactsWrong)

/-- 'glazierlaw44.RightsAlone': WHATEVER THE INPUT: true; the input reads as it did. -/
def rightsAloneSpec : ChangeSpec := { name := "rightsAlone", fn := fun _ => fun
  | [d1, d2, d3] => { results := [.lit (.bool true)], args := [d1, d2, d3] }
  | _ => none }
def rightsAloneRow : OpenClaim := { program := "ytnaldfmohncbhaadoor", sum := "9c904f1c36677e7059fc0ad1ec450ff7e1bf8638d2a31b7363e0f2574080111c", func := "glazier/glazierlaw44.RightsAlone", spec := "rightsAlone", unfollowed := true, recurses := true, named := ["glazier/rights.rules"], plainKeys := false, apart := false, laid := [("glazier/rights.rules", laid_glazier_rights_rules)] }
def RightsAloneSaid : Prop := rightsAloneRow.holds Tryd.pinned (OpenSpec.ofChange rightsAloneSpec)

/-- ITS FALSE NEIGHBOUR: 'it returns false'. Refute it at one input. -/
def rightsAloneWrong : ChangeSpec := { name := "rightsAlone", fn := fun _ => fun
  | [d1, d2, d3] => { results := [.lit (.bool false)], args := [d1, d2, d3] }
  | _ => none }
def RightsAloneWrongFalsely : Prop := rightsAloneRow.holds Tryd.pinned (OpenSpec.ofChange rightsAloneWrong)

/-- 'glazierlaw44.RightsTable': WHATEVER THE INPUT: true; the input reads as it did. -/
def rightsTableSpec : ChangeSpec := { name := "rightsTable", fn := fun _ => fun
  | [d1, d2] => { results := [.lit (.bool true)], args := [d1, d2] }
  | _ => none }
def rightsTableRow : OpenClaim := { program := "ytnaldfmohncbhaadoor", sum := "9c904f1c36677e7059fc0ad1ec450ff7e1bf8638d2a31b7363e0f2574080111c", func := "glazier/glazierlaw44.RightsTable", spec := "rightsTable", unfollowed := true, recurses := true, named := ["glazier/rights.rules"], plainKeys := false, apart := false, laid := [("glazier/rights.rules", laid_glazier_rights_rules)] }
def RightsTableSaid : Prop := rightsTableRow.holds Tryd.pinned (OpenSpec.ofChange rightsTableSpec)

/-- ITS FALSE NEIGHBOUR: 'it returns false'. Refute it at one input. -/
def rightsTableWrong : ChangeSpec := { name := "rightsTable", fn := fun _ => fun
  | [d1, d2] => { results := [.lit (.bool false)], args := [d1, d2] }
  | _ => none }
def RightsTableWrongFalsely : Prop := rightsTableRow.holds Tryd.pinned (OpenSpec.ofChange rightsTableWrong)

/-- 'glazierlaw44.RightsMore': WHATEVER THE INPUT: true; the input reads as it did. -/
def rightsMoreSpec : ChangeSpec := { name := "rightsMore", fn := fun _ => fun
  | [d1, d2, d3] => { results := [.lit (.bool true)], args := [d1, d2, d3] }
  | _ => none }
def rightsMoreRow : OpenClaim := { program := "ytnaldfmohncbhaadoor", sum := "9c904f1c36677e7059fc0ad1ec450ff7e1bf8638d2a31b7363e0f2574080111c", func := "glazier/glazierlaw44.RightsMore", spec := "rightsMore", unfollowed := true, recurses := true, named := ["glazier/rights.rules"], plainKeys := false, apart := false, laid := [("glazier/rights.rules", laid_glazier_rights_rules)] }
def RightsMoreSaid : Prop := rightsMoreRow.holds Tryd.pinned (OpenSpec.ofChange rightsMoreSpec)

/-- ITS FALSE NEIGHBOUR: 'it returns false'. Refute it at one input. -/
def rightsMoreWrong : ChangeSpec := { name := "rightsMore", fn := fun _ => fun
  | [d1, d2, d3] => { results := [.lit (.bool false)], args := [d1, d2, d3] }
  | _ => none }
def RightsMoreWrongFalsely : Prop := rightsMoreRow.holds Tryd.pinned (OpenSpec.ofChange rightsMoreWrong)

/-- 'glazierlaw44.RightsAsked': WHATEVER THE INPUT: true; the input reads as it did. -/
def rightsAskedSpec : ChangeSpec := { name := "rightsAsked", fn := fun _ => fun
  | [d1, d2, d3, d4] => { results := [.lit (.bool true)], args := [d1, d2, d3, d4] }
  | _ => none }
def rightsAskedRow : OpenClaim := { program := "ytnaldfmohncbhaadoor", sum := "9c904f1c36677e7059fc0ad1ec450ff7e1bf8638d2a31b7363e0f2574080111c", func := "glazier/glazierlaw44.RightsAsked", spec := "rightsAsked", unfollowed := true, recurses := true, named := ["glazier/rights.rules"], plainKeys := false, apart := false, laid := [("glazier/rights.rules", laid_glazier_rights_rules)] }
def RightsAskedSaid : Prop := rightsAskedRow.holds Tryd.pinned (OpenSpec.ofChange rightsAskedSpec)

/-- ITS FALSE NEIGHBOUR: 'it returns false'. Refute it at one input. -/
def rightsAskedWrong : ChangeSpec := { name := "rightsAsked", fn := fun _ => fun
  | [d1, d2, d3, d4] => { results := [.lit (.bool false)], args := [d1, d2, d3, d4] }
  | _ => none }
def RightsAskedWrongFalsely : Prop := rightsAskedRow.holds Tryd.pinned (OpenSpec.ofChange rightsAskedWrong)

/-- 'glazierlaw44.RightsNeeds': WHATEVER THE INPUT: true; the input reads as it did. -/
def rightsNeedsSpec : ChangeSpec := { name := "rightsNeeds", fn := fun _ => fun
  | [d] => { results := [.lit (.bool true)], args := [d] }
  | _ => none }
def rightsNeedsRow : OpenClaim := { program := "ytnaldfmohncbhaadoor", sum := "9c904f1c36677e7059fc0ad1ec450ff7e1bf8638d2a31b7363e0f2574080111c", func := "glazier/glazierlaw44.RightsNeeds", spec := "rightsNeeds", inPlace := ["internal/bytealg.IndexByteString", "internal/bytealg.IndexString"], unfollowed := true, recurses := true, named := ["glazier/rights.rules", "strings.asciiSpace", "unicode.White_Space", "internal/bytealg.MaxLen"], plainKeys := false, apart := false, laid := [("glazier/rights.rules", laid_glazier_rights_rules), ("unicode.White_Space", laid_unicode_White_Space), ("strings.asciiSpace", laid_strings_asciiSpace)] }
def RightsNeedsSaid : Prop := rightsNeedsRow.holds Tryd.pinned (OpenSpec.ofChange rightsNeedsSpec)

/-- ITS FALSE NEIGHBOUR: 'it returns false'. Refute it at one input. -/
def rightsNeedsWrong : ChangeSpec := { name := "rightsNeeds", fn := fun _ => fun
  | [d] => { results := [.lit (.bool false)], args := [d] }
  | _ => none }
def RightsNeedsWrongFalsely : Prop := rightsNeedsRow.holds Tryd.pinned (OpenSpec.ofChange rightsNeedsWrong)

/- THE SECOND FORM. 'bulk': how many values and letters a reading holds, each counted each time it is reached (what is shared counts as often as it is met; a slice's spare places count too). A statement '..UptoSaid' is the law's where the arguments, and the package variables that the reading takes, are together of bulk at most 1048576: NARROWER than '..Said'. Prove '..Said' where nothing that the law and all that it calls make is longer than what came in: it says more and counts as full. Else prove '..UptoSaid'. A law counts once. -/
mutual
def uptoBulk {H : Type} : DataW H → Nat
  | .lit (.string bytes) => bytes.length + 1
  | .lit _ => 1
  | .nil => 1
  | .ptr d => uptoBulk d + 1
  | .slice elems spare => uptoBulkAll elems + uptoBulkAll spare + 1
  | .agg parts => uptoBulkAll parts + 1
  | .iface _ d => uptoBulk d + 1
  | .map entries => uptoBulkEntries entries + 1
  | .held _ => 1
def uptoBulkAll {H : Type} : List (DataW H) → Nat
  | [] => 0
  | d :: r => uptoBulk d + uptoBulkAll r
def uptoBulkEntries {H : Type} : List (Lit × DataW H) → Nat
  | [] => 0
  | x :: r => uptoBulkEntry x + uptoBulkEntries r
def uptoBulkEntry {H : Type} : Lit × DataW H → Nat
  | (.string bytes, d) => bytes.length + uptoBulk d + 1
  | (_, d) => uptoBulk d + 1
 end
def uptoSmall : (H : Type) → List (DataW H) → Bool := fun _ ds => decide (uptoBulkAll ds ≤ 1048576)
def OpenSpec.upto (s : _root_.Go.ChangeSpec) : _root_.Go.OpenSpec := { _root_.Go.OpenSpec.ofChange s with cond := some uptoSmall }

/-- 'glazierlaw44.RightsFacts', WHERE WHAT IT READS IS OF BULK AT MOST 1048576: true; the input reads as it did. -/
def rightsFactsUptoRow : OpenClaim := { program := "ytnaldfmohncbhaadoor", sum := "9c904f1c36677e7059fc0ad1ec450ff7e1bf8638d2a31b7363e0f2574080111c", func := "glazier/glazierlaw44.RightsFacts", spec := "rightsFacts", unfollowed := true, recurses := true, named := ["glazier/rights.rules"], plainKeys := false, apart := false, laid := [("glazier/rights.rules", laid_glazier_rights_rules)], narrowed := true }
def RightsFactsUptoSaid : Prop := rightsFactsUptoRow.holds Tryd.pinned (OpenSpec.upto rightsFactsSpec)

/-- 'glazierlaw44.RightsAlone', WHERE WHAT IT READS IS OF BULK AT MOST 1048576: true; the input reads as it did. -/
def rightsAloneUptoRow : OpenClaim := { program := "ytnaldfmohncbhaadoor", sum := "9c904f1c36677e7059fc0ad1ec450ff7e1bf8638d2a31b7363e0f2574080111c", func := "glazier/glazierlaw44.RightsAlone", spec := "rightsAlone", unfollowed := true, recurses := true, named := ["glazier/rights.rules"], plainKeys := false, apart := false, laid := [("glazier/rights.rules", laid_glazier_rights_rules)], narrowed := true }
def RightsAloneUptoSaid : Prop := rightsAloneUptoRow.holds Tryd.pinned (OpenSpec.upto rightsAloneSpec)

/-- 'glazierlaw44.RightsTable', WHERE WHAT IT READS IS OF BULK AT MOST 1048576: true; the input reads as it did. -/
def rightsTableUptoRow : OpenClaim := { program := "ytnaldfmohncbhaadoor", sum := "9c904f1c36677e7059fc0ad1ec450ff7e1bf8638d2a31b7363e0f2574080111c", func := "glazier/glazierlaw44.RightsTable", spec := "rightsTable", unfollowed := true, recurses := true, named := ["glazier/rights.rules"], plainKeys := false, apart := false, laid := [("glazier/rights.rules", laid_glazier_rights_rules)], narrowed := true }
def RightsTableUptoSaid : Prop := rightsTableUptoRow.holds Tryd.pinned (OpenSpec.upto rightsTableSpec)

/-- 'glazierlaw44.RightsMore', WHERE WHAT IT READS IS OF BULK AT MOST 1048576: true; the input reads as it did. -/
def rightsMoreUptoRow : OpenClaim := { program := "ytnaldfmohncbhaadoor", sum := "9c904f1c36677e7059fc0ad1ec450ff7e1bf8638d2a31b7363e0f2574080111c", func := "glazier/glazierlaw44.RightsMore", spec := "rightsMore", unfollowed := true, recurses := true, named := ["glazier/rights.rules"], plainKeys := false, apart := false, laid := [("glazier/rights.rules", laid_glazier_rights_rules)], narrowed := true }
def RightsMoreUptoSaid : Prop := rightsMoreUptoRow.holds Tryd.pinned (OpenSpec.upto rightsMoreSpec)

/-- 'glazierlaw44.RightsAsked', WHERE WHAT IT READS IS OF BULK AT MOST 1048576: true; the input reads as it did. -/
def rightsAskedUptoRow : OpenClaim := { program := "ytnaldfmohncbhaadoor", sum := "9c904f1c36677e7059fc0ad1ec450ff7e1bf8638d2a31b7363e0f2574080111c", func := "glazier/glazierlaw44.RightsAsked", spec := "rightsAsked", unfollowed := true, recurses := true, named := ["glazier/rights.rules"], plainKeys := false, apart := false, laid := [("glazier/rights.rules", laid_glazier_rights_rules)], narrowed := true }
def RightsAskedUptoSaid : Prop := rightsAskedUptoRow.holds Tryd.pinned (OpenSpec.upto rightsAskedSpec)

/-- 'glazierlaw44.RightsNeeds', WHERE WHAT IT READS IS OF BULK AT MOST 1048576: true; the input reads as it did. -/
def rightsNeedsUptoRow : OpenClaim := { program := "ytnaldfmohncbhaadoor", sum := "9c904f1c36677e7059fc0ad1ec450ff7e1bf8638d2a31b7363e0f2574080111c", func := "glazier/glazierlaw44.RightsNeeds", spec := "rightsNeeds", inPlace := ["internal/bytealg.IndexByteString", "internal/bytealg.IndexString"], unfollowed := true, recurses := true, named := ["glazier/rights.rules", "strings.asciiSpace", "unicode.White_Space", "internal/bytealg.MaxLen"], plainKeys := false, apart := false, laid := [("glazier/rights.rules", laid_glazier_rights_rules), ("unicode.White_Space", laid_unicode_White_Space), ("strings.asciiSpace", laid_strings_asciiSpace)], narrowed := true }
def RightsNeedsUptoSaid : Prop := rightsNeedsUptoRow.holds Tryd.pinned (OpenSpec.upto rightsNeedsSpec)

end Rows
end Go.Proofs.YtnaldfmohncbhaaDoor
