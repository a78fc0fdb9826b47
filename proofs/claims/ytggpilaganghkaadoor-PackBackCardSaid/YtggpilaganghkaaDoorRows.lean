/-
  NARROWER THAN 'FOR EVERY INPUT', by the rows' own cells (each row's printed sentence says how): PackLong: laid · PackPuts: laid · PackSame: laid · PackCuts: laid · PackGets: laid · PackBack: laid.
  DERIVED. THE GIVEN ROWS OF THIS SEAT. 6 by the template 'for every input the law returns true; each argument reads behind the call as it read before'; 0 by the template 'total and deterministic' (their statements: YtggpilaganghkaaDoorTotals.lean).
  GIVEN WITH THE SEED: the statements are not yours to turn. If you find one false, say at which input.
  Laid BY PROGRAM, IN A SANDBOX (cutbox-rows.mjs): the forced cells as the released guide's own fill.sh prints them over the translation 6027249604abbfc4… (all of the seat's roots in one cut). By AI agents, Wed Nov 11 2026. No macro, syntax, notation, axiom, sorry.
-/
import Derived.Test.YtggpilaganghkaaDoorChecked
import GoSem.Claim
import GoSem.ClaimJoined
import GoSem.ClaimMapViews
import Derived.JoinedTies
import Derived.KernelRfl
namespace Go.Proofs.YtggpilaganghkaaDoor
/- THE CELL 'sum', in the pinned program and in every row, IS THE sha256 OF THE DUMP (.gsa) THAT YtggpilaganghkaaDoorProg.lean LOADS. Nothing in Lean hashes anything: it is a label: what it is worth is what the hold of that sum in a sandbox is worth. -/
noncomputable def Tryd.pinned : Pinned := { name := "ytggpilaganghkaadoor", sum := "6027249604abbfc4b37e3afbfb426f34bfbbc8f563c901afb722accad733699b", checked := Tryd.checked }
namespace Rows
def none {H : Type} : Left H := { results := [], args := [] }

/- WHAT THE LISTED PACKAGE-LEVEL VARIABLES READ AS WHEN THE CALL BEGINS. Each datum BY PROGRAM (the guide's laid-datum.mjs) off the statement by which the dump's own 'gosem.cut.vars' lays the variable. In a bare row this is a premise. The card (YtggpilaganghkaaDoorCards.lean) ties it to the program's text. -/
def laid_glazier_order_spans {H : Type} : DataW H := .agg [.agg [.lit (.int .i64 1), .lit (.int .i64 0), .lit (.int .i64 255)], .agg [.lit (.int .i64 2), .lit (.int .i64 0), .lit (.int .i64 65535)], .agg [.lit (.int .i64 4), .lit (.int .i64 0), .lit (.int .i64 4294967295)], .agg [.lit (.int .i64 (-1)), .lit (.int .i64 (-128)), .lit (.int .i64 127)], .agg [.lit (.int .i64 (-2)), .lit (.int .i64 (-32768)), .lit (.int .i64 32767)], .agg [.lit (.int .i64 (-4)), .lit (.int .i64 (-2147483648)), .lit (.int .i64 2147483647)]]
def laid_unicode_White_Space {H : Type} : DataW H := .ptr (.agg [.slice [.agg [.lit (.int .u16 9), .lit (.int .u16 13), .lit (.int .u16 1)], .agg [.lit (.int .u16 32), .lit (.int .u16 133), .lit (.int .u16 101)], .agg [.lit (.int .u16 160), .lit (.int .u16 5760), .lit (.int .u16 5600)], .agg [.lit (.int .u16 8192), .lit (.int .u16 8202), .lit (.int .u16 1)], .agg [.lit (.int .u16 8232), .lit (.int .u16 8233), .lit (.int .u16 1)], .agg [.lit (.int .u16 8239), .lit (.int .u16 8287), .lit (.int .u16 48)], .agg [.lit (.int .u16 12288), .lit (.int .u16 12288), .lit (.int .u16 1)]] [], .nil, .lit (.int .i64 2)])
def laid_strings_asciiSpace {H : Type} : DataW H := .agg [.lit (.int .u8 0), .lit (.int .u8 0), .lit (.int .u8 0), .lit (.int .u8 0), .lit (.int .u8 0), .lit (.int .u8 0), .lit (.int .u8 0), .lit (.int .u8 0), .lit (.int .u8 0), .lit (.int .u8 1), .lit (.int .u8 1), .lit (.int .u8 1), .lit (.int .u8 1), .lit (.int .u8 1), .lit (.int .u8 0), .lit (.int .u8 0), .lit (.int .u8 0), .lit (.int .u8 0), .lit (.int .u8 0), .lit (.int .u8 0), .lit (.int .u8 0), .lit (.int .u8 0), .lit (.int .u8 0), .lit (.int .u8 0), .lit (.int .u8 0), .lit (.int .u8 0), .lit (.int .u8 0), .lit (.int .u8 0), .lit (.int .u8 0), .lit (.int .u8 0), .lit (.int .u8 0), .lit (.int .u8 0), .lit (.int .u8 1), .lit (.int .u8 0), .lit (.int .u8 0), .lit (.int .u8 0), .lit (.int .u8 0), .lit (.int .u8 0), .lit (.int .u8 0), .lit (.int .u8 0), .lit (.int .u8 0), .lit (.int .u8 0), .lit (.int .u8 0), .lit (.int .u8 0), .lit (.int .u8 0), .lit (.int .u8 0), .lit (.int .u8 0), .lit (.int .u8 0), .lit (.int .u8 0), .lit (.int .u8 0), .lit (.int .u8 0), .lit (.int .u8 0), .lit (.int .u8 0), .lit (.int .u8 0), .lit (.int .u8 0), .lit (.int .u8 0), .lit (.int .u8 0), .lit (.int .u8 0), .lit (.int .u8 0), .lit (.int .u8 0), .lit (.int .u8 0), .lit (.int .u8 0), .lit (.int .u8 0), .lit (.int .u8 0), .lit (.int .u8 0), .lit (.int .u8 0), .lit (.int .u8 0), .lit (.int .u8 0), .lit (.int .u8 0), .lit (.int .u8 0), .lit (.int .u8 0), .lit (.int .u8 0), .lit (.int .u8 0), .lit (.int .u8 0), .lit (.int .u8 0), .lit (.int .u8 0), .lit (.int .u8 0), .lit (.int .u8 0), .lit (.int .u8 0), .lit (.int .u8 0), .lit (.int .u8 0), .lit (.int .u8 0), .lit (.int .u8 0), .lit (.int .u8 0), .lit (.int .u8 0), .lit (.int .u8 0), .lit (.int .u8 0), .lit (.int .u8 0), .lit (.int .u8 0), .lit (.int .u8 0), .lit (.int .u8 0), .lit (.int .u8 0), .lit (.int .u8 0), .lit (.int .u8 0), .lit (.int .u8 0), .lit (.int .u8 0), .lit (.int .u8 0), .lit (.int .u8 0), .lit (.int .u8 0), .lit (.int .u8 0), .lit (.int .u8 0), .lit (.int .u8 0), .lit (.int .u8 0), .lit (.int .u8 0), .lit (.int .u8 0), .lit (.int .u8 0), .lit (.int .u8 0), .lit (.int .u8 0), .lit (.int .u8 0), .lit (.int .u8 0), .lit (.int .u8 0), .lit (.int .u8 0), .lit (.int .u8 0), .lit (.int .u8 0), .lit (.int .u8 0), .lit (.int .u8 0), .lit (.int .u8 0), .lit (.int .u8 0), .lit (.int .u8 0), .lit (.int .u8 0), .lit (.int .u8 0), .lit (.int .u8 0), .lit (.int .u8 0), .lit (.int .u8 0), .lit (.int .u8 0), .lit (.int .u8 0), .lit (.int .u8 0), .lit (.int .u8 0), .lit (.int .u8 0), .lit (.int .u8 0), .lit (.int .u8 0), .lit (.int .u8 0), .lit (.int .u8 0), .lit (.int .u8 0), .lit (.int .u8 0), .lit (.int .u8 0), .lit (.int .u8 0), .lit (.int .u8 0), .lit (.int .u8 0), .lit (.int .u8 0), .lit (.int .u8 0), .lit (.int .u8 0), .lit (.int .u8 0), .lit (.int .u8 0), .lit (.int .u8 0), .lit (.int .u8 0), .lit (.int .u8 0), .lit (.int .u8 0), .lit (.int .u8 0), .lit (.int .u8 0), .lit (.int .u8 0), .lit (.int .u8 0), .lit (.int .u8 0), .lit (.int .u8 0), .lit (.int .u8 0), .lit (.int .u8 0), .lit (.int .u8 0), .lit (.int .u8 0), .lit (.int .u8 0), .lit (.int .u8 0), .lit (.int .u8 0), .lit (.int .u8 0), .lit (.int .u8 0), .lit (.int .u8 0), .lit (.int .u8 0), .lit (.int .u8 0), .lit (.int .u8 0), .lit (.int .u8 0), .lit (.int .u8 0), .lit (.int .u8 0), .lit (.int .u8 0), .lit (.int .u8 0), .lit (.int .u8 0), .lit (.int .u8 0), .lit (.int .u8 0), .lit (.int .u8 0), .lit (.int .u8 0), .lit (.int .u8 0), .lit (.int .u8 0), .lit (.int .u8 0), .lit (.int .u8 0), .lit (.int .u8 0), .lit (.int .u8 0), .lit (.int .u8 0), .lit (.int .u8 0), .lit (.int .u8 0), .lit (.int .u8 0), .lit (.int .u8 0), .lit (.int .u8 0), .lit (.int .u8 0), .lit (.int .u8 0), .lit (.int .u8 0), .lit (.int .u8 0), .lit (.int .u8 0), .lit (.int .u8 0), .lit (.int .u8 0), .lit (.int .u8 0), .lit (.int .u8 0), .lit (.int .u8 0), .lit (.int .u8 0), .lit (.int .u8 0), .lit (.int .u8 0), .lit (.int .u8 0), .lit (.int .u8 0), .lit (.int .u8 0), .lit (.int .u8 0), .lit (.int .u8 0), .lit (.int .u8 0), .lit (.int .u8 0), .lit (.int .u8 0), .lit (.int .u8 0), .lit (.int .u8 0), .lit (.int .u8 0), .lit (.int .u8 0), .lit (.int .u8 0), .lit (.int .u8 0), .lit (.int .u8 0), .lit (.int .u8 0), .lit (.int .u8 0), .lit (.int .u8 0), .lit (.int .u8 0), .lit (.int .u8 0), .lit (.int .u8 0), .lit (.int .u8 0), .lit (.int .u8 0), .lit (.int .u8 0), .lit (.int .u8 0), .lit (.int .u8 0), .lit (.int .u8 0), .lit (.int .u8 0), .lit (.int .u8 0), .lit (.int .u8 0), .lit (.int .u8 0), .lit (.int .u8 0), .lit (.int .u8 0), .lit (.int .u8 0), .lit (.int .u8 0), .lit (.int .u8 0), .lit (.int .u8 0), .lit (.int .u8 0), .lit (.int .u8 0), .lit (.int .u8 0), .lit (.int .u8 0), .lit (.int .u8 0), .lit (.int .u8 0), .lit (.int .u8 0), .lit (.int .u8 0), .lit (.int .u8 0), .lit (.int .u8 0), .lit (.int .u8 0), .lit (.int .u8 0), .lit (.int .u8 0), .lit (.int .u8 0), .lit (.int .u8 0), .lit (.int .u8 0), .lit (.int .u8 0)]
def laid_glazier_format_sizes {H : Type} : DataW H := .agg [.lit (.int .i64 1), .lit (.int .i64 2), .lit (.int .i64 4), .lit (.int .i64 (-1)), .lit (.int .i64 (-2)), .lit (.int .i64 (-4))]

/-- 'glazierlaw04.PackLong': WHATEVER THE INPUT: true; the input reads as it did. -/
def packLongSpec : ChangeSpec := { name := "packLong", fn := fun _ => fun
  | [] => { results := [.lit (.bool true)], args := [] }
  | _ => none }
def packLongRow : OpenClaim := { program := "ytggpilaganghkaadoor", sum := "6027249604abbfc4b37e3afbfb426f34bfbbc8f563c901afb722accad733699b", func := "glazier/glazierlaw04.PackLong", spec := "packLong", inPlace := ["internal/bytealg.IndexByteString", "internal/bytealg.IndexString", "internal/abi.NoEscape"], unfollowed := true, recurses := true, named := ["strings.asciiSpace", "unicode.White_Space", "glazier/format.sizes", "glazier/order.spans", "internal/bytealg.MaxLen"], apart := false, laid := [("glazier/order.spans", laid_glazier_order_spans), ("unicode.White_Space", laid_unicode_White_Space), ("strings.asciiSpace", laid_strings_asciiSpace), ("glazier/format.sizes", laid_glazier_format_sizes)] }
def PackLongSaid : Prop := packLongRow.holds Tryd.pinned (OpenSpec.ofChange packLongSpec)

/-- ITS FALSE NEIGHBOUR: 'it returns false'. Refute it at one input. -/
def packLongWrong : ChangeSpec := { name := "packLong", fn := fun _ => fun
  | [] => { results := [.lit (.bool false)], args := [] }
  | _ => none }
def PackLongWrongFalsely : Prop := packLongRow.holds Tryd.pinned (OpenSpec.ofChange packLongWrong)

/-- 'glazierlaw04.PackPuts': WHATEVER THE INPUT: true; the input reads as it did. -/
def packPutsSpec : ChangeSpec := { name := "packPuts", fn := fun _ => fun
  | [d1, d2] => { results := [.lit (.bool true)], args := [d1, d2] }
  | _ => none }
def packPutsRow : OpenClaim := { program := "ytggpilaganghkaadoor", sum := "6027249604abbfc4b37e3afbfb426f34bfbbc8f563c901afb722accad733699b", func := "glazier/glazierlaw04.PackPuts", spec := "packPuts", inPlace := ["internal/bytealg.IndexByteString", "internal/bytealg.IndexString", "internal/abi.NoEscape"], unfollowed := true, recurses := true, named := ["strings.asciiSpace", "unicode.White_Space", "glazier/format.sizes", "glazier/order.spans", "internal/bytealg.MaxLen"], apart := false, laid := [("glazier/order.spans", laid_glazier_order_spans), ("unicode.White_Space", laid_unicode_White_Space), ("strings.asciiSpace", laid_strings_asciiSpace), ("glazier/format.sizes", laid_glazier_format_sizes)] }
def PackPutsSaid : Prop := packPutsRow.holds Tryd.pinned (OpenSpec.ofChange packPutsSpec)

/-- ITS FALSE NEIGHBOUR: 'it returns false'. Refute it at one input. -/
def packPutsWrong : ChangeSpec := { name := "packPuts", fn := fun _ => fun
  | [d1, d2] => { results := [.lit (.bool false)], args := [d1, d2] }
  | _ => none }
def PackPutsWrongFalsely : Prop := packPutsRow.holds Tryd.pinned (OpenSpec.ofChange packPutsWrong)

/-- 'glazierlaw04.PackSame': WHATEVER THE INPUT: true; the input reads as it did. -/
def packSameSpec : ChangeSpec := { name := "packSame", fn := fun _ => fun
  | [d1, d2] => { results := [.lit (.bool true)], args := [d1, d2] }
  | _ => none }
def packSameRow : OpenClaim := { program := "ytggpilaganghkaadoor", sum := "6027249604abbfc4b37e3afbfb426f34bfbbc8f563c901afb722accad733699b", func := "glazier/glazierlaw04.PackSame", spec := "packSame", inPlace := ["internal/bytealg.IndexByteString", "internal/bytealg.IndexString", "internal/abi.NoEscape"], unfollowed := true, recurses := true, named := ["strings.asciiSpace", "unicode.White_Space", "glazier/format.sizes", "glazier/order.spans", "internal/bytealg.MaxLen"], apart := false, laid := [("glazier/order.spans", laid_glazier_order_spans), ("unicode.White_Space", laid_unicode_White_Space), ("strings.asciiSpace", laid_strings_asciiSpace), ("glazier/format.sizes", laid_glazier_format_sizes)] }
def PackSameSaid : Prop := packSameRow.holds Tryd.pinned (OpenSpec.ofChange packSameSpec)

/-- ITS FALSE NEIGHBOUR: 'it returns false'. Refute it at one input. -/
def packSameWrong : ChangeSpec := { name := "packSame", fn := fun _ => fun
  | [d1, d2] => { results := [.lit (.bool false)], args := [d1, d2] }
  | _ => none }
def PackSameWrongFalsely : Prop := packSameRow.holds Tryd.pinned (OpenSpec.ofChange packSameWrong)

/-- 'glazierlaw04.PackCuts': WHATEVER THE INPUT: true; the input reads as it did. -/
def packCutsSpec : ChangeSpec := { name := "packCuts", fn := fun _ => fun
  | [d1, d2, d3, d4] => { results := [.lit (.bool true)], args := [d1, d2, d3, d4] }
  | _ => none }
def packCutsRow : OpenClaim := { program := "ytggpilaganghkaadoor", sum := "6027249604abbfc4b37e3afbfb426f34bfbbc8f563c901afb722accad733699b", func := "glazier/glazierlaw04.PackCuts", spec := "packCuts", inPlace := ["internal/bytealg.IndexByteString", "internal/bytealg.IndexString", "internal/abi.NoEscape"], unfollowed := true, recurses := true, named := ["strings.asciiSpace", "unicode.White_Space", "glazier/format.sizes", "glazier/order.spans", "internal/bytealg.MaxLen"], apart := false, laid := [("glazier/order.spans", laid_glazier_order_spans), ("unicode.White_Space", laid_unicode_White_Space), ("strings.asciiSpace", laid_strings_asciiSpace), ("glazier/format.sizes", laid_glazier_format_sizes)] }
def PackCutsSaid : Prop := packCutsRow.holds Tryd.pinned (OpenSpec.ofChange packCutsSpec)

/-- ITS FALSE NEIGHBOUR: 'it returns false'. Refute it at one input. -/
def packCutsWrong : ChangeSpec := { name := "packCuts", fn := fun _ => fun
  | [d1, d2, d3, d4] => { results := [.lit (.bool false)], args := [d1, d2, d3, d4] }
  | _ => none }
def PackCutsWrongFalsely : Prop := packCutsRow.holds Tryd.pinned (OpenSpec.ofChange packCutsWrong)

/-- 'glazierlaw04.PackGets': WHATEVER THE INPUT: true; the input reads as it did. -/
def packGetsSpec : ChangeSpec := { name := "packGets", fn := fun _ => fun
  | [d1, d2] => { results := [.lit (.bool true)], args := [d1, d2] }
  | _ => none }
def packGetsRow : OpenClaim := { program := "ytggpilaganghkaadoor", sum := "6027249604abbfc4b37e3afbfb426f34bfbbc8f563c901afb722accad733699b", func := "glazier/glazierlaw04.PackGets", spec := "packGets", inPlace := ["internal/bytealg.IndexByteString", "internal/bytealg.IndexString", "internal/abi.NoEscape"], unfollowed := true, recurses := true, named := ["strings.asciiSpace", "unicode.White_Space", "glazier/format.sizes", "glazier/order.spans", "internal/bytealg.MaxLen"], apart := false, laid := [("glazier/order.spans", laid_glazier_order_spans), ("unicode.White_Space", laid_unicode_White_Space), ("strings.asciiSpace", laid_strings_asciiSpace), ("glazier/format.sizes", laid_glazier_format_sizes)] }
def PackGetsSaid : Prop := packGetsRow.holds Tryd.pinned (OpenSpec.ofChange packGetsSpec)

/-- ITS FALSE NEIGHBOUR: 'it returns false'. Refute it at one input. -/
def packGetsWrong : ChangeSpec := { name := "packGets", fn := fun _ => fun
  | [d1, d2] => { results := [.lit (.bool false)], args := [d1, d2] }
  | _ => none }
def PackGetsWrongFalsely : Prop := packGetsRow.holds Tryd.pinned (OpenSpec.ofChange packGetsWrong)

/-- 'glazierlaw04.PackBack': WHATEVER THE INPUT: true; the input reads as it did. -/
def packBackSpec : ChangeSpec := { name := "packBack", fn := fun _ => fun
  | [d1, d2, d3] => { results := [.lit (.bool true)], args := [d1, d2, d3] }
  | _ => none }
def packBackRow : OpenClaim := { program := "ytggpilaganghkaadoor", sum := "6027249604abbfc4b37e3afbfb426f34bfbbc8f563c901afb722accad733699b", func := "glazier/glazierlaw04.PackBack", spec := "packBack", inPlace := ["internal/bytealg.IndexByteString", "internal/bytealg.IndexString", "internal/abi.NoEscape"], unfollowed := true, recurses := true, named := ["strings.asciiSpace", "unicode.White_Space", "glazier/format.sizes", "glazier/order.spans", "internal/bytealg.MaxLen"], apart := false, laid := [("glazier/order.spans", laid_glazier_order_spans), ("unicode.White_Space", laid_unicode_White_Space), ("strings.asciiSpace", laid_strings_asciiSpace), ("glazier/format.sizes", laid_glazier_format_sizes)] }
def PackBackSaid : Prop := packBackRow.holds Tryd.pinned (OpenSpec.ofChange packBackSpec)

/-- ITS FALSE NEIGHBOUR: 'it returns false'. Refute it at one input. -/
def packBackWrong : ChangeSpec := { name := "packBack", fn := fun _ => fun
  | [d1, d2, d3] => { results := [.lit (.bool false)], args := [d1, d2, d3] }
  | _ => none }
def PackBackWrongFalsely : Prop := packBackRow.holds Tryd.pinned (OpenSpec.ofChange packBackWrong)

/- THE SECOND FORM. 'bulk': how many values and letters a reading holds, each counted each time it is reached (what is shared counts as often as it is met; a slice's spare places count too). A statement '..UptoSaid' is the law's where the arguments, and the package variables that the reading takes, are together of bulk at most 1048576: NARROWER than '..Said'. Prove '..Said' where nothing that the law and all that it calls make is longer than what came in: it says more and counts as full. Else prove '..UptoSaid'. A law counts once. -/
mutual
def uptoBulk {H : Type} : DataW H → Nat
  | .lit (.string bytes) => bytes.length + 1
  | .lit _ => 1
  | .nil => 1
  | .ptr d => uptoBulk d + 1
  | .slice elems spare => uptoBulkAll elems + uptoBulkAll spare + 1
  | .agg parts => uptoBulkAll parts + 1
  | .iface _ d => uptoBulk d + 1
  | .map entries => uptoBulkEntries entries + 1
  | .held _ => 1
def uptoBulkAll {H : Type} : List (DataW H) → Nat
  | [] => 0
  | d :: r => uptoBulk d + uptoBulkAll r
def uptoBulkEntries {H : Type} : List (Lit × DataW H) → Nat
  | [] => 0
  | x :: r => uptoBulkEntry x + uptoBulkEntries r
def uptoBulkEntry {H : Type} : Lit × DataW H → Nat
  | (.string bytes, d) => bytes.length + uptoBulk d + 1
  | (_, d) => uptoBulk d + 1
 end
def uptoSmall : (H : Type) → List (DataW H) → Bool := fun _ ds => decide (uptoBulkAll ds ≤ 1048576)
def OpenSpec.upto (s : _root_.Go.ChangeSpec) : _root_.Go.OpenSpec := { _root_.Go.OpenSpec.ofChange s with cond := some uptoSmall }

/-- 'glazierlaw04.PackLong', WHERE WHAT IT READS IS OF BULK AT MOST 1048576: true; the input reads as it did. -/
def packLongUptoRow : OpenClaim := { program := "ytggpilaganghkaadoor", sum := "6027249604abbfc4b37e3afbfb426f34bfbbc8f563c901afb722accad733699b", func := "glazier/glazierlaw04.PackLong", spec := "packLong", inPlace := ["internal/bytealg.IndexByteString", "internal/bytealg.IndexString", "internal/abi.NoEscape"], unfollowed := true, recurses := true, named := ["strings.asciiSpace", "unicode.White_Space", "glazier/format.sizes", "glazier/order.spans", "internal/bytealg.MaxLen"], apart := false, laid := [("glazier/order.spans", laid_glazier_order_spans), ("unicode.White_Space", laid_unicode_White_Space), ("strings.asciiSpace", laid_strings_asciiSpace), ("glazier/format.sizes", laid_glazier_format_sizes)], narrowed := true }
def PackLongUptoSaid : Prop := packLongUptoRow.holds Tryd.pinned (OpenSpec.upto packLongSpec)

/-- 'glazierlaw04.PackPuts', WHERE WHAT IT READS IS OF BULK AT MOST 1048576: true; the input reads as it did. -/
def packPutsUptoRow : OpenClaim := { program := "ytggpilaganghkaadoor", sum := "6027249604abbfc4b37e3afbfb426f34bfbbc8f563c901afb722accad733699b", func := "glazier/glazierlaw04.PackPuts", spec := "packPuts", inPlace := ["internal/bytealg.IndexByteString", "internal/bytealg.IndexString", "internal/abi.NoEscape"], unfollowed := true, recurses := true, named := ["strings.asciiSpace", "unicode.White_Space", "glazier/format.sizes", "glazier/order.spans", "internal/bytealg.MaxLen"], apart := false, laid := [("glazier/order.spans", laid_glazier_order_spans), ("unicode.White_Space", laid_unicode_White_Space), ("strings.asciiSpace", laid_strings_asciiSpace), ("glazier/format.sizes", laid_glazier_format_sizes)], narrowed := true }
def PackPutsUptoSaid : Prop := packPutsUptoRow.holds Tryd.pinned (OpenSpec.upto packPutsSpec)

/-- 'glazierlaw04.PackSame', WHERE WHAT IT READS IS OF BULK AT MOST 1048576: true; the input reads as it did. -/
def packSameUptoRow : OpenClaim := { program := "ytggpilaganghkaadoor", sum := "6027249604abbfc4b37e3afbfb426f34bfbbc8f563c901afb722accad733699b", func := "glazier/glazierlaw04.PackSame", spec := "packSame", inPlace := ["internal/bytealg.IndexByteString", "internal/bytealg.IndexString", "internal/abi.NoEscape"], unfollowed := true, recurses := true, named := ["strings.asciiSpace", "unicode.White_Space", "glazier/format.sizes", "glazier/order.spans", "internal/bytealg.MaxLen"], apart := false, laid := [("glazier/order.spans", laid_glazier_order_spans), ("unicode.White_Space", laid_unicode_White_Space), ("strings.asciiSpace", laid_strings_asciiSpace), ("glazier/format.sizes", laid_glazier_format_sizes)], narrowed := true }
def PackSameUptoSaid : Prop := packSameUptoRow.holds Tryd.pinned (OpenSpec.upto packSameSpec)

/-- 'glazierlaw04.PackCuts', WHERE WHAT IT READS IS OF BULK AT MOST 1048576: true; the input reads as it did. -/
def packCutsUptoRow : OpenClaim := { program := "ytggpilaganghkaadoor", sum := "6027249604abbfc4b37e3afbfb426f34bfbbc8f563c901afb722accad733699b", func := "glazier/glazierlaw04.PackCuts", spec := "packCuts", inPlace := ["internal/bytealg.IndexByteString", "internal/bytealg.IndexString", "internal/abi.NoEscape"], unfollowed := true, recurses := true, named := ["strings.asciiSpace", "unicode.White_Space", "glazier/format.sizes", "glazier/order.spans", "internal/bytealg.MaxLen"], apart := false, laid := [("glazier/order.spans", laid_glazier_order_spans), ("unicode.White_Space", laid_unicode_White_Space), ("strings.asciiSpace", laid_strings_asciiSpace), ("glazier/format.sizes", laid_glazier_format_sizes)], narrowed := true }
def PackCutsUptoSaid : Prop := packCutsUptoRow.holds Tryd.pinned (OpenSpec.upto packCutsSpec)

/-- 'glazierlaw04.PackGets', WHERE WHAT IT READS IS OF BULK AT MOST 1048576: true; the input reads as it did. -/
def packGetsUptoRow : OpenClaim := { program := "ytggpilaganghkaadoor", sum := "6027249604abbfc4b37e3afbfb426f34bfbbc8f563c901afb722accad733699b", func := "glazier/glazierlaw04.PackGets", spec := "packGets", inPlace := ["internal/bytealg.IndexByteString", "internal/bytealg.IndexString", "internal/abi.NoEscape"], unfollowed := true, recurses := true, named := ["strings.asciiSpace", "unicode.White_Space", "glazier/format.sizes", "glazier/order.spans", "internal/bytealg.MaxLen"], apart := false, laid := [("glazier/order.spans", laid_glazier_order_spans), ("unicode.White_Space", laid_unicode_White_Space), ("strings.asciiSpace", laid_strings_asciiSpace), ("glazier/format.sizes", laid_glazier_format_sizes)], narrowed := true }
def PackGetsUptoSaid : Prop := packGetsUptoRow.holds Tryd.pinned (OpenSpec.upto packGetsSpec)

/-- 'glazierlaw04.PackBack', WHERE WHAT IT READS IS OF BULK AT MOST 1048576: true; the input reads as it did. -/
def packBackUptoRow : OpenClaim := { program := "ytggpilaganghkaadoor", sum := "6027249604abbfc4b37e3afbfb426f34bfbbc8f563c901afb722accad733699b", func := "glazier/glazierlaw04.PackBack", spec := "packBack", inPlace := ["internal/bytealg.IndexByteString", "internal/bytealg.IndexString", "internal/abi.NoEscape"], unfollowed := true, recurses := true, named := ["strings.asciiSpace", "unicode.White_Space", "glazier/format.sizes", "glazier/order.spans", "internal/bytealg.MaxLen"], apart := false, laid := [("glazier/order.spans", laid_glazier_order_spans), ("unicode.White_Space", laid_unicode_White_Space), ("strings.asciiSpace", laid_strings_asciiSpace), ("glazier/format.sizes", laid_glazier_format_sizes)], narrowed := true }
def PackBackUptoSaid : Prop := packBackUptoRow.holds Tryd.pinned (OpenSpec.upto packBackSpec)

end Rows
end Go.Proofs.YtggpilaganghkaaDoor
