/-
  NARROWER THAN 'FOR EVERY INPUT', by the rows' own cells (each row's printed sentence says how): TopJunk: laid · StreamBegins: laid · TopWire: laid · StreamFeeds: laid · StreamParts: laid · StreamStays: laid · StreamDies: laid · StreamAsks: laid · StreamWrong: laid.
  DERIVED. THE GIVEN ROWS OF THIS SEAT. 9 by the template 'for every input the law returns true; each argument reads behind the call as it read before'; 0 by the template 'total and deterministic' (their statements: YtplaaagcbleflaaDoorTotals.lean).
  GIVEN WITH THE SEED: the statements are not yours to turn. If you find one false, say at which input.
  Laid BY PROGRAM, IN A SANDBOX (cutbox-rows.mjs): the forced cells as the released guide's own fill.sh prints them over the translation fc2a55bda71ee4d6… (all of the seat's roots in one cut). By AI agents, Wed Nov 11 2026. No macro, syntax, notation, axiom, sorry.
-/
import Derived.Test.YtplaaagcbleflaaDoorChecked
import GoSem.Claim
import GoSem.ClaimJoined
import GoSem.ClaimMapViews
import Derived.JoinedTies
import Derived.KernelRfl
namespace Go.Proofs.YtplaaagcbleflaaDoor
/- THE CELL 'sum', in the pinned program and in every row, IS THE sha256 OF THE DUMP (.gsa) THAT YtplaaagcbleflaaDoorProg.lean LOADS. Nothing in Lean hashes anything: it is a label: what it is worth is what the hold of that sum in a sandbox is worth. -/
noncomputable def Tryd.pinned : Pinned := { name := "ytplaaagcbleflaadoor", sum := "fc2a55bda71ee4d6efc93fbf964f71b188d4061cb6556abae4c6fb58a168ec3d", checked := Tryd.checked }
namespace Rows
def none {H : Type} : Left H := { results := [], args := [] }

/- WHAT THE LISTED PACKAGE-LEVEL VARIABLES READ AS WHEN THE CALL BEGINS. Each datum BY PROGRAM (the guide's laid-datum.mjs) off the statement by which the dump's own 'gosem.cut.vars' lays the variable. In a bare row this is a premise. The card (YtplaaagcbleflaaDoorCards.lean) ties it to the program's text. -/
def laid_glazier_order_spans {H : Type} : DataW H := .agg [.agg [.lit (.int .i64 1), .lit (.int .i64 0), .lit (.int .i64 255)], .agg [.lit (.int .i64 2), .lit (.int .i64 0), .lit (.int .i64 65535)], .agg [.lit (.int .i64 4), .lit (.int .i64 0), .lit (.int .i64 4294967295)], .agg [.lit (.int .i64 (-1)), .lit (.int .i64 (-128)), .lit (.int .i64 127)], .agg [.lit (.int .i64 (-2)), .lit (.int .i64 (-32768)), .lit (.int .i64 32767)], .agg [.lit (.int .i64 (-4)), .lit (.int .i64 (-2147483648)), .lit (.int .i64 2147483647)]]
def laid_unicode_White_Space {H : Type} : DataW H := .ptr (.agg [.slice [.agg [.lit (.int .u16 9), .lit (.int .u16 13), .lit (.int .u16 1)], .agg [.lit (.int .u16 32), .lit (.int .u16 133), .lit (.int .u16 101)], .agg [.lit (.int .u16 160), .lit (.int .u16 5760), .lit (.int .u16 5600)], .agg [.lit (.int .u16 8192), .lit (.int .u16 8202), .lit (.int .u16 1)], .agg [.lit (.int .u16 8232), .lit (.int .u16 8233), .lit (.int .u16 1)], .agg [.lit (.int .u16 8239), .lit (.int .u16 8287), .lit (.int .u16 48)], .agg [.lit (.int .u16 12288), .lit (.int .u16 12288), .lit (.int .u16 1)]] [], .nil, .lit (.int .i64 2)])
def laid_strings_asciiSpace {H : Type} : DataW H := .agg [.lit (.int .u8 0), .lit (.int .u8 0), .lit (.int .u8 0), .lit (.int .u8 0), .lit (.int .u8 0), .lit (.int .u8 0), .lit (.int .u8 0), .lit (.int .u8 0), .lit (.int .u8 0), .lit (.int .u8 1), .lit (.int .u8 1), .lit (.int .u8 1), .lit (.int .u8 1), .lit (.int .u8 1), .lit (.int .u8 0), .lit (.int .u8 0), .lit (.int .u8 0), .lit (.int .u8 0), .lit (.int .u8 0), .lit (.int .u8 0), .lit (.int .u8 0), .lit (.int .u8 0), .lit (.int .u8 0), .lit (.int .u8 0), .lit (.int .u8 0), .lit (.int .u8 0), .lit (.int .u8 0), .lit (.int .u8 0), .lit (.int .u8 0), .lit (.int .u8 0), .lit (.int .u8 0), .lit (.int .u8 0), .lit (.int .u8 1), .lit (.int .u8 0), .lit (.int .u8 0), .lit (.int .u8 0), .lit (.int .u8 0), .lit (.int .u8 0), .lit (.int .u8 0), .lit (.int .u8 0), .lit (.int .u8 0), .lit (.int .u8 0), .lit (.int .u8 0), .lit (.int .u8 0), .lit (.int .u8 0), .lit (.int .u8 0), .lit (.int .u8 0), .lit (.int .u8 0), .lit (.int .u8 0), .lit (.int .u8 0), .lit (.int .u8 0), .lit (.int .u8 0), .lit (.int .u8 0), .lit (.int .u8 0), .lit (.int .u8 0), .lit (.int .u8 0), .lit (.int .u8 0), .lit (.int .u8 0), .lit (.int .u8 0), .lit (.int .u8 0), .lit (.int .u8 0), .lit (.int .u8 0), .lit (.int .u8 0), .lit (.int .u8 0), .lit (.int .u8 0), .lit (.int .u8 0), .lit (.int .u8 0), .lit (.int .u8 0), .lit (.int .u8 0), .lit (.int .u8 0), .lit (.int .u8 0), .lit (.int .u8 0), .lit (.int .u8 0), .lit (.int .u8 0), .lit (.int .u8 0), .lit (.int .u8 0), .lit (.int .u8 0), .lit (.int .u8 0), .lit (.int .u8 0), .lit (.int .u8 0), .lit (.int .u8 0), .lit (.int .u8 0), .lit (.int .u8 0), .lit (.int .u8 0), .lit (.int .u8 0), .lit (.int .u8 0), .lit (.int .u8 0), .lit (.int .u8 0), .lit (.int .u8 0), .lit (.int .u8 0), .lit (.int .u8 0), .lit (.int .u8 0), .lit (.int .u8 0), .lit (.int .u8 0), .lit (.int .u8 0), .lit (.int .u8 0), .lit (.int .u8 0), .lit (.int .u8 0), .lit (.int .u8 0), .lit (.int .u8 0), .lit (.int .u8 0), .lit (.int .u8 0), .lit (.int .u8 0), .lit (.int .u8 0), .lit (.int .u8 0), .lit (.int .u8 0), .lit (.int .u8 0), .lit (.int .u8 0), .lit (.int .u8 0), .lit (.int .u8 0), .lit (.int .u8 0), .lit (.int .u8 0), .lit (.int .u8 0), .lit (.int .u8 0), .lit (.int .u8 0), .lit (.int .u8 0), .lit (.int .u8 0), .lit (.int .u8 0), .lit (.int .u8 0), .lit (.int .u8 0), .lit (.int .u8 0), .lit (.int .u8 0), .lit (.int .u8 0), .lit (.int .u8 0), .lit (.int .u8 0), .lit (.int .u8 0), .lit (.int .u8 0), .lit (.int .u8 0), .lit (.int .u8 0), .lit (.int .u8 0), .lit (.int .u8 0), .lit (.int .u8 0), .lit (.int .u8 0), .lit (.int .u8 0), .lit (.int .u8 0), .lit (.int .u8 0), .lit (.int .u8 0), .lit (.int .u8 0), .lit (.int .u8 0), .lit (.int .u8 0), .lit (.int .u8 0), .lit (.int .u8 0), .lit (.int .u8 0), .lit (.int .u8 0), .lit (.int .u8 0), .lit (.int .u8 0), .lit (.int .u8 0), .lit (.int .u8 0), .lit (.int .u8 0), .lit (.int .u8 0), .lit (.int .u8 0), .lit (.int .u8 0), .lit (.int .u8 0), .lit (.int .u8 0), .lit (.int .u8 0), .lit (.int .u8 0), .lit (.int .u8 0), .lit (.int .u8 0), .lit (.int .u8 0), .lit (.int .u8 0), .lit (.int .u8 0), .lit (.int .u8 0), .lit (.int .u8 0), .lit (.int .u8 0), .lit (.int .u8 0), .lit (.int .u8 0), .lit (.int .u8 0), .lit (.int .u8 0), .lit (.int .u8 0), .lit (.int .u8 0), .lit (.int .u8 0), .lit (.int .u8 0), .lit (.int .u8 0), .lit (.int .u8 0), .lit (.int .u8 0), .lit (.int .u8 0), .lit (.int .u8 0), .lit (.int .u8 0), .lit (.int .u8 0), .lit (.int .u8 0), .lit (.int .u8 0), .lit (.int .u8 0), .lit (.int .u8 0), .lit (.int .u8 0), .lit (.int .u8 0), .lit (.int .u8 0), .lit (.int .u8 0), .lit (.int .u8 0), .lit (.int .u8 0), .lit (.int .u8 0), .lit (.int .u8 0), .lit (.int .u8 0), .lit (.int .u8 0), .lit (.int .u8 0), .lit (.int .u8 0), .lit (.int .u8 0), .lit (.int .u8 0), .lit (.int .u8 0), .lit (.int .u8 0), .lit (.int .u8 0), .lit (.int .u8 0), .lit (.int .u8 0), .lit (.int .u8 0), .lit (.int .u8 0), .lit (.int .u8 0), .lit (.int .u8 0), .lit (.int .u8 0), .lit (.int .u8 0), .lit (.int .u8 0), .lit (.int .u8 0), .lit (.int .u8 0), .lit (.int .u8 0), .lit (.int .u8 0), .lit (.int .u8 0), .lit (.int .u8 0), .lit (.int .u8 0), .lit (.int .u8 0), .lit (.int .u8 0), .lit (.int .u8 0), .lit (.int .u8 0), .lit (.int .u8 0), .lit (.int .u8 0), .lit (.int .u8 0), .lit (.int .u8 0), .lit (.int .u8 0), .lit (.int .u8 0), .lit (.int .u8 0), .lit (.int .u8 0), .lit (.int .u8 0), .lit (.int .u8 0), .lit (.int .u8 0), .lit (.int .u8 0), .lit (.int .u8 0), .lit (.int .u8 0), .lit (.int .u8 0), .lit (.int .u8 0), .lit (.int .u8 0), .lit (.int .u8 0), .lit (.int .u8 0), .lit (.int .u8 0), .lit (.int .u8 0), .lit (.int .u8 0), .lit (.int .u8 0), .lit (.int .u8 0), .lit (.int .u8 0), .lit (.int .u8 0), .lit (.int .u8 0), .lit (.int .u8 0), .lit (.int .u8 0), .lit (.int .u8 0), .lit (.int .u8 0), .lit (.int .u8 0), .lit (.int .u8 0), .lit (.int .u8 0), .lit (.int .u8 0), .lit (.int .u8 0)]
def laid_glazier_format_sizes {H : Type} : DataW H := .agg [.lit (.int .i64 1), .lit (.int .i64 2), .lit (.int .i64 4), .lit (.int .i64 (-1)), .lit (.int .i64 (-2)), .lit (.int .i64 (-4))]

/-- 'glaziertop.TopJunk': WHATEVER THE INPUT: true; the input reads as it did. -/
def topJunkSpec : ChangeSpec := { name := "topJunk", fn := fun _ => fun
  | [d1, d2, d3] => { results := [.lit (.bool true)], args := [d1, d2, d3] }
  | _ => none }
def topJunkRow : OpenClaim := { program := "ytplaaagcbleflaadoor", sum := "fc2a55bda71ee4d6efc93fbf964f71b188d4061cb6556abae4c6fb58a168ec3d", func := "glazier/glaziertop.TopJunk", spec := "topJunk", inPlace := ["internal/bytealg.IndexByteString", "internal/bytealg.IndexString"], unfollowed := true, recurses := true, named := ["glazier/order.spans", "strings.asciiSpace", "unicode.White_Space", "glazier/format.sizes", "internal/bytealg.MaxLen"], apart := false, laid := [("glazier/order.spans", laid_glazier_order_spans), ("unicode.White_Space", laid_unicode_White_Space), ("strings.asciiSpace", laid_strings_asciiSpace), ("glazier/format.sizes", laid_glazier_format_sizes)] }
def TopJunkSaid : Prop := topJunkRow.holds Tryd.pinned (OpenSpec.ofChange topJunkSpec)

/-- ITS FALSE NEIGHBOUR: 'it returns false'. Refute it at one input. -/
def topJunkWrong : ChangeSpec := { name := "topJunk", fn := fun _ => fun
  | [d1, d2, d3] => { results := [.lit (.bool false)], args := [d1, d2, d3] }
  | _ => none }
def TopJunkWrongFalsely : Prop := topJunkRow.holds Tryd.pinned (OpenSpec.ofChange topJunkWrong)

/-- 'glazierlaw06.StreamBegins': WHATEVER THE INPUT: true; the input reads as it did. -/
def streamBeginsSpec : ChangeSpec := { name := "streamBegins", fn := fun _ => fun
  | [d1, d2] => { results := [.lit (.bool true)], args := [d1, d2] }
  | _ => none }
def streamBeginsRow : OpenClaim := { program := "ytplaaagcbleflaadoor", sum := "fc2a55bda71ee4d6efc93fbf964f71b188d4061cb6556abae4c6fb58a168ec3d", func := "glazier/glazierlaw06.StreamBegins", spec := "streamBegins", inPlace := ["internal/bytealg.IndexByteString", "internal/bytealg.IndexString"], unfollowed := true, recurses := true, named := ["glazier/order.spans", "strings.asciiSpace", "unicode.White_Space", "glazier/format.sizes", "internal/bytealg.MaxLen"], apart := false, laid := [("glazier/order.spans", laid_glazier_order_spans), ("unicode.White_Space", laid_unicode_White_Space), ("strings.asciiSpace", laid_strings_asciiSpace), ("glazier/format.sizes", laid_glazier_format_sizes)] }
def StreamBeginsSaid : Prop := streamBeginsRow.holds Tryd.pinned (OpenSpec.ofChange streamBeginsSpec)

/-- ITS FALSE NEIGHBOUR: 'it returns false'. Refute it at one input. -/
def streamBeginsWrong : ChangeSpec := { name := "streamBegins", fn := fun _ => fun
  | [d1, d2] => { results := [.lit (.bool false)], args := [d1, d2] }
  | _ => none }
def StreamBeginsWrongFalsely : Prop := streamBeginsRow.holds Tryd.pinned (OpenSpec.ofChange streamBeginsWrong)

/-- 'glaziertop.TopWire': WHATEVER THE INPUT: true; the input reads as it did. -/
def topWireSpec : ChangeSpec := { name := "topWire", fn := fun _ => fun
  | [d1, d2, d3, d4] => { results := [.lit (.bool true)], args := [d1, d2, d3, d4] }
  | _ => none }
def topWireRow : OpenClaim := { program := "ytplaaagcbleflaadoor", sum := "fc2a55bda71ee4d6efc93fbf964f71b188d4061cb6556abae4c6fb58a168ec3d", func := "glazier/glaziertop.TopWire", spec := "topWire", inPlace := ["internal/bytealg.IndexByteString", "internal/bytealg.IndexString", "internal/abi.NoEscape", "maps.clone"], unfollowed := true, recurses := true, named := ["strings.asciiSpace", "unicode.White_Space", "glazier/format.sizes", "glazier/order.spans", "internal/bytealg.MaxLen"], apart := false, laid := [("glazier/order.spans", laid_glazier_order_spans), ("unicode.White_Space", laid_unicode_White_Space), ("strings.asciiSpace", laid_strings_asciiSpace), ("glazier/format.sizes", laid_glazier_format_sizes)] }
def TopWireSaid : Prop := topWireRow.holds Tryd.pinned (OpenSpec.ofChange topWireSpec)

/-- ITS FALSE NEIGHBOUR: 'it returns false'. Refute it at one input. -/
def topWireWrong : ChangeSpec := { name := "topWire", fn := fun _ => fun
  | [d1, d2, d3, d4] => { results := [.lit (.bool false)], args := [d1, d2, d3, d4] }
  | _ => none }
def TopWireWrongFalsely : Prop := topWireRow.holds Tryd.pinned (OpenSpec.ofChange topWireWrong)

/-- 'glazierlaw06.StreamFeeds': WHATEVER THE INPUT: true; the input reads as it did. -/
def streamFeedsSpec : ChangeSpec := { name := "streamFeeds", fn := fun _ => fun
  | [d] => { results := [.lit (.bool true)], args := [d] }
  | _ => none }
def streamFeedsRow : OpenClaim := { program := "ytplaaagcbleflaadoor", sum := "fc2a55bda71ee4d6efc93fbf964f71b188d4061cb6556abae4c6fb58a168ec3d", func := "glazier/glazierlaw06.StreamFeeds", spec := "streamFeeds", inPlace := ["internal/bytealg.IndexByteString", "internal/bytealg.IndexString"], unfollowed := true, recurses := true, named := ["glazier/order.spans", "strings.asciiSpace", "unicode.White_Space", "glazier/format.sizes", "internal/bytealg.MaxLen"], apart := false, laid := [("glazier/order.spans", laid_glazier_order_spans), ("unicode.White_Space", laid_unicode_White_Space), ("strings.asciiSpace", laid_strings_asciiSpace), ("glazier/format.sizes", laid_glazier_format_sizes)] }
def StreamFeedsSaid : Prop := streamFeedsRow.holds Tryd.pinned (OpenSpec.ofChange streamFeedsSpec)

/-- ITS FALSE NEIGHBOUR: 'it returns false'. Refute it at one input. -/
def streamFeedsWrong : ChangeSpec := { name := "streamFeeds", fn := fun _ => fun
  | [d] => { results := [.lit (.bool false)], args := [d] }
  | _ => none }
def StreamFeedsWrongFalsely : Prop := streamFeedsRow.holds Tryd.pinned (OpenSpec.ofChange streamFeedsWrong)

/-- 'glazierlaw06.StreamParts': WHATEVER THE INPUT: true; the input reads as it did. -/
def streamPartsSpec : ChangeSpec := { name := "streamParts", fn := fun _ => fun
  | [d1, d2] => { results := [.lit (.bool true)], args := [d1, d2] }
  | _ => none }
def streamPartsRow : OpenClaim := { program := "ytplaaagcbleflaadoor", sum := "fc2a55bda71ee4d6efc93fbf964f71b188d4061cb6556abae4c6fb58a168ec3d", func := "glazier/glazierlaw06.StreamParts", spec := "streamParts", inPlace := ["internal/bytealg.IndexByteString", "internal/bytealg.IndexString"], unfollowed := true, recurses := true, named := ["glazier/order.spans", "strings.asciiSpace", "unicode.White_Space", "glazier/format.sizes", "internal/bytealg.MaxLen"], apart := false, laid := [("glazier/order.spans", laid_glazier_order_spans), ("unicode.White_Space", laid_unicode_White_Space), ("strings.asciiSpace", laid_strings_asciiSpace), ("glazier/format.sizes", laid_glazier_format_sizes)] }
def StreamPartsSaid : Prop := streamPartsRow.holds Tryd.pinned (OpenSpec.ofChange streamPartsSpec)

/-- ITS FALSE NEIGHBOUR: 'it returns false'. Refute it at one input. -/
def streamPartsWrong : ChangeSpec := { name := "streamParts", fn := fun _ => fun
  | [d1, d2] => { results := [.lit (.bool false)], args := [d1, d2] }
  | _ => none }
def StreamPartsWrongFalsely : Prop := streamPartsRow.holds Tryd.pinned (OpenSpec.ofChange streamPartsWrong)

/-- 'glazierlaw06.StreamStays': WHATEVER THE INPUT: true; the input reads as it did. -/
def streamStaysSpec : ChangeSpec := { name := "streamStays", fn := fun _ => fun
  | [d1, d2, d3] => { results := [.lit (.bool true)], args := [d1, d2, d3] }
  | _ => none }
def streamStaysRow : OpenClaim := { program := "ytplaaagcbleflaadoor", sum := "fc2a55bda71ee4d6efc93fbf964f71b188d4061cb6556abae4c6fb58a168ec3d", func := "glazier/glazierlaw06.StreamStays", spec := "streamStays", inPlace := ["internal/bytealg.IndexByteString", "internal/bytealg.IndexString"], unfollowed := true, recurses := true, named := ["glazier/order.spans", "strings.asciiSpace", "unicode.White_Space", "glazier/format.sizes", "internal/bytealg.MaxLen"], apart := false, laid := [("glazier/order.spans", laid_glazier_order_spans), ("unicode.White_Space", laid_unicode_White_Space), ("strings.asciiSpace", laid_strings_asciiSpace), ("glazier/format.sizes", laid_glazier_format_sizes)] }
def StreamStaysSaid : Prop := streamStaysRow.holds Tryd.pinned (OpenSpec.ofChange streamStaysSpec)

/-- ITS FALSE NEIGHBOUR: 'it returns false'. Refute it at one input. -/
def streamStaysWrong : ChangeSpec := { name := "streamStays", fn := fun _ => fun
  | [d1, d2, d3] => { results := [.lit (.bool false)], args := [d1, d2, d3] }
  | _ => none }
def StreamStaysWrongFalsely : Prop := streamStaysRow.holds Tryd.pinned (OpenSpec.ofChange streamStaysWrong)

/-- 'glazierlaw06.StreamDies': WHATEVER THE INPUT: true; the input reads as it did. -/
def streamDiesSpec : ChangeSpec := { name := "streamDies", fn := fun _ => fun
  | [d1, d2, d3] => { results := [.lit (.bool true)], args := [d1, d2, d3] }
  | _ => none }
def streamDiesRow : OpenClaim := { program := "ytplaaagcbleflaadoor", sum := "fc2a55bda71ee4d6efc93fbf964f71b188d4061cb6556abae4c6fb58a168ec3d", func := "glazier/glazierlaw06.StreamDies", spec := "streamDies", inPlace := ["internal/bytealg.IndexByteString", "internal/bytealg.IndexString", "internal/abi.NoEscape"], unfollowed := true, recurses := true, named := ["glazier/order.spans", "strings.asciiSpace", "unicode.White_Space", "glazier/format.sizes", "internal/bytealg.MaxLen"], apart := false, laid := [("glazier/order.spans", laid_glazier_order_spans), ("unicode.White_Space", laid_unicode_White_Space), ("strings.asciiSpace", laid_strings_asciiSpace), ("glazier/format.sizes", laid_glazier_format_sizes)] }
def StreamDiesSaid : Prop := streamDiesRow.holds Tryd.pinned (OpenSpec.ofChange streamDiesSpec)

/-- ITS FALSE NEIGHBOUR: 'it returns false'. Refute it at one input. -/
def streamDiesWrong : ChangeSpec := { name := "streamDies", fn := fun _ => fun
  | [d1, d2, d3] => { results := [.lit (.bool false)], args := [d1, d2, d3] }
  | _ => none }
def StreamDiesWrongFalsely : Prop := streamDiesRow.holds Tryd.pinned (OpenSpec.ofChange streamDiesWrong)

/-- 'glazierlaw06.StreamAsks': WHATEVER THE INPUT: true; the input reads as it did. -/
def streamAsksSpec : ChangeSpec := { name := "streamAsks", fn := fun _ => fun
  | [d1, d2] => { results := [.lit (.bool true)], args := [d1, d2] }
  | _ => none }
def streamAsksRow : OpenClaim := { program := "ytplaaagcbleflaadoor", sum := "fc2a55bda71ee4d6efc93fbf964f71b188d4061cb6556abae4c6fb58a168ec3d", func := "glazier/glazierlaw06.StreamAsks", spec := "streamAsks", inPlace := ["internal/bytealg.IndexByteString", "internal/bytealg.IndexString", "internal/abi.NoEscape"], unfollowed := true, recurses := true, named := ["glazier/order.spans", "strings.asciiSpace", "unicode.White_Space", "glazier/format.sizes", "internal/bytealg.MaxLen"], apart := false, laid := [("glazier/order.spans", laid_glazier_order_spans), ("unicode.White_Space", laid_unicode_White_Space), ("strings.asciiSpace", laid_strings_asciiSpace), ("glazier/format.sizes", laid_glazier_format_sizes)] }
def StreamAsksSaid : Prop := streamAsksRow.holds Tryd.pinned (OpenSpec.ofChange streamAsksSpec)

/-- ITS FALSE NEIGHBOUR: 'it returns false'. Refute it at one input. -/
def streamAsksWrong : ChangeSpec := { name := "streamAsks", fn := fun _ => fun
  | [d1, d2] => { results := [.lit (.bool false)], args := [d1, d2] }
  | _ => none }
def StreamAsksWrongFalsely : Prop := streamAsksRow.holds Tryd.pinned (OpenSpec.ofChange streamAsksWrong)

/-- 'glazierlaw06.StreamWrong': WHATEVER THE INPUT: true; the input reads as it did. -/
def streamWrongSpec : ChangeSpec := { name := "streamWrong", fn := fun _ => fun
  | [d1, d2, d3] => { results := [.lit (.bool true)], args := [d1, d2, d3] }
  | _ => none }
def streamWrongRow : OpenClaim := { program := "ytplaaagcbleflaadoor", sum := "fc2a55bda71ee4d6efc93fbf964f71b188d4061cb6556abae4c6fb58a168ec3d", func := "glazier/glazierlaw06.StreamWrong", spec := "streamWrong", inPlace := ["internal/bytealg.IndexByteString", "internal/bytealg.IndexString", "internal/abi.NoEscape"], unfollowed := true, recurses := true, named := ["glazier/order.spans", "strings.asciiSpace", "unicode.White_Space", "glazier/format.sizes", "internal/bytealg.MaxLen"], apart := false, laid := [("glazier/order.spans", laid_glazier_order_spans), ("unicode.White_Space", laid_unicode_White_Space), ("strings.asciiSpace", laid_strings_asciiSpace), ("glazier/format.sizes", laid_glazier_format_sizes)] }
def StreamWrongSaid : Prop := streamWrongRow.holds Tryd.pinned (OpenSpec.ofChange streamWrongSpec)

/-- ITS FALSE NEIGHBOUR: 'it returns false'. Refute it at one input. -/
def streamWrongWrong : ChangeSpec := { name := "streamWrong", fn := fun _ => fun
  | [d1, d2, d3] => { results := [.lit (.bool false)], args := [d1, d2, d3] }
  | _ => none }
def StreamWrongWrongFalsely : Prop := streamWrongRow.holds Tryd.pinned (OpenSpec.ofChange streamWrongWrong)

/- THE SECOND FORM. 'bulk': how many values and letters a reading holds, each counted each time it is reached (what is shared counts as often as it is met; a slice's spare places count too). A statement '..UptoSaid' is the law's where the arguments, and the package variables that the reading takes, are together of bulk at most 1048576: NARROWER than '..Said'. Prove '..Said' where nothing that the law and all that it calls make is longer than what came in: it says more and counts as full. Else prove '..UptoSaid'. A law counts once. -/
mutual
def uptoBulk {H : Type} : DataW H → Nat
  | .lit (.string bytes) => bytes.length + 1
  | .lit _ => 1
  | .nil => 1
  | .ptr d => uptoBulk d + 1
  | .slice elems spare => uptoBulkAll elems + uptoBulkAll spare + 1
  | .agg parts => uptoBulkAll parts + 1
  | .iface _ d => uptoBulk d + 1
  | .map entries => uptoBulkEntries entries + 1
  | .held _ => 1
def uptoBulkAll {H : Type} : List (DataW H) → Nat
  | [] => 0
  | d :: r => uptoBulk d + uptoBulkAll r
def uptoBulkEntries {H : Type} : List (Lit × DataW H) → Nat
  | [] => 0
  | x :: r => uptoBulkEntry x + uptoBulkEntries r
def uptoBulkEntry {H : Type} : Lit × DataW H → Nat
  | (.string bytes, d) => bytes.length + uptoBulk d + 1
  | (_, d) => uptoBulk d + 1
 end
def uptoSmall : (H : Type) → List (DataW H) → Bool := fun _ ds => decide (uptoBulkAll ds ≤ 1048576)
def OpenSpec.upto (s : _root_.Go.ChangeSpec) : _root_.Go.OpenSpec := { _root_.Go.OpenSpec.ofChange s with cond := some uptoSmall }

/-- 'glaziertop.TopJunk', WHERE WHAT IT READS IS OF BULK AT MOST 1048576: true; the input reads as it did. -/
def topJunkUptoRow : OpenClaim := { program := "ytplaaagcbleflaadoor", sum := "fc2a55bda71ee4d6efc93fbf964f71b188d4061cb6556abae4c6fb58a168ec3d", func := "glazier/glaziertop.TopJunk", spec := "topJunk", inPlace := ["internal/bytealg.IndexByteString", "internal/bytealg.IndexString"], unfollowed := true, recurses := true, named := ["glazier/order.spans", "strings.asciiSpace", "unicode.White_Space", "glazier/format.sizes", "internal/bytealg.MaxLen"], apart := false, laid := [("glazier/order.spans", laid_glazier_order_spans), ("unicode.White_Space", laid_unicode_White_Space), ("strings.asciiSpace", laid_strings_asciiSpace), ("glazier/format.sizes", laid_glazier_format_sizes)], narrowed := true }
def TopJunkUptoSaid : Prop := topJunkUptoRow.holds Tryd.pinned (OpenSpec.upto topJunkSpec)

/-- 'glazierlaw06.StreamBegins', WHERE WHAT IT READS IS OF BULK AT MOST 1048576: true; the input reads as it did. -/
def streamBeginsUptoRow : OpenClaim := { program := "ytplaaagcbleflaadoor", sum := "fc2a55bda71ee4d6efc93fbf964f71b188d4061cb6556abae4c6fb58a168ec3d", func := "glazier/glazierlaw06.StreamBegins", spec := "streamBegins", inPlace := ["internal/bytealg.IndexByteString", "internal/bytealg.IndexString"], unfollowed := true, recurses := true, named := ["glazier/order.spans", "strings.asciiSpace", "unicode.White_Space", "glazier/format.sizes", "internal/bytealg.MaxLen"], apart := false, laid := [("glazier/order.spans", laid_glazier_order_spans), ("unicode.White_Space", laid_unicode_White_Space), ("strings.asciiSpace", laid_strings_asciiSpace), ("glazier/format.sizes", laid_glazier_format_sizes)], narrowed := true }
def StreamBeginsUptoSaid : Prop := streamBeginsUptoRow.holds Tryd.pinned (OpenSpec.upto streamBeginsSpec)

/-- 'glaziertop.TopWire', WHERE WHAT IT READS IS OF BULK AT MOST 1048576: true; the input reads as it did. -/
def topWireUptoRow : OpenClaim := { program := "ytplaaagcbleflaadoor", sum := "fc2a55bda71ee4d6efc93fbf964f71b188d4061cb6556abae4c6fb58a168ec3d", func := "glazier/glaziertop.TopWire", spec := "topWire", inPlace := ["internal/bytealg.IndexByteString", "internal/bytealg.IndexString", "internal/abi.NoEscape", "maps.clone"], unfollowed := true, recurses := true, named := ["strings.asciiSpace", "unicode.White_Space", "glazier/format.sizes", "glazier/order.spans", "internal/bytealg.MaxLen"], apart := false, laid := [("glazier/order.spans", laid_glazier_order_spans), ("unicode.White_Space", laid_unicode_White_Space), ("strings.asciiSpace", laid_strings_asciiSpace), ("glazier/format.sizes", laid_glazier_format_sizes)], narrowed := true }
def TopWireUptoSaid : Prop := topWireUptoRow.holds Tryd.pinned (OpenSpec.upto topWireSpec)

/-- 'glazierlaw06.StreamFeeds', WHERE WHAT IT READS IS OF BULK AT MOST 1048576: true; the input reads as it did. -/
def streamFeedsUptoRow : OpenClaim := { program := "ytplaaagcbleflaadoor", sum := "fc2a55bda71ee4d6efc93fbf964f71b188d4061cb6556abae4c6fb58a168ec3d", func := "glazier/glazierlaw06.StreamFeeds", spec := "streamFeeds", inPlace := ["internal/bytealg.IndexByteString", "internal/bytealg.IndexString"], unfollowed := true, recurses := true, named := ["glazier/order.spans", "strings.asciiSpace", "unicode.White_Space", "glazier/format.sizes", "internal/bytealg.MaxLen"], apart := false, laid := [("glazier/order.spans", laid_glazier_order_spans), ("unicode.White_Space", laid_unicode_White_Space), ("strings.asciiSpace", laid_strings_asciiSpace), ("glazier/format.sizes", laid_glazier_format_sizes)], narrowed := true }
def StreamFeedsUptoSaid : Prop := streamFeedsUptoRow.holds Tryd.pinned (OpenSpec.upto streamFeedsSpec)

/-- 'glazierlaw06.StreamParts', WHERE WHAT IT READS IS OF BULK AT MOST 1048576: true; the input reads as it did. -/
def streamPartsUptoRow : OpenClaim := { program := "ytplaaagcbleflaadoor", sum := "fc2a55bda71ee4d6efc93fbf964f71b188d4061cb6556abae4c6fb58a168ec3d", func := "glazier/glazierlaw06.StreamParts", spec := "streamParts", inPlace := ["internal/bytealg.IndexByteString", "internal/bytealg.IndexString"], unfollowed := true, recurses := true, named := ["glazier/order.spans", "strings.asciiSpace", "unicode.White_Space", "glazier/format.sizes", "internal/bytealg.MaxLen"], apart := false, laid := [("glazier/order.spans", laid_glazier_order_spans), ("unicode.White_Space", laid_unicode_White_Space), ("strings.asciiSpace", laid_strings_asciiSpace), ("glazier/format.sizes", laid_glazier_format_sizes)], narrowed := true }
def StreamPartsUptoSaid : Prop := streamPartsUptoRow.holds Tryd.pinned (OpenSpec.upto streamPartsSpec)

/-- 'glazierlaw06.StreamStays', WHERE WHAT IT READS IS OF BULK AT MOST 1048576: true; the input reads as it did. -/
def streamStaysUptoRow : OpenClaim := { program := "ytplaaagcbleflaadoor", sum := "fc2a55bda71ee4d6efc93fbf964f71b188d4061cb6556abae4c6fb58a168ec3d", func := "glazier/glazierlaw06.StreamStays", spec := "streamStays", inPlace := ["internal/bytealg.IndexByteString", "internal/bytealg.IndexString"], unfollowed := true, recurses := true, named := ["glazier/order.spans", "strings.asciiSpace", "unicode.White_Space", "glazier/format.sizes", "internal/bytealg.MaxLen"], apart := false, laid := [("glazier/order.spans", laid_glazier_order_spans), ("unicode.White_Space", laid_unicode_White_Space), ("strings.asciiSpace", laid_strings_asciiSpace), ("glazier/format.sizes", laid_glazier_format_sizes)], narrowed := true }
def StreamStaysUptoSaid : Prop := streamStaysUptoRow.holds Tryd.pinned (OpenSpec.upto streamStaysSpec)

/-- 'glazierlaw06.StreamDies', WHERE WHAT IT READS IS OF BULK AT MOST 1048576: true; the input reads as it did. -/
def streamDiesUptoRow : OpenClaim := { program := "ytplaaagcbleflaadoor", sum := "fc2a55bda71ee4d6efc93fbf964f71b188d4061cb6556abae4c6fb58a168ec3d", func := "glazier/glazierlaw06.StreamDies", spec := "streamDies", inPlace := ["internal/bytealg.IndexByteString", "internal/bytealg.IndexString", "internal/abi.NoEscape"], unfollowed := true, recurses := true, named := ["glazier/order.spans", "strings.asciiSpace", "unicode.White_Space", "glazier/format.sizes", "internal/bytealg.MaxLen"], apart := false, laid := [("glazier/order.spans", laid_glazier_order_spans), ("unicode.White_Space", laid_unicode_White_Space), ("strings.asciiSpace", laid_strings_asciiSpace), ("glazier/format.sizes", laid_glazier_format_sizes)], narrowed := true }
def StreamDiesUptoSaid : Prop := streamDiesUptoRow.holds Tryd.pinned (OpenSpec.upto streamDiesSpec)

/-- 'glazierlaw06.StreamAsks', WHERE WHAT IT READS IS OF BULK AT MOST 1048576: true; the input reads as it did. -/
def streamAsksUptoRow : OpenClaim := { program := "ytplaaagcbleflaadoor", sum := "fc2a55bda71ee4d6efc93fbf964f71b188d4061cb6556abae4c6fb58a168ec3d", func := "glazier/glazierlaw06.StreamAsks", spec := "streamAsks", inPlace := ["internal/bytealg.IndexByteString", "internal/bytealg.IndexString", "internal/abi.NoEscape"], unfollowed := true, recurses := true, named := ["glazier/order.spans", "strings.asciiSpace", "unicode.White_Space", "glazier/format.sizes", "internal/bytealg.MaxLen"], apart := false, laid := [("glazier/order.spans", laid_glazier_order_spans), ("unicode.White_Space", laid_unicode_White_Space), ("strings.asciiSpace", laid_strings_asciiSpace), ("glazier/format.sizes", laid_glazier_format_sizes)], narrowed := true }
def StreamAsksUptoSaid : Prop := streamAsksUptoRow.holds Tryd.pinned (OpenSpec.upto streamAsksSpec)

/-- 'glazierlaw06.StreamWrong', WHERE WHAT IT READS IS OF BULK AT MOST 1048576: true; the input reads as it did. -/
def streamWrongUptoRow : OpenClaim := { program := "ytplaaagcbleflaadoor", sum := "fc2a55bda71ee4d6efc93fbf964f71b188d4061cb6556abae4c6fb58a168ec3d", func := "glazier/glazierlaw06.StreamWrong", spec := "streamWrong", inPlace := ["internal/bytealg.IndexByteString", "internal/bytealg.IndexString", "internal/abi.NoEscape"], unfollowed := true, recurses := true, named := ["glazier/order.spans", "strings.asciiSpace", "unicode.White_Space", "glazier/format.sizes", "internal/bytealg.MaxLen"], apart := false, laid := [("glazier/order.spans", laid_glazier_order_spans), ("unicode.White_Space", laid_unicode_White_Space), ("strings.asciiSpace", laid_strings_asciiSpace), ("glazier/format.sizes", laid_glazier_format_sizes)], narrowed := true }
def StreamWrongUptoSaid : Prop := streamWrongUptoRow.holds Tryd.pinned (OpenSpec.upto streamWrongSpec)

end Rows
end Go.Proofs.YtplaaagcbleflaaDoor
