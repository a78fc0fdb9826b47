/-
  NARROWER THAN 'FOR EVERY INPUT', by the rows' own cells (each row's printed sentence says how): StubWide: laid · StubAsks: laid · StubFresh: laid · StubZero: laid · StubParts: laid · StubGets: laid · TopWaits: laid · TopBack: laid.
  DERIVED. THE GIVEN ROWS OF THIS SEAT. 8 by the template 'for every input the law returns true; each argument reads behind the call as it read before'; 0 by the template 'total and deterministic' (their statements: YtbpjoeopnaggoaaDoorTotals.lean).
  GIVEN WITH THE SEED: the statements are not yours to turn. If you find one false, say at which input.
  Laid BY PROGRAM, IN A SANDBOX (cutbox-rows.mjs): the forced cells as the released guide's own fill.sh prints them over the translation ebca448f66f47631… (all of the seat's roots in one cut). By AI agents, Wed Nov 11 2026. No macro, syntax, notation, axiom, sorry.
-/
import Derived.Test.YtbpjoeopnaggoaaDoorChecked
import GoSem.Claim
import GoSem.ClaimJoined
import GoSem.ClaimMapViews
import Derived.JoinedTies
import Derived.KernelRfl
namespace Go.Proofs.YtbpjoeopnaggoaaDoor
/- THE CELL 'sum', in the pinned program and in every row, IS THE sha256 OF THE DUMP (.gsa) THAT YtbpjoeopnaggoaaDoorProg.lean LOADS. Nothing in Lean hashes anything: it is a label: what it is worth is what the hold of that sum in a sandbox is worth. -/
noncomputable def Tryd.pinned : Pinned := { name := "ytbpjoeopnaggoaadoor", sum := "ebca448f66f476315908f375f3149218b35d735fecb9f8ca086f710a94806a7c", checked := Tryd.checked }
namespace Rows
def none {H : Type} : Left H := { results := [], args := [] }

/- WHAT THE LISTED PACKAGE-LEVEL VARIABLES READ AS WHEN THE CALL BEGINS. Each datum BY PROGRAM (the guide's laid-datum.mjs) off the statement by which the dump's own 'gosem.cut.vars' lays the variable. In a bare row this is a premise. The card (YtbpjoeopnaggoaaDoorCards.lean) ties it to the program's text. -/
def laid_glazier_order_spans {H : Type} : DataW H := .agg [.agg [.lit (.int .i64 1), .lit (.int .i64 0), .lit (.int .i64 255)], .agg [.lit (.int .i64 2), .lit (.int .i64 0), .lit (.int .i64 65535)], .agg [.lit (.int .i64 4), .lit (.int .i64 0), .lit (.int .i64 4294967295)], .agg [.lit (.int .i64 (-1)), .lit (.int .i64 (-128)), .lit (.int .i64 127)], .agg [.lit (.int .i64 (-2)), .lit (.int .i64 (-32768)), .lit (.int .i64 32767)], .agg [.lit (.int .i64 (-4)), .lit (.int .i64 (-2147483648)), .lit (.int .i64 2147483647)]]
def laid_unicode_White_Space {H : Type} : DataW H := .ptr (.agg [.slice [.agg [.lit (.int .u16 9), .lit (.int .u16 13), .lit (.int .u16 1)], .agg [.lit (.int .u16 32), .lit (.int .u16 133), .lit (.int .u16 101)], .agg [.lit (.int .u16 160), .lit (.int .u16 5760), .lit (.int .u16 5600)], .agg [.lit (.int .u16 8192), .lit (.int .u16 8202), .lit (.int .u16 1)], .agg [.lit (.int .u16 8232), .lit (.int .u16 8233), .lit (.int .u16 1)], .agg [.lit (.int .u16 8239), .lit (.int .u16 8287), .lit (.int .u16 48)], .agg [.lit (.int .u16 12288), .lit (.int .u16 12288), .lit (.int .u16 1)]] [], .nil, .lit (.int .i64 2)])
def laid_strings_asciiSpace {H : Type} : DataW H := .agg [.lit (.int .u8 0), .lit (.int .u8 0), .lit (.int .u8 0), .lit (.int .u8 0), .lit (.int .u8 0), .lit (.int .u8 0), .lit (.int .u8 0), .lit (.int .u8 0), .lit (.int .u8 0), .lit (.int .u8 1), .lit (.int .u8 1), .lit (.int .u8 1), .lit (.int .u8 1), .lit (.int .u8 1), .lit (.int .u8 0), .lit (.int .u8 0), .lit (.int .u8 0), .lit (.int .u8 0), .lit (.int .u8 0), .lit (.int .u8 0), .lit (.int .u8 0), .lit (.int .u8 0), .lit (.int .u8 0), .lit (.int .u8 0), .lit (.int .u8 0), .lit (.int .u8 0), .lit (.int .u8 0), .lit (.int .u8 0), .lit (.int .u8 0), .lit (.int .u8 0), .lit (.int .u8 0), .lit (.int .u8 0), .lit (.int .u8 1), .lit (.int .u8 0), .lit (.int .u8 0), .lit (.int .u8 0), .lit (.int .u8 0), .lit (.int .u8 0), .lit (.int .u8 0), .lit (.int .u8 0), .lit (.int .u8 0), .lit (.int .u8 0), .lit (.int .u8 0), .lit (.int .u8 0), .lit (.int .u8 0), .lit (.int .u8 0), .lit (.int .u8 0), .lit (.int .u8 0), .lit (.int .u8 0), .lit (.int .u8 0), .lit (.int .u8 0), .lit (.int .u8 0), .lit (.int .u8 0), .lit (.int .u8 0), .lit (.int .u8 0), .lit (.int .u8 0), .lit (.int .u8 0), .lit (.int .u8 0), .lit (.int .u8 0), .lit (.int .u8 0), .lit (.int .u8 0), .lit (.int .u8 0), .lit (.int .u8 0), .lit (.int .u8 0), .lit (.int .u8 0), .lit (.int .u8 0), .lit (.int .u8 0), .lit (.int .u8 0), .lit (.int .u8 0), .lit (.int .u8 0), .lit (.int .u8 0), .lit (.int .u8 0), .lit (.int .u8 0), .lit (.int .u8 0), .lit (.int .u8 0), .lit (.int .u8 0), .lit (.int .u8 0), .lit (.int .u8 0), .lit (.int .u8 0), .lit (.int .u8 0), .lit (.int .u8 0), .lit (.int .u8 0), .lit (.int .u8 0), .lit (.int .u8 0), .lit (.int .u8 0), .lit (.int .u8 0), .lit (.int .u8 0), .lit (.int .u8 0), .lit (.int .u8 0), .lit (.int .u8 0), .lit (.int .u8 0), .lit (.int .u8 0), .lit (.int .u8 0), .lit (.int .u8 0), .lit (.int .u8 0), .lit (.int .u8 0), .lit (.int .u8 0), .lit (.int .u8 0), .lit (.int .u8 0), .lit (.int .u8 0), .lit (.int .u8 0), .lit (.int .u8 0), .lit (.int .u8 0), .lit (.int .u8 0), .lit (.int .u8 0), .lit (.int .u8 0), .lit (.int .u8 0), .lit (.int .u8 0), .lit (.int .u8 0), .lit (.int .u8 0), .lit (.int .u8 0), .lit (.int .u8 0), .lit (.int .u8 0), .lit (.int .u8 0), .lit (.int .u8 0), .lit (.int .u8 0), .lit (.int .u8 0), .lit (.int .u8 0), .lit (.int .u8 0), .lit (.int .u8 0), .lit (.int .u8 0), .lit (.int .u8 0), .lit (.int .u8 0), .lit (.int .u8 0), .lit (.int .u8 0), .lit (.int .u8 0), .lit (.int .u8 0), .lit (.int .u8 0), .lit (.int .u8 0), .lit (.int .u8 0), .lit (.int .u8 0), .lit (.int .u8 0), .lit (.int .u8 0), .lit (.int .u8 0), .lit (.int .u8 0), .lit (.int .u8 0), .lit (.int .u8 0), .lit (.int .u8 0), .lit (.int .u8 0), .lit (.int .u8 0), .lit (.int .u8 0), .lit (.int .u8 0), .lit (.int .u8 0), .lit (.int .u8 0), .lit (.int .u8 0), .lit (.int .u8 0), .lit (.int .u8 0), .lit (.int .u8 0), .lit (.int .u8 0), .lit (.int .u8 0), .lit (.int .u8 0), .lit (.int .u8 0), .lit (.int .u8 0), .lit (.int .u8 0), .lit (.int .u8 0), .lit (.int .u8 0), .lit (.int .u8 0), .lit (.int .u8 0), .lit (.int .u8 0), .lit (.int .u8 0), .lit (.int .u8 0), .lit (.int .u8 0), .lit (.int .u8 0), .lit (.int .u8 0), .lit (.int .u8 0), .lit (.int .u8 0), .lit (.int .u8 0), .lit (.int .u8 0), .lit (.int .u8 0), .lit (.int .u8 0), .lit (.int .u8 0), .lit (.int .u8 0), .lit (.int .u8 0), .lit (.int .u8 0), .lit (.int .u8 0), .lit (.int .u8 0), .lit (.int .u8 0), .lit (.int .u8 0), .lit (.int .u8 0), .lit (.int .u8 0), .lit (.int .u8 0), .lit (.int .u8 0), .lit (.int .u8 0), .lit (.int .u8 0), .lit (.int .u8 0), .lit (.int .u8 0), .lit (.int .u8 0), .lit (.int .u8 0), .lit (.int .u8 0), .lit (.int .u8 0), .lit (.int .u8 0), .lit (.int .u8 0), .lit (.int .u8 0), .lit (.int .u8 0), .lit (.int .u8 0), .lit (.int .u8 0), .lit (.int .u8 0), .lit (.int .u8 0), .lit (.int .u8 0), .lit (.int .u8 0), .lit (.int .u8 0), .lit (.int .u8 0), .lit (.int .u8 0), .lit (.int .u8 0), .lit (.int .u8 0), .lit (.int .u8 0), .lit (.int .u8 0), .lit (.int .u8 0), .lit (.int .u8 0), .lit (.int .u8 0), .lit (.int .u8 0), .lit (.int .u8 0), .lit (.int .u8 0), .lit (.int .u8 0), .lit (.int .u8 0), .lit (.int .u8 0), .lit (.int .u8 0), .lit (.int .u8 0), .lit (.int .u8 0), .lit (.int .u8 0), .lit (.int .u8 0), .lit (.int .u8 0), .lit (.int .u8 0), .lit (.int .u8 0), .lit (.int .u8 0), .lit (.int .u8 0), .lit (.int .u8 0), .lit (.int .u8 0), .lit (.int .u8 0), .lit (.int .u8 0), .lit (.int .u8 0), .lit (.int .u8 0), .lit (.int .u8 0), .lit (.int .u8 0), .lit (.int .u8 0), .lit (.int .u8 0), .lit (.int .u8 0), .lit (.int .u8 0), .lit (.int .u8 0), .lit (.int .u8 0), .lit (.int .u8 0), .lit (.int .u8 0), .lit (.int .u8 0), .lit (.int .u8 0), .lit (.int .u8 0), .lit (.int .u8 0), .lit (.int .u8 0), .lit (.int .u8 0), .lit (.int .u8 0), .lit (.int .u8 0), .lit (.int .u8 0), .lit (.int .u8 0), .lit (.int .u8 0), .lit (.int .u8 0), .lit (.int .u8 0), .lit (.int .u8 0)]
def laid_glazier_format_sizes {H : Type} : DataW H := .agg [.lit (.int .i64 1), .lit (.int .i64 2), .lit (.int .i64 4), .lit (.int .i64 (-1)), .lit (.int .i64 (-2)), .lit (.int .i64 (-4))]

/-- 'glazierlaw08.StubWide': WHATEVER THE INPUT: true; the input reads as it did. -/
def stubWideSpec : ChangeSpec := { name := "stubWide", fn := fun _ => fun
  | [d1, d2] => { results := [.lit (.bool true)], args := [d1, d2] }
  | _ => none }
def stubWideRow : OpenClaim := { program := "ytbpjoeopnaggoaadoor", sum := "ebca448f66f476315908f375f3149218b35d735fecb9f8ca086f710a94806a7c", func := "glazier/glazierlaw08.StubWide", spec := "stubWide", inPlace := ["internal/bytealg.IndexByteString", "internal/bytealg.IndexString", "internal/abi.NoEscape", "maps.clone"], unfollowed := true, recurses := true, named := ["strings.asciiSpace", "unicode.White_Space", "glazier/format.sizes", "glazier/order.spans", "internal/bytealg.MaxLen"], apart := false, laid := [("glazier/order.spans", laid_glazier_order_spans), ("unicode.White_Space", laid_unicode_White_Space), ("strings.asciiSpace", laid_strings_asciiSpace), ("glazier/format.sizes", laid_glazier_format_sizes)] }
def StubWideSaid : Prop := stubWideRow.holds Tryd.pinned (OpenSpec.ofChange stubWideSpec)

/-- ITS FALSE NEIGHBOUR: 'it returns false'. Refute it at one input. -/
def stubWideWrong : ChangeSpec := { name := "stubWide", fn := fun _ => fun
  | [d1, d2] => { results := [.lit (.bool false)], args := [d1, d2] }
  | _ => none }
def StubWideWrongFalsely : Prop := stubWideRow.holds Tryd.pinned (OpenSpec.ofChange stubWideWrong)

/-- 'glazierlaw08.StubAsks': WHATEVER THE INPUT: true; the input reads as it did. -/
def stubAsksSpec : ChangeSpec := { name := "stubAsks", fn := fun _ => fun
  | [d1, d2, d3, d4] => { results := [.lit (.bool true)], args := [d1, d2, d3, d4] }
  | _ => none }
def stubAsksRow : OpenClaim := { program := "ytbpjoeopnaggoaadoor", sum := "ebca448f66f476315908f375f3149218b35d735fecb9f8ca086f710a94806a7c", func := "glazier/glazierlaw08.StubAsks", spec := "stubAsks", inPlace := ["internal/bytealg.IndexByteString", "internal/bytealg.IndexString", "internal/abi.NoEscape", "maps.clone"], unfollowed := true, recurses := true, named := ["strings.asciiSpace", "unicode.White_Space", "glazier/format.sizes", "glazier/order.spans", "internal/bytealg.MaxLen"], apart := false, laid := [("glazier/order.spans", laid_glazier_order_spans), ("unicode.White_Space", laid_unicode_White_Space), ("strings.asciiSpace", laid_strings_asciiSpace), ("glazier/format.sizes", laid_glazier_format_sizes)] }
def StubAsksSaid : Prop := stubAsksRow.holds Tryd.pinned (OpenSpec.ofChange stubAsksSpec)

/-- ITS FALSE NEIGHBOUR: 'it returns false'. Refute it at one input. -/
def stubAsksWrong : ChangeSpec := { name := "stubAsks", fn := fun _ => fun
  | [d1, d2, d3, d4] => { results := [.lit (.bool false)], args := [d1, d2, d3, d4] }
  | _ => none }
def StubAsksWrongFalsely : Prop := stubAsksRow.holds Tryd.pinned (OpenSpec.ofChange stubAsksWrong)

/-- 'glazierlaw08.StubFresh': WHATEVER THE INPUT: true; the input reads as it did. -/
def stubFreshSpec : ChangeSpec := { name := "stubFresh", fn := fun _ => fun
  | [d1, d2, d3] => { results := [.lit (.bool true)], args := [d1, d2, d3] }
  | _ => none }
def stubFreshRow : OpenClaim := { program := "ytbpjoeopnaggoaadoor", sum := "ebca448f66f476315908f375f3149218b35d735fecb9f8ca086f710a94806a7c", func := "glazier/glazierlaw08.StubFresh", spec := "stubFresh", inPlace := ["internal/bytealg.IndexByteString", "internal/bytealg.IndexString", "internal/abi.NoEscape", "maps.clone"], unfollowed := true, recurses := true, named := ["strings.asciiSpace", "unicode.White_Space", "glazier/format.sizes", "glazier/order.spans", "internal/bytealg.MaxLen"], apart := false, laid := [("glazier/order.spans", laid_glazier_order_spans), ("unicode.White_Space", laid_unicode_White_Space), ("strings.asciiSpace", laid_strings_asciiSpace), ("glazier/format.sizes", laid_glazier_format_sizes)] }
def StubFreshSaid : Prop := stubFreshRow.holds Tryd.pinned (OpenSpec.ofChange stubFreshSpec)

/-- ITS FALSE NEIGHBOUR: 'it returns false'. Refute it at one input. -/
def stubFreshWrong : ChangeSpec := { name := "stubFresh", fn := fun _ => fun
  | [d1, d2, d3] => { results := [.lit (.bool false)], args := [d1, d2, d3] }
  | _ => none }
def StubFreshWrongFalsely : Prop := stubFreshRow.holds Tryd.pinned (OpenSpec.ofChange stubFreshWrong)

/-- 'glazierlaw08.StubZero': WHATEVER THE INPUT: true; the input reads as it did. -/
def stubZeroSpec : ChangeSpec := { name := "stubZero", fn := fun _ => fun
  | [d1, d2] => { results := [.lit (.bool true)], args := [d1, d2] }
  | _ => none }
def stubZeroRow : OpenClaim := { program := "ytbpjoeopnaggoaadoor", sum := "ebca448f66f476315908f375f3149218b35d735fecb9f8ca086f710a94806a7c", func := "glazier/glazierlaw08.StubZero", spec := "stubZero", inPlace := ["internal/bytealg.IndexByteString", "internal/bytealg.IndexString", "internal/abi.NoEscape", "maps.clone"], unfollowed := true, recurses := true, named := ["strings.asciiSpace", "unicode.White_Space", "glazier/format.sizes", "glazier/order.spans", "internal/bytealg.MaxLen"], apart := false, laid := [("glazier/order.spans", laid_glazier_order_spans), ("unicode.White_Space", laid_unicode_White_Space), ("strings.asciiSpace", laid_strings_asciiSpace), ("glazier/format.sizes", laid_glazier_format_sizes)] }
def StubZeroSaid : Prop := stubZeroRow.holds Tryd.pinned (OpenSpec.ofChange stubZeroSpec)

/-- ITS FALSE NEIGHBOUR: 'it returns false'. Refute it at one input. -/
def stubZeroWrong : ChangeSpec := { name := "stubZero", fn := fun _ => fun
  | [d1, d2] => { results := [.lit (.bool false)], args := [d1, d2] }
  | _ => none }
def StubZeroWrongFalsely : Prop := stubZeroRow.holds Tryd.pinned (OpenSpec.ofChange stubZeroWrong)

/-- 'glazierlaw08.StubParts': WHATEVER THE INPUT: true; the input reads as it did. -/
def stubPartsSpec : ChangeSpec := { name := "stubParts", fn := fun _ => fun
  | [d1, d2, d3, d4] => { results := [.lit (.bool true)], args := [d1, d2, d3, d4] }
  | _ => none }
def stubPartsRow : OpenClaim := { program := "ytbpjoeopnaggoaadoor", sum := "ebca448f66f476315908f375f3149218b35d735fecb9f8ca086f710a94806a7c", func := "glazier/glazierlaw08.StubParts", spec := "stubParts", inPlace := ["internal/bytealg.IndexByteString", "internal/bytealg.IndexString", "internal/abi.NoEscape", "maps.clone"], unfollowed := true, recurses := true, named := ["strings.asciiSpace", "unicode.White_Space", "glazier/format.sizes", "glazier/order.spans", "internal/bytealg.MaxLen"], apart := false, laid := [("glazier/order.spans", laid_glazier_order_spans), ("unicode.White_Space", laid_unicode_White_Space), ("strings.asciiSpace", laid_strings_asciiSpace), ("glazier/format.sizes", laid_glazier_format_sizes)] }
def StubPartsSaid : Prop := stubPartsRow.holds Tryd.pinned (OpenSpec.ofChange stubPartsSpec)

/-- ITS FALSE NEIGHBOUR: 'it returns false'. Refute it at one input. -/
def stubPartsWrong : ChangeSpec := { name := "stubParts", fn := fun _ => fun
  | [d1, d2, d3, d4] => { results := [.lit (.bool false)], args := [d1, d2, d3, d4] }
  | _ => none }
def StubPartsWrongFalsely : Prop := stubPartsRow.holds Tryd.pinned (OpenSpec.ofChange stubPartsWrong)

/-- 'glazierlaw08.StubGets': WHATEVER THE INPUT: true; the input reads as it did. -/
def stubGetsSpec : ChangeSpec := { name := "stubGets", fn := fun _ => fun
  | [d1, d2] => { results := [.lit (.bool true)], args := [d1, d2] }
  | _ => none }
def stubGetsRow : OpenClaim := { program := "ytbpjoeopnaggoaadoor", sum := "ebca448f66f476315908f375f3149218b35d735fecb9f8ca086f710a94806a7c", func := "glazier/glazierlaw08.StubGets", spec := "stubGets", inPlace := ["internal/bytealg.IndexByteString", "internal/bytealg.IndexString", "internal/abi.NoEscape", "maps.clone"], unfollowed := true, recurses := true, named := ["strings.asciiSpace", "unicode.White_Space", "glazier/format.sizes", "glazier/order.spans", "internal/bytealg.MaxLen"], apart := false, laid := [("glazier/order.spans", laid_glazier_order_spans), ("unicode.White_Space", laid_unicode_White_Space), ("strings.asciiSpace", laid_strings_asciiSpace), ("glazier/format.sizes", laid_glazier_format_sizes)] }
def StubGetsSaid : Prop := stubGetsRow.holds Tryd.pinned (OpenSpec.ofChange stubGetsSpec)

/-- ITS FALSE NEIGHBOUR: 'it returns false'. Refute it at one input. -/
def stubGetsWrong : ChangeSpec := { name := "stubGets", fn := fun _ => fun
  | [d1, d2] => { results := [.lit (.bool false)], args := [d1, d2] }
  | _ => none }
def StubGetsWrongFalsely : Prop := stubGetsRow.holds Tryd.pinned (OpenSpec.ofChange stubGetsWrong)

/-- 'glaziertop.TopWaits': WHATEVER THE INPUT: true; the input reads as it did. -/
def topWaitsSpec : ChangeSpec := { name := "topWaits", fn := fun _ => fun
  | [d1, d2] => { results := [.lit (.bool true)], args := [d1, d2] }
  | _ => none }
def topWaitsRow : OpenClaim := { program := "ytbpjoeopnaggoaadoor", sum := "ebca448f66f476315908f375f3149218b35d735fecb9f8ca086f710a94806a7c", func := "glazier/glaziertop.TopWaits", spec := "topWaits", inPlace := ["internal/bytealg.IndexByteString", "internal/bytealg.IndexString", "internal/abi.NoEscape", "maps.clone"], unfollowed := true, recurses := true, named := ["strings.asciiSpace", "unicode.White_Space", "glazier/format.sizes", "glazier/order.spans", "internal/bytealg.MaxLen"], apart := false, laid := [("glazier/order.spans", laid_glazier_order_spans), ("unicode.White_Space", laid_unicode_White_Space), ("strings.asciiSpace", laid_strings_asciiSpace), ("glazier/format.sizes", laid_glazier_format_sizes)] }
def TopWaitsSaid : Prop := topWaitsRow.holds Tryd.pinned (OpenSpec.ofChange topWaitsSpec)

/-- ITS FALSE NEIGHBOUR: 'it returns false'. Refute it at one input. -/
def topWaitsWrong : ChangeSpec := { name := "topWaits", fn := fun _ => fun
  | [d1, d2] => { results := [.lit (.bool false)], args := [d1, d2] }
  | _ => none }
def TopWaitsWrongFalsely : Prop := topWaitsRow.holds Tryd.pinned (OpenSpec.ofChange topWaitsWrong)

/-- 'glaziertop.TopBack': WHATEVER THE INPUT: true; the input reads as it did. -/
def topBackSpec : ChangeSpec := { name := "topBack", fn := fun _ => fun
  | [d1, d2, d3, d4] => { results := [.lit (.bool true)], args := [d1, d2, d3, d4] }
  | _ => none }
def topBackRow : OpenClaim := { program := "ytbpjoeopnaggoaadoor", sum := "ebca448f66f476315908f375f3149218b35d735fecb9f8ca086f710a94806a7c", func := "glazier/glaziertop.TopBack", spec := "topBack", inPlace := ["internal/bytealg.IndexByteString", "internal/bytealg.IndexString", "internal/abi.NoEscape", "maps.clone"], unfollowed := true, recurses := true, named := ["strings.asciiSpace", "unicode.White_Space", "glazier/format.sizes", "glazier/order.spans", "internal/bytealg.MaxLen"], apart := false, laid := [("glazier/order.spans", laid_glazier_order_spans), ("unicode.White_Space", laid_unicode_White_Space), ("strings.asciiSpace", laid_strings_asciiSpace), ("glazier/format.sizes", laid_glazier_format_sizes)] }
def TopBackSaid : Prop := topBackRow.holds Tryd.pinned (OpenSpec.ofChange topBackSpec)

/-- ITS FALSE NEIGHBOUR: 'it returns false'. Refute it at one input. -/
def topBackWrong : ChangeSpec := { name := "topBack", fn := fun _ => fun
  | [d1, d2, d3, d4] => { results := [.lit (.bool false)], args := [d1, d2, d3, d4] }
  | _ => none }
def TopBackWrongFalsely : Prop := topBackRow.holds Tryd.pinned (OpenSpec.ofChange topBackWrong)

/- THE SECOND FORM. 'bulk': how many values and letters a reading holds, each counted each time it is reached (what is shared counts as often as it is met; a slice's spare places count too). A statement '..UptoSaid' is the law's where the arguments, and the package variables that the reading takes, are together of bulk at most 1048576: NARROWER than '..Said'. Prove '..Said' where nothing that the law and all that it calls make is longer than what came in: it says more and counts as full. Else prove '..UptoSaid'. A law counts once. -/
mutual
def uptoBulk {H : Type} : DataW H → Nat
  | .lit (.string bytes) => bytes.length + 1
  | .lit _ => 1
  | .nil => 1
  | .ptr d => uptoBulk d + 1
  | .slice elems spare => uptoBulkAll elems + uptoBulkAll spare + 1
  | .agg parts => uptoBulkAll parts + 1
  | .iface _ d => uptoBulk d + 1
  | .map entries => uptoBulkEntries entries + 1
  | .held _ => 1
def uptoBulkAll {H : Type} : List (DataW H) → Nat
  | [] => 0
  | d :: r => uptoBulk d + uptoBulkAll r
def uptoBulkEntries {H : Type} : List (Lit × DataW H) → Nat
  | [] => 0
  | x :: r => uptoBulkEntry x + uptoBulkEntries r
def uptoBulkEntry {H : Type} : Lit × DataW H → Nat
  | (.string bytes, d) => bytes.length + uptoBulk d + 1
  | (_, d) => uptoBulk d + 1
 end
def uptoSmall : (H : Type) → List (DataW H) → Bool := fun _ ds => decide (uptoBulkAll ds ≤ 1048576)
def OpenSpec.upto (s : _root_.Go.ChangeSpec) : _root_.Go.OpenSpec := { _root_.Go.OpenSpec.ofChange s with cond := some uptoSmall }

/-- 'glazierlaw08.StubWide', WHERE WHAT IT READS IS OF BULK AT MOST 1048576: true; the input reads as it did. -/
def stubWideUptoRow : OpenClaim := { program := "ytbpjoeopnaggoaadoor", sum := "ebca448f66f476315908f375f3149218b35d735fecb9f8ca086f710a94806a7c", func := "glazier/glazierlaw08.StubWide", spec := "stubWide", inPlace := ["internal/bytealg.IndexByteString", "internal/bytealg.IndexString", "internal/abi.NoEscape", "maps.clone"], unfollowed := true, recurses := true, named := ["strings.asciiSpace", "unicode.White_Space", "glazier/format.sizes", "glazier/order.spans", "internal/bytealg.MaxLen"], apart := false, laid := [("glazier/order.spans", laid_glazier_order_spans), ("unicode.White_Space", laid_unicode_White_Space), ("strings.asciiSpace", laid_strings_asciiSpace), ("glazier/format.sizes", laid_glazier_format_sizes)], narrowed := true }
def StubWideUptoSaid : Prop := stubWideUptoRow.holds Tryd.pinned (OpenSpec.upto stubWideSpec)

/-- 'glazierlaw08.StubAsks', WHERE WHAT IT READS IS OF BULK AT MOST 1048576: true; the input reads as it did. -/
def stubAsksUptoRow : OpenClaim := { program := "ytbpjoeopnaggoaadoor", sum := "ebca448f66f476315908f375f3149218b35d735fecb9f8ca086f710a94806a7c", func := "glazier/glazierlaw08.StubAsks", spec := "stubAsks", inPlace := ["internal/bytealg.IndexByteString", "internal/bytealg.IndexString", "internal/abi.NoEscape", "maps.clone"], unfollowed := true, recurses := true, named := ["strings.asciiSpace", "unicode.White_Space", "glazier/format.sizes", "glazier/order.spans", "internal/bytealg.MaxLen"], apart := false, laid := [("glazier/order.spans", laid_glazier_order_spans), ("unicode.White_Space", laid_unicode_White_Space), ("strings.asciiSpace", laid_strings_asciiSpace), ("glazier/format.sizes", laid_glazier_format_sizes)], narrowed := true }
def StubAsksUptoSaid : Prop := stubAsksUptoRow.holds Tryd.pinned (OpenSpec.upto stubAsksSpec)

/-- 'glazierlaw08.StubFresh', WHERE WHAT IT READS IS OF BULK AT MOST 1048576: true; the input reads as it did. -/
def stubFreshUptoRow : OpenClaim := { program := "ytbpjoeopnaggoaadoor", sum := "ebca448f66f476315908f375f3149218b35d735fecb9f8ca086f710a94806a7c", func := "glazier/glazierlaw08.StubFresh", spec := "stubFresh", inPlace := ["internal/bytealg.IndexByteString", "internal/bytealg.IndexString", "internal/abi.NoEscape", "maps.clone"], unfollowed := true, recurses := true, named := ["strings.asciiSpace", "unicode.White_Space", "glazier/format.sizes", "glazier/order.spans", "internal/bytealg.MaxLen"], apart := false, laid := [("glazier/order.spans", laid_glazier_order_spans), ("unicode.White_Space", laid_unicode_White_Space), ("strings.asciiSpace", laid_strings_asciiSpace), ("glazier/format.sizes", laid_glazier_format_sizes)], narrowed := true }
def StubFreshUptoSaid : Prop := stubFreshUptoRow.holds Tryd.pinned (OpenSpec.upto stubFreshSpec)

/-- 'glazierlaw08.StubZero', WHERE WHAT IT READS IS OF BULK AT MOST 1048576: true; the input reads as it did. -/
def stubZeroUptoRow : OpenClaim := { program := "ytbpjoeopnaggoaadoor", sum := "ebca448f66f476315908f375f3149218b35d735fecb9f8ca086f710a94806a7c", func := "glazier/glazierlaw08.StubZero", spec := "stubZero", inPlace := ["internal/bytealg.IndexByteString", "internal/bytealg.IndexString", "internal/abi.NoEscape", "maps.clone"], unfollowed := true, recurses := true, named := ["strings.asciiSpace", "unicode.White_Space", "glazier/format.sizes", "glazier/order.spans", "internal/bytealg.MaxLen"], apart := false, laid := [("glazier/order.spans", laid_glazier_order_spans), ("unicode.White_Space", laid_unicode_White_Space), ("strings.asciiSpace", laid_strings_asciiSpace), ("glazier/format.sizes", laid_glazier_format_sizes)], narrowed := true }
def StubZeroUptoSaid : Prop := stubZeroUptoRow.holds Tryd.pinned (OpenSpec.upto stubZeroSpec)

/-- 'glazierlaw08.StubParts', WHERE WHAT IT READS IS OF BULK AT MOST 1048576: true; the input reads as it did. -/
def stubPartsUptoRow : OpenClaim := { program := "ytbpjoeopnaggoaadoor", sum := "ebca448f66f476315908f375f3149218b35d735fecb9f8ca086f710a94806a7c", func := "glazier/glazierlaw08.StubParts", spec := "stubParts", inPlace := ["internal/bytealg.IndexByteString", "internal/bytealg.IndexString", "internal/abi.NoEscape", "maps.clone"], unfollowed := true, recurses := true, named := ["strings.asciiSpace", "unicode.White_Space", "glazier/format.sizes", "glazier/order.spans", "internal/bytealg.MaxLen"], apart := false, laid := [("glazier/order.spans", laid_glazier_order_spans), ("unicode.White_Space", laid_unicode_White_Space), ("strings.asciiSpace", laid_strings_asciiSpace), ("glazier/format.sizes", laid_glazier_format_sizes)], narrowed := true }
def StubPartsUptoSaid : Prop := stubPartsUptoRow.holds Tryd.pinned (OpenSpec.upto stubPartsSpec)

/-- 'glazierlaw08.StubGets', WHERE WHAT IT READS IS OF BULK AT MOST 1048576: true; the input reads as it did. -/
def stubGetsUptoRow : OpenClaim := { program := "ytbpjoeopnaggoaadoor", sum := "ebca448f66f476315908f375f3149218b35d735fecb9f8ca086f710a94806a7c", func := "glazier/glazierlaw08.StubGets", spec := "stubGets", inPlace := ["internal/bytealg.IndexByteString", "internal/bytealg.IndexString", "internal/abi.NoEscape", "maps.clone"], unfollowed := true, recurses := true, named := ["strings.asciiSpace", "unicode.White_Space", "glazier/format.sizes", "glazier/order.spans", "internal/bytealg.MaxLen"], apart := false, laid := [("glazier/order.spans", laid_glazier_order_spans), ("unicode.White_Space", laid_unicode_White_Space), ("strings.asciiSpace", laid_strings_asciiSpace), ("glazier/format.sizes", laid_glazier_format_sizes)], narrowed := true }
def StubGetsUptoSaid : Prop := stubGetsUptoRow.holds Tryd.pinned (OpenSpec.upto stubGetsSpec)

/-- 'glaziertop.TopWaits', WHERE WHAT IT READS IS OF BULK AT MOST 1048576: true; the input reads as it did. -/
def topWaitsUptoRow : OpenClaim := { program := "ytbpjoeopnaggoaadoor", sum := "ebca448f66f476315908f375f3149218b35d735fecb9f8ca086f710a94806a7c", func := "glazier/glaziertop.TopWaits", spec := "topWaits", inPlace := ["internal/bytealg.IndexByteString", "internal/bytealg.IndexString", "internal/abi.NoEscape", "maps.clone"], unfollowed := true, recurses := true, named := ["strings.asciiSpace", "unicode.White_Space", "glazier/format.sizes", "glazier/order.spans", "internal/bytealg.MaxLen"], apart := false, laid := [("glazier/order.spans", laid_glazier_order_spans), ("unicode.White_Space", laid_unicode_White_Space), ("strings.asciiSpace", laid_strings_asciiSpace), ("glazier/format.sizes", laid_glazier_format_sizes)], narrowed := true }
def TopWaitsUptoSaid : Prop := topWaitsUptoRow.holds Tryd.pinned (OpenSpec.upto topWaitsSpec)

/-- 'glaziertop.TopBack', WHERE WHAT IT READS IS OF BULK AT MOST 1048576: true; the input reads as it did. -/
def topBackUptoRow : OpenClaim := { program := "ytbpjoeopnaggoaadoor", sum := "ebca448f66f476315908f375f3149218b35d735fecb9f8ca086f710a94806a7c", func := "glazier/glaziertop.TopBack", spec := "topBack", inPlace := ["internal/bytealg.IndexByteString", "internal/bytealg.IndexString", "internal/abi.NoEscape", "maps.clone"], unfollowed := true, recurses := true, named := ["strings.asciiSpace", "unicode.White_Space", "glazier/format.sizes", "glazier/order.spans", "internal/bytealg.MaxLen"], apart := false, laid := [("glazier/order.spans", laid_glazier_order_spans), ("unicode.White_Space", laid_unicode_White_Space), ("strings.asciiSpace", laid_strings_asciiSpace), ("glazier/format.sizes", laid_glazier_format_sizes)], narrowed := true }
def TopBackUptoSaid : Prop := topBackUptoRow.holds Tryd.pinned (OpenSpec.upto topBackSpec)

end Rows
end Go.Proofs.YtbpjoeopnaggoaaDoor
