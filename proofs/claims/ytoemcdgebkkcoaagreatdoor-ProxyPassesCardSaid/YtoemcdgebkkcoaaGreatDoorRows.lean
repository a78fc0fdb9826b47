/-
  NARROWER THAN 'FOR EVERY INPUT', by the rows' own cells (each row's printed sentence says how): ProxyParts: laid · ProxyDies: laid · ProxySends: laid · ProxyPasses: laid.
  DERIVED. THE GIVEN ROWS OF THIS SEAT. 4 by the template 'for every input the law returns true; each argument reads behind the call as it read before'; 0 by the template 'total and deterministic' (their statements: YtoemcdgebkkcoaaGreatDoorTotals.lean).
  GIVEN WITH THE SEED: the statements are not yours to turn. If you find one false, say at which input.
  Laid BY PROGRAM, IN A SANDBOX (cutbox-rows.mjs): the forced cells as the released guide's own fill.sh prints them over the translation 7ea19875110e3a7d… (all of the seat's roots in one cut). By AI agents, Wed Nov 11 2026. No macro, syntax, notation, axiom, sorry.
-/
import Derived.Test.YtoemcdgebkkcoaaGreatDoorChecked
import GoSem.Claim
import GoSem.ClaimJoined
import GoSem.ClaimMapViews
import Derived.JoinedTies
import Derived.KernelRfl
namespace Go.Proofs.YtoemcdgebkkcoaaGreatDoor
/- THE CELL 'sum', in the pinned program and in every row, IS THE sha256 OF THE DUMP (.gsa) THAT YtoemcdgebkkcoaaGreatDoorProg.lean LOADS. Nothing in Lean hashes anything: it is a label: what it is worth is what the hold of that sum in a sandbox is worth. -/
noncomputable def Tryz.pinned : Pinned := { name := "ytoemcdgebkkcoaagreatdoor", sum := "7ea19875110e3a7d67890c71f3b41a77887a40d841a54c512d0c569ad12dd5fb", checked := Tryz.checked }
namespace Rows
def none {H : Type} : Left H := { results := [], args := [] }

/- WHAT THE LISTED PACKAGE-LEVEL VARIABLES READ AS WHEN THE CALL BEGINS. Each datum BY PROGRAM (the guide's laid-datum.mjs) off the statement by which the dump's own 'gosem.cut.vars' lays the variable. In a bare row this is a premise. The card (YtoemcdgebkkcoaaGreatDoorCards.lean) ties it to the program's text. -/
def laid_glazier_order_spans {H : Type} : DataW H := .agg [.agg [.lit (.int .i64 1), .lit (.int .i64 0), .lit (.int .i64 255)], .agg [.lit (.int .i64 2), .lit (.int .i64 0), .lit (.int .i64 65535)], .agg [.lit (.int .i64 4), .lit (.int .i64 0), .lit (.int .i64 4294967295)], .agg [.lit (.int .i64 (-1)), .lit (.int .i64 (-128)), .lit (.int .i64 127)], .agg [.lit (.int .i64 (-2)), .lit (.int .i64 (-32768)), .lit (.int .i64 32767)], .agg [.lit (.int .i64 (-4)), .lit (.int .i64 (-2147483648)), .lit (.int .i64 2147483647)]]
def laid_unicode_White_Space {H : Type} : DataW H := .ptr (.agg [.slice [.agg [.lit (.int .u16 9), .lit (.int .u16 13), .lit (.int .u16 1)], .agg [.lit (.int .u16 32), .lit (.int .u16 133), .lit (.int .u16 101)], .agg [.lit (.int .u16 160), .lit (.int .u16 5760), .lit (.int .u16 5600)], .agg [.lit (.int .u16 8192), .lit (.int .u16 8202), .lit (.int .u16 1)], .agg [.lit (.int .u16 8232), .lit (.int .u16 8233), .lit (.int .u16 1)], .agg [.lit (.int .u16 8239), .lit (.int .u16 8287), .lit (.int .u16 48)], .agg [.lit (.int .u16 12288), .lit (.int .u16 12288), .lit (.int .u16 1)]] [], .nil, .lit (.int .i64 2)])
def laid_strings_asciiSpace {H : Type} : DataW H := .agg [.lit (.int .u8 0), .lit (.int .u8 0), .lit (.int .u8 0), .lit (.int .u8 0), .lit (.int .u8 0), .lit (.int .u8 0), .lit (.int .u8 0), .lit (.int .u8 0), .lit (.int .u8 0), .lit (.int .u8 1), .lit (.int .u8 1), .lit (.int .u8 1), .lit (.int .u8 1), .lit (.int .u8 1), .lit (.int .u8 0), .lit (.int .u8 0), .lit (.int .u8 0), .lit (.int .u8 0), .lit (.int .u8 0), .lit (.int .u8 0), .lit (.int .u8 0), .lit (.int .u8 0), .lit (.int .u8 0), .lit (.int .u8 0), .lit (.int .u8 0), .lit (.int .u8 0), .lit (.int .u8 0), .lit (.int .u8 0), .lit (.int .u8 0), .lit (.int .u8 0), .lit (.int .u8 0), .lit (.int .u8 0), .lit (.int .u8 1), .lit (.int .u8 0), .lit (.int .u8 0), .lit (.int .u8 0), .lit (.int .u8 0), .lit (.int .u8 0), .lit (.int .u8 0), .lit (.int .u8 0), .lit (.int .u8 0), .lit (.int .u8 0), .lit (.int .u8 0), .lit (.int .u8 0), .lit (.int .u8 0), .lit (.int .u8 0), .lit (.int .u8 0), .lit (.int .u8 0), .lit (.int .u8 0), .lit (.int .u8 0), .lit (.int .u8 0), .lit (.int .u8 0), .lit (.int .u8 0), .lit (.int .u8 0), .lit (.int .u8 0), .lit (.int .u8 0), .lit (.int .u8 0), .lit (.int .u8 0), .lit (.int .u8 0), .lit (.int .u8 0), .lit (.int .u8 0), .lit (.int .u8 0), .lit (.int .u8 0), .lit (.int .u8 0), .lit (.int .u8 0), .lit (.int .u8 0), .lit (.int .u8 0), .lit (.int .u8 0), .lit (.int .u8 0), .lit (.int .u8 0), .lit (.int .u8 0), .lit (.int .u8 0), .lit (.int .u8 0), .lit (.int .u8 0), .lit (.int .u8 0), .lit (.int .u8 0), .lit (.int .u8 0), .lit (.int .u8 0), .lit (.int .u8 0), .lit (.int .u8 0), .lit (.int .u8 0), .lit (.int .u8 0), .lit (.int .u8 0), .lit (.int .u8 0), .lit (.int .u8 0), .lit (.int .u8 0), .lit (.int .u8 0), .lit (.int .u8 0), .lit (.int .u8 0), .lit (.int .u8 0), .lit (.int .u8 0), .lit (.int .u8 0), .lit (.int .u8 0), .lit (.int .u8 0), .lit (.int .u8 0), .lit (.int .u8 0), .lit (.int .u8 0), .lit (.int .u8 0), .lit (.int .u8 0), .lit (.int .u8 0), .lit (.int .u8 0), .lit (.int .u8 0), .lit (.int .u8 0), .lit (.int .u8 0), .lit (.int .u8 0), .lit (.int .u8 0), .lit (.int .u8 0), .lit (.int .u8 0), .lit (.int .u8 0), .lit (.int .u8 0), .lit (.int .u8 0), .lit (.int .u8 0), .lit (.int .u8 0), .lit (.int .u8 0), .lit (.int .u8 0), .lit (.int .u8 0), .lit (.int .u8 0), .lit (.int .u8 0), .lit (.int .u8 0), .lit (.int .u8 0), .lit (.int .u8 0), .lit (.int .u8 0), .lit (.int .u8 0), .lit (.int .u8 0), .lit (.int .u8 0), .lit (.int .u8 0), .lit (.int .u8 0), .lit (.int .u8 0), .lit (.int .u8 0), .lit (.int .u8 0), .lit (.int .u8 0), .lit (.int .u8 0), .lit (.int .u8 0), .lit (.int .u8 0), .lit (.int .u8 0), .lit (.int .u8 0), .lit (.int .u8 0), .lit (.int .u8 0), .lit (.int .u8 0), .lit (.int .u8 0), .lit (.int .u8 0), .lit (.int .u8 0), .lit (.int .u8 0), .lit (.int .u8 0), .lit (.int .u8 0), .lit (.int .u8 0), .lit (.int .u8 0), .lit (.int .u8 0), .lit (.int .u8 0), .lit (.int .u8 0), .lit (.int .u8 0), .lit (.int .u8 0), .lit (.int .u8 0), .lit (.int .u8 0), .lit (.int .u8 0), .lit (.int .u8 0), .lit (.int .u8 0), .lit (.int .u8 0), .lit (.int .u8 0), .lit (.int .u8 0), .lit (.int .u8 0), .lit (.int .u8 0), .lit (.int .u8 0), .lit (.int .u8 0), .lit (.int .u8 0), .lit (.int .u8 0), .lit (.int .u8 0), .lit (.int .u8 0), .lit (.int .u8 0), .lit (.int .u8 0), .lit (.int .u8 0), .lit (.int .u8 0), .lit (.int .u8 0), .lit (.int .u8 0), .lit (.int .u8 0), .lit (.int .u8 0), .lit (.int .u8 0), .lit (.int .u8 0), .lit (.int .u8 0), .lit (.int .u8 0), .lit (.int .u8 0), .lit (.int .u8 0), .lit (.int .u8 0), .lit (.int .u8 0), .lit (.int .u8 0), .lit (.int .u8 0), .lit (.int .u8 0), .lit (.int .u8 0), .lit (.int .u8 0), .lit (.int .u8 0), .lit (.int .u8 0), .lit (.int .u8 0), .lit (.int .u8 0), .lit (.int .u8 0), .lit (.int .u8 0), .lit (.int .u8 0), .lit (.int .u8 0), .lit (.int .u8 0), .lit (.int .u8 0), .lit (.int .u8 0), .lit (.int .u8 0), .lit (.int .u8 0), .lit (.int .u8 0), .lit (.int .u8 0), .lit (.int .u8 0), .lit (.int .u8 0), .lit (.int .u8 0), .lit (.int .u8 0), .lit (.int .u8 0), .lit (.int .u8 0), .lit (.int .u8 0), .lit (.int .u8 0), .lit (.int .u8 0), .lit (.int .u8 0), .lit (.int .u8 0), .lit (.int .u8 0), .lit (.int .u8 0), .lit (.int .u8 0), .lit (.int .u8 0), .lit (.int .u8 0), .lit (.int .u8 0), .lit (.int .u8 0), .lit (.int .u8 0), .lit (.int .u8 0), .lit (.int .u8 0), .lit (.int .u8 0), .lit (.int .u8 0), .lit (.int .u8 0), .lit (.int .u8 0), .lit (.int .u8 0), .lit (.int .u8 0), .lit (.int .u8 0), .lit (.int .u8 0), .lit (.int .u8 0), .lit (.int .u8 0), .lit (.int .u8 0), .lit (.int .u8 0), .lit (.int .u8 0), .lit (.int .u8 0), .lit (.int .u8 0), .lit (.int .u8 0), .lit (.int .u8 0), .lit (.int .u8 0), .lit (.int .u8 0), .lit (.int .u8 0), .lit (.int .u8 0), .lit (.int .u8 0), .lit (.int .u8 0), .lit (.int .u8 0), .lit (.int .u8 0), .lit (.int .u8 0), .lit (.int .u8 0), .lit (.int .u8 0), .lit (.int .u8 0), .lit (.int .u8 0), .lit (.int .u8 0)]
def laid_glazier_format_sizes {H : Type} : DataW H := .agg [.lit (.int .i64 1), .lit (.int .i64 2), .lit (.int .i64 4), .lit (.int .i64 (-1)), .lit (.int .i64 (-2)), .lit (.int .i64 (-4))]

/-- 'glazierlaw61.ProxyParts': WHATEVER THE INPUT: true; the input reads as it did. -/
def proxyPartsSpec : ChangeSpec := { name := "proxyParts", fn := fun _ => fun
  | [d1, d2, d3, d4] => { results := [.lit (.bool true)], args := [d1, d2, d3, d4] }
  | _ => none }
def proxyPartsRow : OpenClaim := { program := "ytoemcdgebkkcoaagreatdoor", sum := "7ea19875110e3a7d67890c71f3b41a77887a40d841a54c512d0c569ad12dd5fb", func := "glazier/glazierlaw61.ProxyParts", spec := "proxyParts", inPlace := ["internal/bytealg.IndexByteString", "internal/bytealg.IndexString", "internal/abi.NoEscape"], unfollowed := true, recurses := true, named := ["glazier/order.spans", "strings.asciiSpace", "unicode.White_Space", "glazier/format.sizes", "internal/bytealg.MaxLen"], apart := false, laid := [("glazier/order.spans", laid_glazier_order_spans), ("unicode.White_Space", laid_unicode_White_Space), ("strings.asciiSpace", laid_strings_asciiSpace), ("glazier/format.sizes", laid_glazier_format_sizes)] }
def ProxyPartsSaid : Prop := proxyPartsRow.holds Tryz.pinned (OpenSpec.ofChange proxyPartsSpec)

/-- ITS FALSE NEIGHBOUR: 'it returns false'. Refute it at one input. -/
def proxyPartsWrong : ChangeSpec := { name := "proxyParts", fn := fun _ => fun
  | [d1, d2, d3, d4] => { results := [.lit (.bool false)], args := [d1, d2, d3, d4] }
  | _ => none }
def ProxyPartsWrongFalsely : Prop := proxyPartsRow.holds Tryz.pinned (OpenSpec.ofChange proxyPartsWrong)

/-- 'glazierlaw61.ProxyDies': WHATEVER THE INPUT: true; the input reads as it did. -/
def proxyDiesSpec : ChangeSpec := { name := "proxyDies", fn := fun _ => fun
  | [] => { results := [.lit (.bool true)], args := [] }
  | _ => none }
def proxyDiesRow : OpenClaim := { program := "ytoemcdgebkkcoaagreatdoor", sum := "7ea19875110e3a7d67890c71f3b41a77887a40d841a54c512d0c569ad12dd5fb", func := "glazier/glazierlaw61.ProxyDies", spec := "proxyDies", inPlace := ["internal/bytealg.IndexByteString", "internal/bytealg.IndexString", "internal/abi.NoEscape"], unfollowed := true, recurses := true, named := ["glazier/order.spans", "strings.asciiSpace", "unicode.White_Space", "glazier/format.sizes", "internal/bytealg.MaxLen"], apart := false, laid := [("glazier/order.spans", laid_glazier_order_spans), ("unicode.White_Space", laid_unicode_White_Space), ("strings.asciiSpace", laid_strings_asciiSpace), ("glazier/format.sizes", laid_glazier_format_sizes)] }
def ProxyDiesSaid : Prop := proxyDiesRow.holds Tryz.pinned (OpenSpec.ofChange proxyDiesSpec)

/-- ITS FALSE NEIGHBOUR: 'it returns false'. Refute it at one input. -/
def proxyDiesWrong : ChangeSpec := { name := "proxyDies", fn := fun _ => fun
  | [] => { results := [.lit (.bool false)], args := [] }
  | _ => none }
def ProxyDiesWrongFalsely : Prop := proxyDiesRow.holds Tryz.pinned (OpenSpec.ofChange proxyDiesWrong)

/-- 'glazierlaw61.ProxySends': WHATEVER THE INPUT: true; the input reads as it did. -/
def proxySendsSpec : ChangeSpec := { name := "proxySends", fn := fun _ => fun
  | [d1, d2, d3, d4] => { results := [.lit (.bool true)], args := [d1, d2, d3, d4] }
  | _ => none }
def proxySendsRow : OpenClaim := { program := "ytoemcdgebkkcoaagreatdoor", sum := "7ea19875110e3a7d67890c71f3b41a77887a40d841a54c512d0c569ad12dd5fb", func := "glazier/glazierlaw61.ProxySends", spec := "proxySends", inPlace := ["internal/bytealg.IndexByteString", "internal/bytealg.IndexString", "internal/abi.NoEscape", "internal/bytealg.MakeNoZero"], unfollowed := true, recurses := true, named := ["glazier/order.spans", "strings.asciiSpace", "unicode.White_Space", "glazier/format.sizes", "internal/bytealg.MaxLen"], apart := false, laid := [("glazier/order.spans", laid_glazier_order_spans), ("unicode.White_Space", laid_unicode_White_Space), ("strings.asciiSpace", laid_strings_asciiSpace), ("glazier/format.sizes", laid_glazier_format_sizes)] }
def ProxySendsSaid : Prop := proxySendsRow.holds Tryz.pinned (OpenSpec.ofChange proxySendsSpec)

/-- ITS FALSE NEIGHBOUR: 'it returns false'. Refute it at one input. -/
def proxySendsWrong : ChangeSpec := { name := "proxySends", fn := fun _ => fun
  | [d1, d2, d3, d4] => { results := [.lit (.bool false)], args := [d1, d2, d3, d4] }
  | _ => none }
def ProxySendsWrongFalsely : Prop := proxySendsRow.holds Tryz.pinned (OpenSpec.ofChange proxySendsWrong)

/-- 'glazierlaw61.ProxyPasses': WHATEVER THE INPUT: true; the input reads as it did. -/
def proxyPassesSpec : ChangeSpec := { name := "proxyPasses", fn := fun _ => fun
  | [d1, d2, d3, d4, d5, d6] => { results := [.lit (.bool true)], args := [d1, d2, d3, d4, d5, d6] }
  | _ => none }
def proxyPassesRow : OpenClaim := { program := "ytoemcdgebkkcoaagreatdoor", sum := "7ea19875110e3a7d67890c71f3b41a77887a40d841a54c512d0c569ad12dd5fb", func := "glazier/glazierlaw61.ProxyPasses", spec := "proxyPasses", inPlace := ["internal/bytealg.IndexByteString", "internal/bytealg.IndexString", "internal/abi.NoEscape", "internal/bytealg.MakeNoZero"], unfollowed := true, recurses := true, named := ["glazier/order.spans", "strings.asciiSpace", "unicode.White_Space", "glazier/format.sizes", "internal/bytealg.MaxLen"], apart := false, laid := [("glazier/order.spans", laid_glazier_order_spans), ("unicode.White_Space", laid_unicode_White_Space), ("strings.asciiSpace", laid_strings_asciiSpace), ("glazier/format.sizes", laid_glazier_format_sizes)] }
def ProxyPassesSaid : Prop := proxyPassesRow.holds Tryz.pinned (OpenSpec.ofChange proxyPassesSpec)

/-- ITS FALSE NEIGHBOUR: 'it returns false'. Refute it at one input. -/
def proxyPassesWrong : ChangeSpec := { name := "proxyPasses", fn := fun _ => fun
  | [d1, d2, d3, d4, d5, d6] => { results := [.lit (.bool false)], args := [d1, d2, d3, d4, d5, d6] }
  | _ => none }
def ProxyPassesWrongFalsely : Prop := proxyPassesRow.holds Tryz.pinned (OpenSpec.ofChange proxyPassesWrong)

/- THE SECOND FORM. 'bulk': how many values and letters a reading holds, each counted each time it is reached (what is shared counts as often as it is met; a slice's spare places count too). A statement '..UptoSaid' is the law's where the arguments, and the package variables that the reading takes, are together of bulk at most 1048576: NARROWER than '..Said'. Prove '..Said' where nothing that the law and all that it calls make is longer than what came in: it says more and counts as full. Else prove '..UptoSaid'. A law counts once. -/
mutual
def uptoBulk {H : Type} : DataW H → Nat
  | .lit (.string bytes) => bytes.length + 1
  | .lit _ => 1
  | .nil => 1
  | .ptr d => uptoBulk d + 1
  | .slice elems spare => uptoBulkAll elems + uptoBulkAll spare + 1
  | .agg parts => uptoBulkAll parts + 1
  | .iface _ d => uptoBulk d + 1
  | .map entries => uptoBulkEntries entries + 1
  | .held _ => 1
def uptoBulkAll {H : Type} : List (DataW H) → Nat
  | [] => 0
  | d :: r => uptoBulk d + uptoBulkAll r
def uptoBulkEntries {H : Type} : List (Lit × DataW H) → Nat
  | [] => 0
  | x :: r => uptoBulkEntry x + uptoBulkEntries r
def uptoBulkEntry {H : Type} : Lit × DataW H → Nat
  | (.string bytes, d) => bytes.length + uptoBulk d + 1
  | (_, d) => uptoBulk d + 1
 end
def uptoSmall : (H : Type) → List (DataW H) → Bool := fun _ ds => decide (uptoBulkAll ds ≤ 1048576)
def OpenSpec.upto (s : _root_.Go.ChangeSpec) : _root_.Go.OpenSpec := { _root_.Go.OpenSpec.ofChange s with cond := some uptoSmall }

/-- 'glazierlaw61.ProxyParts', WHERE WHAT IT READS IS OF BULK AT MOST 1048576: true; the input reads as it did. -/
def proxyPartsUptoRow : OpenClaim := { program := "ytoemcdgebkkcoaagreatdoor", sum := "7ea19875110e3a7d67890c71f3b41a77887a40d841a54c512d0c569ad12dd5fb", func := "glazier/glazierlaw61.ProxyParts", spec := "proxyParts", inPlace := ["internal/bytealg.IndexByteString", "internal/bytealg.IndexString", "internal/abi.NoEscape"], unfollowed := true, recurses := true, named := ["glazier/order.spans", "strings.asciiSpace", "unicode.White_Space", "glazier/format.sizes", "internal/bytealg.MaxLen"], apart := false, laid := [("glazier/order.spans", laid_glazier_order_spans), ("unicode.White_Space", laid_unicode_White_Space), ("strings.asciiSpace", laid_strings_asciiSpace), ("glazier/format.sizes", laid_glazier_format_sizes)], narrowed := true }
def ProxyPartsUptoSaid : Prop := proxyPartsUptoRow.holds Tryz.pinned (OpenSpec.upto proxyPartsSpec)

/-- 'glazierlaw61.ProxyDies', WHERE WHAT IT READS IS OF BULK AT MOST 1048576: true; the input reads as it did. -/
def proxyDiesUptoRow : OpenClaim := { program := "ytoemcdgebkkcoaagreatdoor", sum := "7ea19875110e3a7d67890c71f3b41a77887a40d841a54c512d0c569ad12dd5fb", func := "glazier/glazierlaw61.ProxyDies", spec := "proxyDies", inPlace := ["internal/bytealg.IndexByteString", "internal/bytealg.IndexString", "internal/abi.NoEscape"], unfollowed := true, recurses := true, named := ["glazier/order.spans", "strings.asciiSpace", "unicode.White_Space", "glazier/format.sizes", "internal/bytealg.MaxLen"], apart := false, laid := [("glazier/order.spans", laid_glazier_order_spans), ("unicode.White_Space", laid_unicode_White_Space), ("strings.asciiSpace", laid_strings_asciiSpace), ("glazier/format.sizes", laid_glazier_format_sizes)], narrowed := true }
def ProxyDiesUptoSaid : Prop := proxyDiesUptoRow.holds Tryz.pinned (OpenSpec.upto proxyDiesSpec)

/-- 'glazierlaw61.ProxySends', WHERE WHAT IT READS IS OF BULK AT MOST 1048576: true; the input reads as it did. -/
def proxySendsUptoRow : OpenClaim := { program := "ytoemcdgebkkcoaagreatdoor", sum := "7ea19875110e3a7d67890c71f3b41a77887a40d841a54c512d0c569ad12dd5fb", func := "glazier/glazierlaw61.ProxySends", spec := "proxySends", inPlace := ["internal/bytealg.IndexByteString", "internal/bytealg.IndexString", "internal/abi.NoEscape", "internal/bytealg.MakeNoZero"], unfollowed := true, recurses := true, named := ["glazier/order.spans", "strings.asciiSpace", "unicode.White_Space", "glazier/format.sizes", "internal/bytealg.MaxLen"], apart := false, laid := [("glazier/order.spans", laid_glazier_order_spans), ("unicode.White_Space", laid_unicode_White_Space), ("strings.asciiSpace", laid_strings_asciiSpace), ("glazier/format.sizes", laid_glazier_format_sizes)], narrowed := true }
def ProxySendsUptoSaid : Prop := proxySendsUptoRow.holds Tryz.pinned (OpenSpec.upto proxySendsSpec)

/-- 'glazierlaw61.ProxyPasses', WHERE WHAT IT READS IS OF BULK AT MOST 1048576: true; the input reads as it did. -/
def proxyPassesUptoRow : OpenClaim := { program := "ytoemcdgebkkcoaagreatdoor", sum := "7ea19875110e3a7d67890c71f3b41a77887a40d841a54c512d0c569ad12dd5fb", func := "glazier/glazierlaw61.ProxyPasses", spec := "proxyPasses", inPlace := ["internal/bytealg.IndexByteString", "internal/bytealg.IndexString", "internal/abi.NoEscape", "internal/bytealg.MakeNoZero"], unfollowed := true, recurses := true, named := ["glazier/order.spans", "strings.asciiSpace", "unicode.White_Space", "glazier/format.sizes", "internal/bytealg.MaxLen"], apart := false, laid := [("glazier/order.spans", laid_glazier_order_spans), ("unicode.White_Space", laid_unicode_White_Space), ("strings.asciiSpace", laid_strings_asciiSpace), ("glazier/format.sizes", laid_glazier_format_sizes)], narrowed := true }
def ProxyPassesUptoSaid : Prop := proxyPassesUptoRow.holds Tryz.pinned (OpenSpec.upto proxyPassesSpec)

end Rows
end Go.Proofs.YtoemcdgebkkcoaaGreatDoor
