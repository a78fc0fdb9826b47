/- A slice that is made, as a box. -/
import Derived.Test.YtbjeagcnakdmnaaPvXf
set_option linter.unusedSectionVars false
namespace Go.Pv
variable [GTab]
/-- A slice that is made, as a box: its elements may be written. -/
theorem callE_mk {P : Program} {nid : Nat} {o : Oper} {S : PS} {K : Dl → Prop} {c : Bool} {t e sz : Nat} {x y : Operand} {k k' : IntKind} {n m : Int} {zs : List PV} (ho : o.op = .makeSlice t x y) (hx : S.ev x = .int k n) (hy : S.ev y = .int k' m)
    (ht : tk P t = .sl e) (hs : tsz P e = sz) (hpos : 0 < sz) (hz : zc P e = some zs) (hzl : zs.length = sz) (h0 : 0 ≤ n) (hnc : n ≤ m) (hby : (tby P e : Int) * m ≤ 281474976710656) (h63 : m ≤ 9223372036854775807)
    (hg : gdOk c o { p := .slb nid 0 n.toNat sz, wr := [(nid, some (List.replicate m.toNat zs).flatten)], ok := True } = true)
    (hK : K { p := .slb nid 0 n.toNat sz, wr := [(nid, some (List.replicate m.toNat zs).flatten)], ok := True }) : callE P nid c o S K :=
  ⟨_, fun _ => makeSlice_box ho hx hy ht hs hpos hz hzl h0 hnc hby h63, hg, hK⟩
end Go.Pv
