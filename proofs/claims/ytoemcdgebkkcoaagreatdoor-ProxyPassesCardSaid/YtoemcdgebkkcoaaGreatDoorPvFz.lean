/- A contract of a function, taken at a nil slice in the place of an empty one. Nothing of any program. -/
import Derived.Test.YtoemcdgebkkcoaaGreatDoorPvYb
import Derived.Test.YtoemcdgebkkcoaaGreatDoorPvZ
set_option linter.unusedSectionVars false
namespace Go.Pv
variable [GTab]
end Go.Pv
namespace Go.Pv
variable [GTab]
end Go.Pv
set_option linter.unusedSectionVars false
namespace Go.Pv
variable [GTab]
theorem callE_cb {P : Program} {nid : Nat} {o : Oper} {S : PS} {K : Dl → Prop} {c : Bool} {s d e : Nat} {x : Operand} {l : List UInt8} (ho : o.op = .convert s d x) (hx : S.ev x = .str l) (hs : tk P s = .str) (hd : tk P d = .sl e) (he : tk P e = .int .u8) (hz : tsz P e = 1) (hl : l.length ≤ maxLen)
 (hg : gdOk c o { p := .slb nid 0 l.length 1, wr := [(nid, some (byL l))], ok := True } = true) (hK : K { p := .slb nid 0 l.length 1, wr := [(nid, some (byL l))], ok := True }) : callE P nid c o S K :=
 ⟨_, fun _ => conv_box ho hx hs hd he hz hl, hg, hK⟩
end Go.Pv
set_option linter.unusedSimpArgs false
set_option linter.unusedVariables false
set_option linter.unusedSectionVars false
namespace Go.Pv
variable [GTab]
theorem Wk.trans {m : Nat} {S T U : PS} (a : Wk m S T) (b : Wk m T U) : Wk m S U := by
 intro g tmps w hI hF hp
 obtain ⟨g1, h1, h2, h3⟩ := a g tmps w hI hF hp
 obtain ⟨g2, k1, k2, k3⟩ := b g1 tmps w h1 h2 (fun i hi => by rw [h3.pin i hi]; exact hp i hi)
 exact ⟨g2, k1, k2, h3.trans k3⟩
end Go.Pv
