/- A contract of a function, taken at a nil slice in the place of an empty one. Nothing of any program. -/
import Derived.Test.YtoemcdgebkkcoaaGreatDoorPvYb
set_option linter.unusedSectionVars false
namespace Go.Pv
variable [GTab]
theorem Fsp.takes {P : Program} {f : FuncId} {bs : List (List PV)} {nt : Nat} {args qs : List PV} {bs' : List (List PV)} {nt' : Nat} {r : PV} (h : Fsp P f bs nt args bs' nt' r) (hl : qs.length = args.length)
    (hq : ∀ (i : Nat) (q p : PV), qs[i]? = some q → args[i]? = some p → ∀ (g : Gh) (v : Value), Rel g v q → Rel g v p) : Fsp P f bs nt qs bs' nt' r where
  len := h.len
  fn := h.fn
  calls := fun g w vs hI hb ht hs ha => h.calls g w vs hI hb ht (by omega) (fun i v p hv hp => by
    have hi : i < qs.length := by have := (List.getElem?_eq_some_iff.1 hp).1; omega
    exact hq i qs[i] p (by simp [hi]) hp g v (ha i v qs[i] hv (by simp [hi])))
end Go.Pv

/- A slice that is made, as a box. -/
set_option linter.unusedSectionVars false
namespace Go.Pv
variable [GTab]
/-- .. as a box. -/
theorem callE_cb {P : Program} {nid : Nat} {o : Oper} {S : PS} {K : Dl → Prop} {c : Bool} {s d e : Nat} {x : Operand} {l : List UInt8} (ho : o.op = .convert s d x) (hx : S.ev x = .str l) (hs : tk P s = .str) (hd : tk P d = .sl e) (he : tk P e = .int .u8) (hz : tsz P e = 1) (hl : l.length ≤ maxLen)
    (hg : gdOk c o { p := .slb nid 0 l.length 1, wr := [(nid, some (byL l))], ok := True } = true) (hK : K { p := .slb nid 0 l.length 1, wr := [(nid, some (byL l))], ok := True }) : callE P nid c o S K :=
  ⟨_, fun _ => conv_box ho hx hs hd he hz hl, hg, hK⟩
end Go.Pv
