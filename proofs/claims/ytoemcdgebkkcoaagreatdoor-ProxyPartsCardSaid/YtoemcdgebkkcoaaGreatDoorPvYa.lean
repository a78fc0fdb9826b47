/- Abstract values: lists of relations, one by one; a function that tells a slice of its own. Nothing of any program. -/
import Derived.Test.YtoemcdgebkkcoaaGreatDoorPvBc
set_option linter.unusedSectionVars false
namespace Go.Pv
variable [GTab]
theorem wkL_nil {R : PV → PV → Prop} : wkL R [] [] := trivial
theorem wkL_cons {R : PV → PV → Prop} {q p : PV} {qs ps : List PV} (h : R q p) (r : wkL R qs ps) : wkL R (q :: qs) (p :: ps) := ⟨h, r⟩
theorem endK_tok1 {P : Program} {S : PS} {t sz k : Nat} {es : List PV} (h : S.get t = .slt sz es k) (hl : S.lv k = true) : endK P 0 [.tmp t] [] 1 (.slt sz es 0) S :=
  endK_toks [k] rfl rfl (by simp [hl]) ⟨trivial, rfl, by simp [resOf, resPV, one', res3, res2, res1, h]⟩
theorem bs_byteOf (l : List UInt8) : (bs l).map byteOf = l := by
  induction l with
  | nil => rfl
  | cons x l ih =>
    rw [show bs (x :: l) = .int .u8 (x.toNat : Int) :: bs l from rfl, List.map_cons, ih]
    congr 1
    simp [byteOf]
theorem bs_isByte (l : List UInt8) : (bs l).all isByte = true := by
  induction l with
  | nil => rfl
  | cons x l ih => rw [show bs (x :: l) = .int .u8 (x.toNat : Int) :: bs l from rfl, List.all_cons, ih]; rfl
end Go.Pv
