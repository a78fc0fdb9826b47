/- Abstract values: a law's row where package-level variables are laid. Nothing of any program. -/
import Derived.Test.YtoemcdgebkkcoaaGreatDoorPvX
import Derived.Test.YtoemcdgebkkcoaaGreatDoorPvZ
import Derived.LaidMore
import Derived.Stop.Joined
import Derived.LaidLaws
import Derived.MakeChecks
import Derived.HandedShaped
import Derived.Deep.DeepHandedRow
set_option linter.unusedSimpArgs false
set_option linter.unusedVariables false
set_option linter.unusedSectionVars false
namespace Go.Pv
open Go.RowKit Go.ChangeShapes Go.WideShapes
variable [GTab]
theorem laid_mem {P : Program} {w : World} {n : String} {d : DataW Unit} : ∀ {l : List (String × DataW Unit)} {ps : List MemPlace}, DataW.LaidVars P w l ps → (n, d) ∈ l →
 ∃ g t cs fuel p, P.globalNamed n = some g ∧ (P.globals[g]?).map (·.type) = some t ∧ w.var? P n = some cs ∧ DataW.trod (fun _ => ()) P w 0 (fun _ => true) false fuel t cs.toList = some (d, p)
 | [], _, _, h => by cases h
 | (m, e) :: r, ps, hl, h => by
  obtain ⟨g, t, cs, fuel, p, q, h1, h2, h3, h4, h5, -⟩ := hl
  rcases List.mem_cons.1 h with e' | h
  ·cases e'; exact ⟨g, t, cs, fuel, p, h1, h2, h3, h4⟩
  ·exact laid_mem h5 h
def dInts (k : IntKind) {H : Type} : List (DataW H) → List PV
 | [] => []
 | .lit (.int _ n) :: r => .int k n :: dInts k r
 | _ :: r => .any :: dInts k r
def dParts {H : Type} : DataW H → List (DataW H)
 | .agg l => l
 | _ => []
theorem loc_of_ints {P : Program} {w : World} {laid : List (String × DataW Unit)} {places : List MemPlace} (hl : DataW.LaidVars P w laid places) {name : String} {d : DataW Unit} (hm : (name, d) ∈ laid) {g : Nat} {t e : TypeId} {k : IntKind} {n : Nat}
 (hg : P.globalNamed name = some g) (ht : (P.globals[g]?).map (·.type) = some t) (hu : P.underlying t = some (.array n e)) (he : P.underlying e = some (.int k)) (hc : P.cellsOf e = 1) (hct : P.cellsOf t = n)
 {ps : List PV} (hps : pvsEq ps (dInts k (dParts d)) = true) : PRel (allH w) (.pointer (some ⟨g, 0, none⟩)) (.loc ps) := by
 obtain ⟨g', t', cs, fuel, p, h1, h2, h3, h4⟩ := laid_mem hl hm
 obtain rfl := Option.some.inj (hg.symm.trans h1)
 obtain rfl := Option.some.inj (ht.symm.trans h2)
 obtain rfl := pvsEq_eq hps
 obtain ⟨xs, m, rfl, hx, hlen, hn, hel⟩ := DataW.trod_array hu h4
 simp only [Prod.mk.injEq] at hx
 obtain ⟨rfl, -⟩ := hx
 have each : ∀ i, i < n → ∃ z : Int, cs[i]? = some (.int k z) ∧ (xs.map (·.1))[i]? = some (.lit (.int k z)) := by
  intro i hi
  have h5 := hel i hi
  rw [hc, Nat.mul_one] at h5
  have hxi : i < xs.length := by omega
  rw [List.getElem?_eq_getElem hxi] at h5
  obtain ⟨z, e1, e2, -⟩ := DataW.trod_int he h5
  have hcl : cs.toList.length = n := by rw [hlen, hct]
  refine ⟨z, ?_, ?_⟩
  ·have : ((cs.toList.drop i).take 1)[0]? = some (.int k z) := by rw [e1]; rfl
   rw [List.getElem?_take_of_lt (by omega), List.getElem?_drop] at this
   simpa using this
  ·rw [List.getElem?_map, List.getElem?_eq_getElem hxi, e2]; rfl
 have hdl : ∀ (l : List (DataW Unit)), (dInts k l).length = l.length := by
  intro l
  induction l with
  | nil => rfl
  | cons x l ih =>
   unfold dInts
   split <;> simp_all
 have hdg : ∀ (l : List (DataW Unit)) (i : Nat) (z : Int), l[i]? = some (.lit (.int k z)) → (dInts k l)[i]? = some (.int k z) := by
  intro l
  induction l with
  | nil => intro i z h; simp at h
  | cons x l ih =>
   intro i z h
   cases i with
   | zero => simp at h; subst h; rfl
   | succ i =>
    have := ih i z (by simpa using h)
    unfold dInts
    split <;> simp_all
 have hlen2 : (dInts k (dParts (.agg (xs.map (·.1)) : DataW Unit))).length = n := by
  rw [hdl]; show (xs.map (·.1)).length = n; simp [hn]
 refine .loc g 0 _ (fun i => (cs[i]?).getD undef) (fun i hi => ?_) (fun i hi => ?_) (fun i q hq => ?_)
 ·rw [hlen2] at hi
  obtain ⟨z, e1, -⟩ := each i hi
  show one? (w.cell? _) = _
  rw [Nat.zero_add, World.var?_cell h1 h3 i, e1]; rfl
 ·rw [hlen2] at hi
  obtain ⟨z, e1, -⟩ := each i hi
  simp only [e1]; rfl
 ·have hi : i < n := by rw [← hlen2]; exact (List.getElem?_eq_some_iff.1 hq).1
  obtain ⟨z, e1, e2⟩ := each i hi
  have := hdg _ i z e2
  rw [show dInts k (dParts (.agg (xs.map (·.1)) : DataW Unit)) = dInts k (xs.map (·.1)) from rfl] at hq
  rw [this] at hq
  cases hq
  simp only [e1]
  exact .int k z
end Go.Pv
set_option linter.unusedSimpArgs false
set_option linter.unusedVariables false
set_option linter.unusedSectionVars false
namespace Go.Pv
open Go.RowKit Go.ChangeShapes Go.WideShapes
variable [GTab]
section
variable {P : Program}
end
end Go.Pv
set_option linter.unusedSimpArgs false
set_option linter.unusedVariables false
set_option linter.unusedSectionVars false
namespace Go.Pv
open Go.RowKit Go.ChangeShapes Go.WideShapes
variable [GTab]
def dAll {H : Type} : List (DataW H) → List PV
 | [] => []
 | .lit (.int k n) :: r => .int k n :: dAll r
 | _ :: r => .any :: dAll r
def dRows {H : Type} (d : DataW H) : List PV := (dParts d).flatMap fun x => dAll (dParts x)
theorem dAll_length {H : Type} : ∀ (l : List (DataW H)), (dAll l).length = l.length
 | [] => rfl
 | x :: l => by
  have := dAll_length l
  unfold dAll
  split <;> simp_all
theorem dAll_get {H : Type} {k : IntKind} {z : Int} : ∀ (l : List (DataW H)) (i : Nat), l[i]? = some (.lit (.int k z)) → (dAll l)[i]? = some (.int k z)
 | [], i, h => by simp at h
 | x :: l, i, h => by
  cases i with
  | zero => simp at h; subst h; rfl
  | succ i =>
   have := dAll_get l i (by simpa using h)
   unfold dAll
   split <;> simp_all
theorem loc_of_rows {P : Program} {w : World} {laid : List (String × DataW Unit)} {places : List MemPlace} (hl : DataW.LaidVars P w laid places) {name : String} {d : DataW Unit} (hm : (name, d) ∈ laid) {g : Nat} {t e : TypeId} {n m : Nat} {fs : Array Field}
 (hg : P.globalNamed name = some g) (ht : (P.globals[g]?).map (·.type) = some t) (hu : P.underlying t = some (.array n e)) (he : P.underlying e = some (.struct fs)) (hsz : fs.size = m) (h0 : 0 < m)
 (hfs : ∀ (j : Nat) (f : Field), fs[j]? = some f → f.offset = j ∧ P.cellsOf f.type = 1 ∧ ∃ k, P.underlying f.type = some (.int k)) (hc : P.cellsOf e = m) (hct : P.cellsOf t = n * m)
 {ps : List PV} (hps : pvsEq ps (dRows d) = true) : PRel (allH w) (.pointer (some ⟨g, 0, none⟩)) (.loc ps) := by
 obtain ⟨g', t', cs, fuel, p, h1, h2, h3, h4⟩ := laid_mem hl hm
 obtain rfl := Option.some.inj (hg.symm.trans h1)
 obtain rfl := Option.some.inj (ht.symm.trans h2)
 obtain rfl := pvsEq_eq hps
 obtain ⟨xs, fu, rfl, hx, hlen, hn, hel⟩ := DataW.trod_array hu h4
 simp only [Prod.mk.injEq] at hx
 obtain ⟨rfl, -⟩ := hx
 have hcl : cs.toList.length = n * m := by rw [hlen, hct]
 have row : ∀ i, i < n → ∃ ds : List (DataW Unit), (xs.map (·.1))[i]? = some (.agg ds) ∧ ds.length = m ∧ ∀ j, j < m → ∃ (k : IntKind) (z : Int), cs[i * m + j]? = some (.int k z) ∧ ds[j]? = some (.lit (.int k z)) := by
  intro i hi
  have h5 := hel i hi
  rw [hc] at h5
  have hxi : i < xs.length := by omega
  rw [List.getElem?_eq_getElem hxi] at h5
  obtain ⟨ys, fu', rfl, hy, hlen', hn', hf⟩ := DataW.trod_struct he h5
  refine ⟨ys.map (·.1), by rw [List.getElem?_map, List.getElem?_eq_getElem hxi, hy]; rfl, by rw [List.length_map, hn', hsz], fun j hj => ?_⟩
  have hfj : fs[j]? = some (fs[j]'(by omega)) := by simp [show j < fs.size by omega]
  obtain ⟨ho, hc1, k, hk⟩ := hfs j _ hfj
  have h6 := hf j _ hfj
  rw [ho, hc1, List.getElem?_eq_getElem (show j < ys.length by omega)] at h6
  obtain ⟨z, e1, e2, -⟩ := DataW.trod_int hk h6
  have hb : i * m + m ≤ n * m := by
   have := Nat.mul_le_mul_right m (show i + 1 ≤ n by omega)
   rw [Nat.add_mul, Nat.one_mul] at this; exact this
  refine ⟨k, z, ?_, ?_⟩
  ·have : ((((cs.toList.drop (i * m)).take m).drop j).take 1)[0]? = some (.int k z) := by rw [e1]; rfl
   rw [List.getElem?_take_of_lt (by omega), List.getElem?_drop, Nat.add_zero, List.getElem?_take_of_lt hj, List.getElem?_drop] at this
   simpa using this
  ·rw [List.getElem?_map, List.getElem?_eq_getElem (show j < ys.length by omega), e2]; rfl
 have hflat : dRows (.agg (xs.map (·.1)) : DataW Unit) = ((xs.map (·.1)).map fun x => dAll (dParts x)).flatMap id := by
  show (xs.map (·.1)).flatMap _ = _
  rw [List.flatMap_def, List.flatMap_def, List.map_id]
 have hall : ∀ l ∈ (xs.map (·.1)).map (fun x => dAll (dParts x)), l.length = m := by
  intro l hl
  obtain ⟨i, hi⟩ := List.mem_iff_getElem?.1 hl
  rw [List.getElem?_map] at hi
  have hin : i < n := by
   obtain ⟨y, hy, _⟩ := Option.map_eq_some_iff.1 hi
   have := (List.getElem?_eq_some_iff.1 hy).1
   simp at this; omega
  obtain ⟨ds, q1, q2, _⟩ := row i hin
  rw [q1] at hi
  cases hi
  show (dAll ds).length = m
  rw [dAll_length, q2]
 have hget : ∀ q, q < n * m → ∃ (k : IntKind) (z : Int), cs[q]? = some (.int k z) ∧ (dRows (.agg (xs.map (·.1)) : DataW Unit))[q]? = some (.int k z) := by
  intro q hq
  have hi : q / m < n := Nat.div_lt_of_lt_mul (by rw [Nat.mul_comm]; exact hq)
  have hj : q % m < m := Nat.mod_lt _ h0
  obtain ⟨ds, q1, q2, q3⟩ := row (q / m) hi
  obtain ⟨k, z, e1, e2⟩ := q3 (q % m) hj
  refine ⟨k, z, ?_, ?_⟩
  ·rw [show q / m * m + q % m = q by rw [Nat.mul_comm]; exact Nat.div_add_mod q m] at e1; exact e1
  ·rw [hflat, get_append_flat _ hall h0, List.getElem?_map, q1]
   exact dAll_get ds _ e2
 have hlen2 : (dRows (.agg (xs.map (·.1)) : DataW Unit)).length = n * m := by
  rw [hflat]
  have : ∀ (L : List (List PV)), (∀ l ∈ L, l.length = m) → (L.flatMap id).length = L.length * m := by
   intro L
   induction L with
   | nil => intro _; simp
   | cons l L ih =>
    intro h
    rw [List.flatMap_cons, List.length_append, ih (fun l hl => h l (List.mem_cons_of_mem _ hl)), List.length_cons, Nat.add_mul, Nat.one_mul]
    have := h l (List.mem_cons_self ..)
    simp only [id]; omega
  rw [this _ hall]; simp [hn]
 refine .loc g 0 _ (fun i => (cs[i]?).getD undef) (fun i hi => ?_) (fun i hi => ?_) (fun i q hq => ?_)
 ·rw [hlen2] at hi
  obtain ⟨k, z, e1, -⟩ := hget i hi
  show one? (w.cell? _) = _
  rw [Nat.zero_add, World.var?_cell h1 h3 i, e1]; rfl
 ·rw [hlen2] at hi
  obtain ⟨k, z, e1, -⟩ := hget i hi
  simp only [e1]; rfl
 ·have hi : i < n * m := by rw [← hlen2]; exact (List.getElem?_eq_some_iff.1 hq).1
  obtain ⟨k, z, e1, e2⟩ := hget i hi
  rw [e2] at hq; cases hq
  simp only [e1]
  exact .int k z
end Go.Pv
set_option linter.unusedSimpArgs false
set_option linter.unusedVariables false
set_option linter.unusedSectionVars false
namespace Go.Pv
open Go.RowKit Go.ChangeShapes Go.WideShapes
variable [GTab] {P : Program}
end Go.Pv
set_option linter.unusedSimpArgs false
set_option linter.unusedVariables false
set_option linter.unusedSectionVars false
namespace Go.Pv
open Go.RowKit Go.ChangeShapes Go.WideShapes
variable [GTab]
def DecD (P : Program) (t : TypeId) (good : (H : Type) → DataW H → List PV → Prop) : Prop :=
 ∀ (H : Type) (enc : TypeId × Value → H) (w : World) (base : Nat) (held : Bool) (fuel : Nat) (cs : List Value) (x : DataW H × List MemPlace),
  DataW.trod enc P w base (fun _ => true) held fuel t cs = some x →
  ∃ ps : List PV, ps.length = cs.length ∧ (∀ (i : Nat) (v : Value), cs[i]? = some v → v.oneCell' = true) ∧
   (∀ (i : Nat) (v : Value) (p : PV), cs[i]? = some v → ps[i]? = some p → PRel (allH w) v p) ∧ good H x.1 ps
def DecE (P : Program) (t : TypeId) (G : (H : Type) → DataW H → PV → Prop) : Prop :=
 ∀ (H : Type) (enc : TypeId × Value → H) (W : World) (b0 base : Nat) (held : Bool) (v : Value) (d : DataW H) (ps : List MemPlace),
  Value.okWide P W .any b0 t v → DataW.Trod enc P W base (fun _ => true) held t v d ps → ∃ p : PV, PRel (allH W) v p ∧ G H d p
def dInt (k : IntKind) (H : Type) (d : DataW H) (ps : List PV) : Prop := ∃ n, ps = [.int k n] ∧ d = .lit (.int k n) ∧ (Lit.int k n).wf = true
def dStr (H : Type) (d : DataW H) (ps : List PV) : Prop := ∃ s : List UInt8, ps = [.str s] ∧ d = .lit (.string s) ∧ s.length ≤ maxLen
def dSl (sz : Nat) (G : (H : Type) → DataW H → PV → Prop) (H : Type) (d : DataW H) (ps : List PV) : Prop :=
 ∃ es : List PV, ps = [.sl sz es] ∧ es.length ≤ maxLen ∧ ((es = [] ∧ d = .nil) ∨ ∃ elems spare, d = .slice elems spare ∧ elems.length = es.length ∧ ∀ (i : Nat) (p : PV) (q : DataW H), es[i]? = some p → elems[i]? = some q → G H q p)
def dL : List ((H : Type) → DataW H → List PV → Prop) → (H : Type) → List (DataW H) → List PV → Prop
 | [], _, ds, ps => ps = [] ∧ ds = []
 | g :: gs, H, ds, ps => ∃ q r d ds', ps = q ++ r ∧ ds = d :: ds' ∧ g H d q ∧ dL gs H ds' r
def dSt (gs : List ((H : Type) → DataW H → List PV → Prop)) (H : Type) (d : DataW H) (ps : List PV) : Prop := ∃ ds, d = .agg ds ∧ dL gs H ds ps
def dOne (g : (H : Type) → DataW H → List PV → Prop) (H : Type) (d : DataW H) (p : PV) : Prop := g H d [p]
def dAgg (g : (H : Type) → DataW H → List PV → Prop) (H : Type) (d : DataW H) (p : PV) : Prop := ∃ ps, p = .agg ps ∧ g H d ps
section
variable {P : Program}
theorem DecD.one {t : TypeId} {good : (H : Type) → DataW H → List PV → Prop} (h : ∀ (H : Type) (enc : TypeId × Value → H) (w : World) (base : Nat) (held : Bool) (fuel : Nat) (cs : List Value) (x : DataW H × List MemPlace),
 DataW.trod enc P w base (fun _ => true) held fuel t cs = some x → ∃ (v : Value) (p : PV), cs = [v] ∧ v.oneCell' = true ∧ PRel (allH w) v p ∧ good H x.1 [p]) : DecD P t good := by
 intro H enc w base held fuel cs x hx
 obtain ⟨v, p, rfl, h1, h2, h3⟩ := h H enc w base held fuel cs x hx
 refine ⟨[p], rfl, ?_, ?_, h3⟩
 ·intro i v' hv; obtain ⟨-, rfl⟩ := single hv; exact h1
 ·intro i v' p' hv hp; obtain ⟨-, rfl⟩ := single hv; obtain ⟨-, rfl⟩ := single hp; exact h2
theorem DecD.int {t : TypeId} {k : IntKind} (ht : P.underlying t = some (.int k)) : DecD P t (dInt k) :=
 .one fun H enc w base held fuel cs x hx => by
  obtain ⟨n, rfl, hd, hw⟩ := DataW.trod_int ht hx
  exact ⟨_, .int k n, rfl, rfl, .int k n, n, rfl, by rw [hd], hw⟩
theorem DecD.str {t : TypeId} (ht : P.underlying t = some .string) : DecD P t dStr :=
 .one fun H enc w base held fuel cs x hx => by
  obtain ⟨s, rfl, hd, hs⟩ := DataW.trod_string ht hx
  exact ⟨_, .str s.data.toList, rfl, rfl, str_rel _ s, _, rfl, by rw [hd], by rw [Array.length_toList]; exact hs⟩
theorem DecD.sl_core {e : TypeId} {g : (H : Type) → DataW H → List PV → Prop} {G : (H : Type) → DataW H → PV → Prop} (he : DecD P e g) (hz : 0 < P.cellsOf e)
 (hG : ∀ H d ps, ps.length = P.cellsOf e → g H d ps → ∃ p : PV, p.cells = ps ∧ G H d p) {H : Type} {enc : TypeId × Value → H} {w : World} {base : Nat} {held : Bool} {n : Nat} {a : Addr} {len cap : Nat} {elems : List (DataW H × List MemPlace)}
 (hsp0 : a.spot = none) (hc : len ≤ cap) (hm : cap ≤ maxLen) (hl : elems.length = len)
 (hel : ∀ i, i < len → (w.cells? base (a.add (i * P.cellsOf e)) (P.cellsOf e)).bind (DataW.trod enc P w base (fun _ => true) held n e) = elems[i]?) :
 ∃ es : List PV, PRel (allH w) (.slice (some a) len cap) (.sl (P.cellsOf e) es) ∧ es.length = len ∧ ∀ (i : Nat) (p : PV) (x : DataW H × List MemPlace), es[i]? = some p → elems[i]? = some x → G H x.1 p := by
 have each : ∀ i, i < len → ∃ (p : PV) (vs : List Value), p.cells.length = P.cellsOf e ∧ vs.length = P.cellsOf e ∧ w.cells? base (a.add (i * P.cellsOf e)) (P.cellsOf e) = some vs ∧
  (∀ (j : Nat) (v : Value), vs[j]? = some v → v.oneCell' = true) ∧ (∀ (j : Nat) (v : Value) (q : PV), vs[j]? = some v → p.cells[j]? = some q → PRel (allH w) v q) ∧ ∀ x, elems[i]? = some x → G H x.1 p := by
  intro i hi
  have h1 := hel i hi
  obtain ⟨y, hy⟩ : ∃ y, elems[i]? = some y := ⟨_, List.getElem?_eq_getElem (by omega)⟩
  rw [hy] at h1
  obtain ⟨vs, hvs, ht⟩ := Option.bind_eq_some_iff.1 h1
  obtain ⟨ps, h2, h3, h4, h5⟩ := he H enc w base held n vs y ht
  have hlen : vs.length = P.cellsOf e := (World.cells?_some hvs).2.1
  obtain ⟨p, rfl, hp⟩ := hG H _ ps (by omega) h5
  exact ⟨p, vs, by omega, hlen, hvs, h3, h4, fun x hx => by rw [hy] at hx; cases hx; exact hp⟩
 obtain ⟨F, hF⟩ : ∃ F : Nat → PV × List Value, ∀ i, i < len → (F i).1.cells.length = P.cellsOf e ∧ (F i).2.length = P.cellsOf e ∧ w.cells? base (a.add (i * P.cellsOf e)) (P.cellsOf e) = some (F i).2 ∧
  (∀ (j : Nat) (v : Value), (F i).2[j]? = some v → v.oneCell' = true) ∧ (∀ (j : Nat) (v : Value) (q : PV), (F i).2[j]? = some v → (F i).1.cells[j]? = some q → PRel (allH w) v q) ∧ ∀ x, elems[i]? = some x → G H x.1 (F i).1 := by
  refine ⟨fun i => if hi : i < len then ((each i hi).choose, (each i hi).choose_spec.choose) else (.any, []), fun i hi => ?_⟩
  simp only [hi, dite_true]
  exact (each i hi).choose_spec.choose_spec
 by_cases h0 : len = 0
 ·subst h0
  obtain ⟨b, off, sp⟩ := a
  simp at hsp0; subst hsp0
  exact ⟨[], .sl b off 0 cap _ [] (fun _ => .bool false) rfl hc hm (by simp) (by simp) (by simp) (by simp), rfl, by simp⟩
 ·obtain ⟨b, off, sp⟩ := a
  simp at hsp0; subst hsp0
  let es := (List.range len).map fun i => (F i).1
  have hes : es.length = len := by simp [es]
  have hsz : ∀ p ∈ es, p.cells.length = P.cellsOf e := by
   intro p hp
   obtain ⟨i, hi, rfl⟩ := List.mem_map.1 hp
   exact (hF i (List.mem_range.1 hi)).1
  have hfl : (es.flatMap PV.cells).length = len * P.cellsOf e := by rw [flat_length hsz, hes]
  have hdm : ∀ i, i < len * P.cellsOf e → i / P.cellsOf e < len ∧ i % P.cellsOf e < P.cellsOf e :=
   fun i hi => ⟨(Nat.div_lt_iff_lt_mul hz).2 hi, Nat.mod_lt _ hz⟩
  refine ⟨es, .sl b off len cap _ es (fun i => ((F (i / P.cellsOf e)).2[i % P.cellsOf e]?).getD (.bool false)) hes.symm hc hm hsz ?_ ?_ ?_, hes, ?_⟩
  ·intro i hi
   rw [hfl] at hi
   obtain ⟨h1, h2⟩ := hdm i hi
   obtain ⟨k1, k2, k3, k4, k5, k6⟩ := hF _ h1
   have := (World.cells?_some k3).2.2 _ h2
   simp only [add_plain] at this
   rw [Nat.add_assoc, Nat.mul_comm, Nat.div_add_mod] at this
   show one? (w.cell? _) = _
   rw [this, List.getElem?_eq_getElem (by omega)]
   exact one?_some rfl (k4 (i % P.cellsOf e) _ (by rw [List.getElem?_eq_getElem (by omega)]; rfl))
  ·intro i hi
   rw [hfl] at hi
   obtain ⟨h1, h2⟩ := hdm i hi
   obtain ⟨k1, k2, k3, k4, k5, k6⟩ := hF _ h1
   exact k4 (i % P.cellsOf e) _ (by rw [List.getElem?_eq_getElem (by omega)]; rfl)
  ·intro i p hp
   have hi : i < len * P.cellsOf e := by rw [← hfl]; exact (List.getElem?_eq_some_iff.1 hp).1
   obtain ⟨h1, h2⟩ := hdm i hi
   obtain ⟨k1, k2, k3, k4, k5, k6⟩ := hF _ h1
   rw [flatMap_id_map, get_append_flat _ (by intro l hl; obtain ⟨p, hp, rfl⟩ := List.mem_map.1 hl; exact hsz p hp) hz] at hp
   have e1 : (es.map PV.cells)[i / P.cellsOf e]? = some (F (i / P.cellsOf e)).1.cells := by
    rw [List.getElem?_map, List.getElem?_map, List.getElem?_range h1]; rfl
   rw [e1] at hp
   exact k5 (i % P.cellsOf e) _ p (by rw [List.getElem?_eq_getElem (by omega)]; rfl) hp
  ·intro i p x hp hx
   have hi : i < len := by rw [← hes]; exact (List.getElem?_eq_some_iff.1 hp).1
   have e1 : es[i]? = some (F i).1 := by
    rw [List.getElem?_map, List.getElem?_range hi]; rfl
   rw [e1] at hp
   cases hp
   exact (hF i hi).2.2.2.2.2 x hx
theorem DecD.sl {t e : TypeId} {g : (H : Type) → DataW H → List PV → Prop} {G : (H : Type) → DataW H → PV → Prop} (ht : P.underlying t = some (.slice e)) (he : DecD P e g) (hz : 0 < P.cellsOf e)
 (hG : ∀ H d ps, ps.length = P.cellsOf e → g H d ps → ∃ p : PV, p.cells = ps ∧ G H d p) : DecD P t (dSl (P.cellsOf e) G) := by
 refine .one fun H enc w base held fuel cs x hx => ?_
 rcases DataW.trod_slice ht hx with ⟨rfl, hd⟩ | ⟨a, len, cap, elems, rest, n, rfl, rfl, hd, -, hc, hm, hl, hel, hsp, -⟩
 ·exact ⟨_, .sl _ [], rfl, rfl, .slnil _, [], rfl, by simp, .inl ⟨rfl, by rw [hd]⟩⟩
 by_cases hcap : cap = 0
 ·subst hcap
  have h0 : len = 0 := by omega
  subst h0
  obtain rfl : elems = [] := List.eq_nil_of_length_eq_zero hl
  exact ⟨_, .sl _ [], rfl, rfl, .slx _ _, [], rfl, by simp, .inr ⟨[], rest.map (·.1), by rw [hd]; rfl, rfl, by simp⟩⟩
 have hsp0 : a.spot = none := by
  by_cases h0 : len = 0
  ·subst h0
   obtain ⟨hr1, hr2⟩ := hsp rfl
   have h1 := hr2 0 (by omega)
   rw [List.getElem?_eq_getElem (by omega)] at h1
   obtain ⟨vs, hvs, -⟩ := Option.bind_eq_some_iff.1 h1
   have hvl := (World.cells?_some hvs).2.1
   have h2 := (World.cells?_some hvs).2.2 0 hz
   have := World.cell?_spot (h2.trans (List.getElem?_eq_getElem (by omega)))
   simpa [Addr.add] using this
  ·have h1 := hel 0 (by omega)
   rw [List.getElem?_eq_getElem (by omega)] at h1
   obtain ⟨vs, hvs, -⟩ := Option.bind_eq_some_iff.1 h1
   have hvl := (World.cells?_some hvs).2.1
   have h2 := (World.cells?_some hvs).2.2 0 hz
   have := World.cell?_spot (h2.trans (List.getElem?_eq_getElem (by omega)))
   simpa [Addr.add] using this
 obtain ⟨es, hp, hes, hg⟩ := DecD.sl_core (P := P) he hz hG (enc := enc) (w := w) (base := base) (held := held) (n := n) (elems := elems) hsp0 hc hm hl hel
 refine ⟨_, .sl _ es, rfl, rfl, hp, es, rfl, by omega, .inr ⟨elems.map (·.1), rest.map (·.1), by rw [hd], by simp [hl, hes], fun i p q h1 h2 => ?_⟩⟩
 rw [List.getElem?_map] at h2
 obtain ⟨y, hy, rfl⟩ := Option.map_eq_some_iff.1 h2
 exact hg i p y h1 hy
theorem DecE.ofC {t : TypeId} {g : (H : Type) → DataW H → List PV → Prop} (h : DecD P t g) (hk : P.underlying t = some .bool ∨ P.underlying t = some .string ∨ (∃ k, P.underlying t = some (.int k)) ∨ ∃ e, P.underlying t = some (.slice e)) : DecE P t (dOne g) := by
 intro H enc w b0 base held v d ps0 hok hd
 obtain ⟨fuel, hx⟩ := hd
 obtain ⟨ps, h1, h2, h3, h4⟩ := h H enc w base held fuel _ _ hx
 have hc : v.cells.toList = [v] := by
  rcases hk with hk | hk | ⟨k, hk⟩ | ⟨e, hk⟩
  ·obtain ⟨b, rfl⟩ := okWide_bool hk hok; rfl
  ·obtain ⟨b, rfl⟩ := okWide_string hk hok; rfl
  ·obtain ⟨b, rfl⟩ := okWide_int hk hok; rfl
  ·obtain ⟨a, len, cap, rfl⟩ := okWide_slice hk hok; rfl
 rw [hc] at h1 h3
 match ps, h1 with
 | [p], _ => exact ⟨p, h3 0 v p rfl rfl, h4⟩
inductive DecG (P : Program) : Nat → List Field → List ((H : Type) → DataW H → List PV → Prop) → Nat → Prop
 | nil (off) : DecG P off [] [] off
 | cons (off : Nat) (f : Field) (fs : List Field) (g : (H : Type) → DataW H → List PV → Prop) (gs : List ((H : Type) → DataW H → List PV → Prop)) (tot : Nat) (ho : f.offset = off) (h : DecD P f.type g) (r : DecG P (off + P.cellsOf f.type) fs gs tot) : DecG P off (f :: fs) (g :: gs) tot
theorem DecG.le {off tot : Nat} {fs : List Field} {gs : List ((H : Type) → DataW H → List PV → Prop)} (h : DecG P off fs gs tot) : off ≤ tot := by
 induction h with
 | nil => exact Nat.le_refl _
 | cons _ _ _ _ _ _ _ _ _ ih => omega
theorem DecG.run {off tot : Nat} {fs : List Field} {gs : List ((H : Type) → DataW H → List PV → Prop)} (h : DecG P off fs gs tot) {H : Type} {enc : TypeId × Value → H} {w : World} {base : Nat} {held : Bool} {n : Nat} {cs : List Value}
 (hl : cs.length = tot) : ∀ (xs : List (DataW H × List MemPlace)), xs.length = fs.length → (∀ (i : Nat) (f : Field), fs[i]? = some f → DataW.trod enc P w base (fun _ => true) held n f.type ((cs.drop f.offset).take (P.cellsOf f.type)) = xs[i]?) →
 ∃ ps : List PV, ps.length = cs.length - off ∧ (∀ (i : Nat) (v : Value), (cs.drop off)[i]? = some v → v.oneCell' = true) ∧
  (∀ (i : Nat) (v : Value) (p : PV), (cs.drop off)[i]? = some v → ps[i]? = some p → PRel (allH w) v p) ∧ dL gs H (xs.map (·.1)) ps := by
 induction h with
 | nil off =>
  intro xs hx _
  obtain rfl : xs = [] := List.eq_nil_of_length_eq_zero hx
  exact ⟨[], by simp [hl], by simp [← hl], by simp, rfl, rfl⟩
 | cons off f fs g gs tot ho h r ih =>
  intro xs hx hr
  match xs, hx with
  | x :: xs, hx =>
   obtain ⟨q, q1, q2, q3, q4⟩ := h H enc w base held n _ x (by simpa using hr 0 f rfl)
   have hsz := r.le
   obtain ⟨ps, p1, p2, p3, p4⟩ := ih hl xs (by simpa using hx) (fun i f' hf => by simpa using hr (i + 1) f' (by simpa using hf))
   rw [ho] at q1 q2 q3
   have hq : q.length = P.cellsOf f.type := by rw [q1, List.length_take, List.length_drop]; omega
   have hget : ∀ i, (cs.drop off)[i]? = if i < P.cellsOf f.type then ((cs.drop off).take (P.cellsOf f.type))[i]? else (cs.drop (off + P.cellsOf f.type))[i - P.cellsOf f.type]? := by
    intro i
    split
    ·rw [List.getElem?_take_of_lt (by assumption)]
    ·rw [List.getElem?_drop, List.getElem?_drop]; congr 1; omega
   refine ⟨q ++ ps, by rw [List.length_append, hq, p1]; omega, fun i v hv => ?_, fun i v p hv hp => ?_, q, ps, _, _, rfl, rfl, q4, p4⟩
   ·rw [hget] at hv
    split at hv
    ·exact q2 _ _ hv
    ·exact p2 _ _ hv
   ·rw [hget] at hv
    split at hv
    ·rw [List.getElem?_append_left (by omega)] at hp; exact q3 _ _ _ hv hp
    ·rw [List.getElem?_append_right (by omega), hq] at hp; exact p3 _ _ _ hv hp
theorem DecD.struct {t : TypeId} {fs : Array Field} {gs : List ((H : Type) → DataW H → List PV → Prop)} (ht : P.underlying t = some (.struct fs)) (h : DecG P 0 fs.toList gs (P.cellsOf t)) : DecD P t (dSt gs) := by
 intro H enc w base held fuel cs x hx
 obtain ⟨xs, n, rfl, hd, hl, hn, hf⟩ := DataW.trod_struct ht hx
 obtain ⟨ps, p1, p2, p3, p4⟩ := h.run (enc := enc) (w := w) (base := base) (held := held) (n := n) hl xs (by simp [hn]) (fun i f hi => hf i f (by rw [Array.getElem?_toList] at hi; exact hi))
 exact ⟨ps, by simpa using p1, by simpa using p2, by simpa using p3, xs.map (·.1), by rw [hd], p4⟩
inductive DecEs (P : Program) : List TypeId → List ((H : Type) → DataW H → PV → Prop) → Prop
 | nil : DecEs P [] []
 | cons (t : TypeId) (ts : List TypeId) (G : (H : Type) → DataW H → PV → Prop) (Gs : List ((H : Type) → DataW H → PV → Prop)) (h : DecE P t G) (r : DecEs P ts Gs) : DecEs P (t :: ts) (G :: Gs)
def GEs (H : Type) : List ((H : Type) → DataW H → PV → Prop) → List (DataW H) → List PV → Prop
 | [], ds, ps => ds = [] ∧ ps = []
 | G :: Gs, ds, ps => ∃ d ds' p qs, ds = d :: ds' ∧ ps = p :: qs ∧ G H d p ∧ GEs H Gs ds' qs
theorem DecEs.run {ts : List TypeId} {Gs : List ((H : Type) → DataW H → PV → Prop)} (h : DecEs P ts Gs) {H : Type} {enc : TypeId × Value → H} {W : World} {b0 base : Nat} {held : Bool} :
 ∀ {vs : List Value} {ds : List (DataW H)} {ps : List MemPlace}, (∀ (j : Nat) (t : TypeId) (v : Value), ts[j]? = some t → vs[j]? = some v → Value.okWide P W .any b0 t v) →
  DataW.TrodAll enc P W base (fun _ => true) held ts vs ds ps →
  vs.length = ds.length ∧ ∃ qs : List PV, vs.length = qs.length ∧ (∀ (i : Nat) (v : Value) (p : PV), vs[i]? = some v → qs[i]? = some p → PRel (allH W) v p) ∧ GEs H Gs ds qs := by
 induction h with
 | nil =>
  intro vs ds ps _ h
  obtain ⟨rfl, rfl, rfl⟩ := trodAll_nil h
  exact ⟨rfl, [], rfl, by simp, rfl, rfl⟩
 | cons t ts G Gs h r ih =>
  intro vs ds ps hok ha
  obtain ⟨v, vs, d, ds, a, b, rfl, rfl, rfl, h1, h2⟩ := trodAll_cons ha
  obtain ⟨p, hp, hG⟩ := h H enc W b0 base held v d a (hok 0 t v rfl rfl) h1
  obtain ⟨hl, qs, q1, q2, q3⟩ := ih (fun j t' v' h3 h4 => hok (j + 1) t' v' (by simpa using h3) (by simpa using h4)) h2
  refine ⟨by simp [hl], p :: qs, by simp [q1], fun i v' p' hv hp' => ?_, d, ds, p, qs, rfl, rfl, hG, q3⟩
  cases i with
  | zero => simp at hv hp'; subst hv; subst hp'; exact hp
  | succ i => exact q2 i v' p' (by simpa using hv) (by simpa using hp')
end
end Go.Pv
set_option linter.unusedSimpArgs false
set_option linter.unusedVariables false
set_option linter.unusedSectionVars false
namespace Go.Pv
open Go.RowKit Go.ChangeShapes Go.WideShapes
variable [GTab]
theorem trodAll_len {H : Type} {enc : TypeId × Value → H} {P : Program} {W : World} : ∀ {ts : List TypeId} {vs : List Value} {ds : List (DataW H)} {ps : List MemPlace}, DataW.TrodAll enc P W 0 (fun _ => true) true ts vs ds ps → ds.length = ts.length := by
 intro ts
 induction ts with
 | nil => intro vs ds ps h; obtain ⟨-, rfl, -⟩ := trodAll_nil h; rfl
 | cons t ts ih => intro vs ds ps h; obtain ⟨_, _, _, _, _, _, -, rfl, -, -, h2⟩ := trodAll_cons h; simp [ih h2]
theorem lawRow {C : Checked} {os : Os} {f : FuncId} {fn : Func} {s0 : ChangeSpec} {s : OpenSpec} {F : Stop.Interp} {H : Type} {enc : TypeId × Value → H} {t : TypeId} {Gs : List ((H : Type) → DataW H → PV → Prop)} {laid : List (String × DataW Unit)}
 (own : ownKnob C.prog.godebug = none) (started : os.Started) (noInit : C.prog.inits.idxOf? f = none) (hfn : C.prog.funcs[f]? = some fn)
 (witness : ∃ (w : World) (tape : Tape) (i : Input), w.os = os ∧ (w.forCall tape i).Shaped C.prog ∧ i.vars = [] ∧ Input.okWide C.prog (w.forCall tape i) .any w.heap.size f i ∧
   s.preRow enc C.prog fn [] false laid (w.forCall tape i).memory i.args ∧ ({} : Assume).holds C.prog (lone (Frame.enter C.prog f i.args .normal) [] (w.forCall tape i)))
 (hdec : DecEs C.prog fn.params.toList Gs) (hat : s.at F = s0) (hvs : s.vars = []) (hv0 : s0.vars = []) (hrt : fn.resultTypes = #[t]) (ht : C.prog.underlying t = some .bool)
 (hsp : ∀ (ds : List (DataW H)), ds.length = fn.params.toList.length → (s0.fn H ds).results = [.lit (.bool true)] ∧ (s0.fn H ds).args = ds ∧ (s0.fn H ds).vars = [])
 (hl : laidOutB C.prog = true) (hr : (fn.params.toList.all fun t => C.prog.readableRec t && Nat.blt t C.prog.types.size) = true)
 (hgl : ∀ W, laidMetH C.prog laid W → ∀ k ps, gat GTab.tab k = some ps → PRel (allH W) (.pointer (some ⟨k, 0, none⟩)) (.loc ps))
 (hS : ∀ ds qs, (∀ k, s.cond = some k → k H ds = true) → (∀ n ∈ DataW.weightsEach C.prog fn.params.toList ds, n ≤ reachBytes) → GEs H Gs ds qs → Fsp C.prog f [] 0 qs [] 0 (.bool true)) :
 ReturnsInHanded {} C os f .any (s.preRow enc C.prog fn [] false laid) ((s.at F).post enc C.prog fn false true false false) := by
 refine returnsInHanded_of_row (C := C) own started noInit hfn witness ?_
 intro W base args ds gs before hval hW _ hk hwt hL _ _
 rw [hvs] at hW
 have hW' := hW
 obtain ⟨p, q, hA, hV, rfl, hfz, hnd⟩ := hW
 have hg : gs = [] := by
  cases gs with
  | nil => rfl
  | cons _ _ => exact hV.elim
 have hpv : s.bare.plain.varTypes C.prog = [] := by
  have : s.bare.plain.vars = [] := hvs
  simp [DataSpec.varTypes, this]
 rw [hg, hpv, List.append_nil, List.append_nil] at hwt
 rw [hg] at hk
 obtain ⟨h1, qs, h2, h3, h4⟩ := hdec.run (b0 := base) (fun j t v ha hb => hval j t v (by simpa using ha) (by simpa using hb)) hA
 obtain ⟨k1, k2, k3⟩ := hsp ds (trodAll_len hA)
 rw [hat]
 rw [← hv0] at hW'
 refine (Fsp.law (hS ds qs (fun k e => by simpa using hk k e) (fun n hn => by simpa using List.all_eq_true.1 hwt n hn) h4) (w := W) (hgl W hL) (vs := args) (by rw [← h2]; simp) (fun i v p hv hp => h3 i v p (by simpa using hv) hp)).mono fun e W' ⟨he, hb⟩ => ⟨.bool true, he, ?_⟩
 exact post_true hW' hv0 hrt ht k1 k2 k3 hl hr hb
end Go.Pv
