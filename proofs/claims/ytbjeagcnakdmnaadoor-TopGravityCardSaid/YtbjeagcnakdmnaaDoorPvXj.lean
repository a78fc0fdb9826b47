/- Abstract values: a law's row where package-level variables are laid. Nothing of any program. -/
import Derived.Test.YtbjeagcnakdmnaaDoorPvX
import Derived.Test.YtbjeagcnakdmnaaDoorPvZ
import Derived.LaidMore
import Derived.Stop.Joined
import Derived.LaidLaws
import Derived.MakeChecks
import Derived.HandedShaped
import Derived.Deep.DeepHandedRow
set_option linter.unusedSimpArgs false
set_option linter.unusedVariables false
set_option linter.unusedSectionVars false
namespace Go.Pv
open Go.RowKit Go.ChangeShapes Go.WideShapes
variable [GTab]

theorem laid_mem {P : Program} {w : World} {n : String} {d : DataW Unit} : ∀ {l : List (String × DataW Unit)} {ps : List MemPlace}, DataW.LaidVars P w l ps → (n, d) ∈ l →
    ∃ g t cs fuel p, P.globalNamed n = some g ∧ (P.globals[g]?).map (·.type) = some t ∧ w.var? P n = some cs ∧ DataW.trod (fun _ => ()) P w 0 (fun _ => true) false fuel t cs.toList = some (d, p)
  | [], _, _, h => by cases h
  | (m, e) :: r, ps, hl, h => by
    obtain ⟨g, t, cs, fuel, p, q, h1, h2, h3, h4, h5, -⟩ := hl
    rcases List.mem_cons.1 h with e' | h
    · cases e'; exact ⟨g, t, cs, fuel, p, h1, h2, h3, h4⟩
    · exact laid_mem h5 h

def dParts {H : Type} : DataW H → List (DataW H)
  | .agg l => l
  | _ => []

end Go.Pv

/- Abstract values: a law's arguments, read with their sizes. Nothing of any program. -/
set_option linter.unusedSimpArgs false
set_option linter.unusedVariables false
set_option linter.unusedSectionVars false
namespace Go.Pv
open Go.RowKit Go.ChangeShapes Go.WideShapes
variable [GTab]

section
variable {P : Program}
end

end Go.Pv

/- Abstract values: a package-level variable that is a row of structures of numbers. Nothing of any program. -/
set_option linter.unusedSimpArgs false
set_option linter.unusedVariables false
set_option linter.unusedSectionVars false
namespace Go.Pv
open Go.RowKit Go.ChangeShapes Go.WideShapes
variable [GTab]
/-- The numbers of a row, of whatever kinds. -/
def dAll {H : Type} : List (DataW H) → List PV
  | [] => []
  | .lit (.int k n) :: r => .int k n :: dAll r
  | _ :: r => .any :: dAll r
def dRows {H : Type} (d : DataW H) : List PV := (dParts d).flatMap fun x => dAll (dParts x)
theorem dAll_length {H : Type} : ∀ (l : List (DataW H)), (dAll l).length = l.length
  | [] => rfl
  | x :: l => by
    have := dAll_length l
    unfold dAll
    split <;> simp_all
theorem dAll_get {H : Type} {k : IntKind} {z : Int} : ∀ (l : List (DataW H)) (i : Nat), l[i]? = some (.lit (.int k z)) → (dAll l)[i]? = some (.int k z)
  | [], i, h => by simp at h
  | x :: l, i, h => by
    cases i with
    | zero => simp at h; subst h; rfl
    | succ i =>
      have := dAll_get l i (by simpa using h)
      unfold dAll
      split <;> simp_all
end Go.Pv

/- Abstract values: an argument that is a structure of numbers, texts and slices. Nothing of any program. -/
set_option linter.unusedSimpArgs false
set_option linter.unusedVariables false
set_option linter.unusedSectionVars false
namespace Go.Pv
open Go.RowKit Go.ChangeShapes Go.WideShapes
variable [GTab] {P : Program}
end Go.Pv

/- Abstract values: a law's arguments, read beside their data (so with their bulk and their weights). Nothing of any program. -/
set_option linter.unusedSimpArgs false
set_option linter.unusedVariables false
set_option linter.unusedSectionVars false
namespace Go.Pv
open Go.RowKit Go.ChangeShapes Go.WideShapes
variable [GTab]
def DecD (P : Program) (t : TypeId) (good : (H : Type) → DataW H → List PV → Prop) : Prop :=
  ∀ (H : Type) (enc : TypeId × Value → H) (w : World) (base : Nat) (held : Bool) (fuel : Nat) (cs : List Value) (x : DataW H × List MemPlace),
    DataW.trod enc P w base (fun _ => true) held fuel t cs = some x →
    ∃ ps : List PV, ps.length = cs.length ∧ (∀ (i : Nat) (v : Value), cs[i]? = some v → v.oneCell' = true) ∧
      (∀ (i : Nat) (v : Value) (p : PV), cs[i]? = some v → ps[i]? = some p → PRel (allH w) v p) ∧ good H x.1 ps
def DecE (P : Program) (t : TypeId) (G : (H : Type) → DataW H → PV → Prop) : Prop :=
  ∀ (H : Type) (enc : TypeId × Value → H) (W : World) (b0 base : Nat) (held : Bool) (v : Value) (d : DataW H) (ps : List MemPlace),
    Value.okWide P W .any b0 t v → DataW.Trod enc P W base (fun _ => true) held t v d ps → ∃ p : PV, PRel (allH W) v p ∧ G H d p
def dInt (k : IntKind) (H : Type) (d : DataW H) (ps : List PV) : Prop := ∃ n, ps = [.int k n] ∧ d = .lit (.int k n) ∧ (Lit.int k n).wf = true
def dSl (sz : Nat) (G : (H : Type) → DataW H → PV → Prop) (H : Type) (d : DataW H) (ps : List PV) : Prop :=
  ∃ es : List PV, ps = [.sl sz es] ∧ es.length ≤ maxLen ∧ ((es = [] ∧ d = .nil) ∨ ∃ elems spare, d = .slice elems spare ∧ elems.length = es.length ∧ ∀ (i : Nat) (p : PV) (q : DataW H), es[i]? = some p → elems[i]? = some q → G H q p)
def dL : List ((H : Type) → DataW H → List PV → Prop) → (H : Type) → List (DataW H) → List PV → Prop
  | [], _, ds, ps => ps = [] ∧ ds = []
  | g :: gs, H, ds, ps => ∃ q r d ds', ps = q ++ r ∧ ds = d :: ds' ∧ g H d q ∧ dL gs H ds' r
def dSt (gs : List ((H : Type) → DataW H → List PV → Prop)) (H : Type) (d : DataW H) (ps : List PV) : Prop := ∃ ds, d = .agg ds ∧ dL gs H ds ps
def dOne (g : (H : Type) → DataW H → List PV → Prop) (H : Type) (d : DataW H) (p : PV) : Prop := g H d [p]
def dAgg (g : (H : Type) → DataW H → List PV → Prop) (H : Type) (d : DataW H) (p : PV) : Prop := ∃ ps, p = .agg ps ∧ g H d ps
section
variable {P : Program}
theorem DecD.one {t : TypeId} {good : (H : Type) → DataW H → List PV → Prop} (h : ∀ (H : Type) (enc : TypeId × Value → H) (w : World) (base : Nat) (held : Bool) (fuel : Nat) (cs : List Value) (x : DataW H × List MemPlace),
    DataW.trod enc P w base (fun _ => true) held fuel t cs = some x → ∃ (v : Value) (p : PV), cs = [v] ∧ v.oneCell' = true ∧ PRel (allH w) v p ∧ good H x.1 [p]) : DecD P t good := by
  intro H enc w base held fuel cs x hx
  obtain ⟨v, p, rfl, h1, h2, h3⟩ := h H enc w base held fuel cs x hx
  refine ⟨[p], rfl, ?_, ?_, h3⟩
  · intro i v' hv; obtain ⟨-, rfl⟩ := single hv; exact h1
  · intro i v' p' hv hp; obtain ⟨-, rfl⟩ := single hv; obtain ⟨-, rfl⟩ := single hp; exact h2
theorem DecD.int {t : TypeId} {k : IntKind} (ht : P.underlying t = some (.int k)) : DecD P t (dInt k) :=
  .one fun H enc w base held fuel cs x hx => by
    obtain ⟨n, rfl, hd, hw⟩ := DataW.trod_int ht hx
    exact ⟨_, .int k n, rfl, rfl, .int k n, n, rfl, by rw [hd], hw⟩
/-- A slice whose elements are read: its core. -/
theorem DecD.sl_core {e : TypeId} {g : (H : Type) → DataW H → List PV → Prop} {G : (H : Type) → DataW H → PV → Prop} (he : DecD P e g) (hz : 0 < P.cellsOf e)
    (hG : ∀ H d ps, ps.length = P.cellsOf e → g H d ps → ∃ p : PV, p.cells = ps ∧ G H d p) {H : Type} {enc : TypeId × Value → H} {w : World} {base : Nat} {held : Bool} {n : Nat} {a : Addr} {len cap : Nat} {elems : List (DataW H × List MemPlace)}
    (hsp0 : a.spot = none) (hc : len ≤ cap) (hm : cap ≤ maxLen) (hl : elems.length = len)
    (hel : ∀ i, i < len → (w.cells? base (a.add (i * P.cellsOf e)) (P.cellsOf e)).bind (DataW.trod enc P w base (fun _ => true) held n e) = elems[i]?) :
    ∃ es : List PV, PRel (allH w) (.slice (some a) len cap) (.sl (P.cellsOf e) es) ∧ es.length = len ∧ ∀ (i : Nat) (p : PV) (x : DataW H × List MemPlace), es[i]? = some p → elems[i]? = some x → G H x.1 p := by
  have each : ∀ i, i < len → ∃ (p : PV) (vs : List Value), p.cells.length = P.cellsOf e ∧ vs.length = P.cellsOf e ∧ w.cells? base (a.add (i * P.cellsOf e)) (P.cellsOf e) = some vs ∧
      (∀ (j : Nat) (v : Value), vs[j]? = some v → v.oneCell' = true) ∧ (∀ (j : Nat) (v : Value) (q : PV), vs[j]? = some v → p.cells[j]? = some q → PRel (allH w) v q) ∧ ∀ x, elems[i]? = some x → G H x.1 p := by
    intro i hi
    have h1 := hel i hi
    obtain ⟨y, hy⟩ : ∃ y, elems[i]? = some y := ⟨_, List.getElem?_eq_getElem (by omega)⟩
    rw [hy] at h1
    obtain ⟨vs, hvs, ht⟩ := Option.bind_eq_some_iff.1 h1
    obtain ⟨ps, h2, h3, h4, h5⟩ := he H enc w base held n vs y ht
    have hlen : vs.length = P.cellsOf e := (World.cells?_some hvs).2.1
    obtain ⟨p, rfl, hp⟩ := hG H _ ps (by omega) h5
    exact ⟨p, vs, by omega, hlen, hvs, h3, h4, fun x hx => by rw [hy] at hx; cases hx; exact hp⟩
  obtain ⟨F, hF⟩ : ∃ F : Nat → PV × List Value, ∀ i, i < len → (F i).1.cells.length = P.cellsOf e ∧ (F i).2.length = P.cellsOf e ∧ w.cells? base (a.add (i * P.cellsOf e)) (P.cellsOf e) = some (F i).2 ∧
      (∀ (j : Nat) (v : Value), (F i).2[j]? = some v → v.oneCell' = true) ∧ (∀ (j : Nat) (v : Value) (q : PV), (F i).2[j]? = some v → (F i).1.cells[j]? = some q → PRel (allH w) v q) ∧ ∀ x, elems[i]? = some x → G H x.1 (F i).1 := by
    refine ⟨fun i => if hi : i < len then ((each i hi).choose, (each i hi).choose_spec.choose) else (.any, []), fun i hi => ?_⟩
    simp only [hi, dite_true]
    exact (each i hi).choose_spec.choose_spec
  by_cases h0 : len = 0
  · subst h0
    obtain ⟨b, off, sp⟩ := a
    simp at hsp0; subst hsp0
    exact ⟨[], .sl b off 0 cap _ [] (fun _ => .bool false) rfl hc hm (by simp) (by simp) (by simp) (by simp), rfl, by simp⟩
  · obtain ⟨b, off, sp⟩ := a
    simp at hsp0; subst hsp0
    let es := (List.range len).map fun i => (F i).1
    have hes : es.length = len := by simp [es]
    have hsz : ∀ p ∈ es, p.cells.length = P.cellsOf e := by
      intro p hp
      obtain ⟨i, hi, rfl⟩ := List.mem_map.1 hp
      exact (hF i (List.mem_range.1 hi)).1
    have hfl : (es.flatMap PV.cells).length = len * P.cellsOf e := by rw [flat_length hsz, hes]
    have hdm : ∀ i, i < len * P.cellsOf e → i / P.cellsOf e < len ∧ i % P.cellsOf e < P.cellsOf e :=
      fun i hi => ⟨(Nat.div_lt_iff_lt_mul hz).2 hi, Nat.mod_lt _ hz⟩
    refine ⟨es, .sl b off len cap _ es (fun i => ((F (i / P.cellsOf e)).2[i % P.cellsOf e]?).getD (.bool false)) hes.symm hc hm hsz ?_ ?_ ?_, hes, ?_⟩
    · intro i hi
      rw [hfl] at hi
      obtain ⟨h1, h2⟩ := hdm i hi
      obtain ⟨k1, k2, k3, k4, k5, k6⟩ := hF _ h1
      have := (World.cells?_some k3).2.2 _ h2
      simp only [add_plain] at this
      rw [Nat.add_assoc, Nat.mul_comm, Nat.div_add_mod] at this
      show one? (w.cell? _) = _
      rw [this, List.getElem?_eq_getElem (by omega)]
      exact one?_some rfl (k4 (i % P.cellsOf e) _ (by rw [List.getElem?_eq_getElem (by omega)]; rfl))
    · intro i hi
      rw [hfl] at hi
      obtain ⟨h1, h2⟩ := hdm i hi
      obtain ⟨k1, k2, k3, k4, k5, k6⟩ := hF _ h1
      exact k4 (i % P.cellsOf e) _ (by rw [List.getElem?_eq_getElem (by omega)]; rfl)
    · intro i p hp
      have hi : i < len * P.cellsOf e := by rw [← hfl]; exact (List.getElem?_eq_some_iff.1 hp).1
      obtain ⟨h1, h2⟩ := hdm i hi
      obtain ⟨k1, k2, k3, k4, k5, k6⟩ := hF _ h1
      rw [flatMap_id_map, get_append_flat _ (by intro l hl; obtain ⟨p, hp, rfl⟩ := List.mem_map.1 hl; exact hsz p hp) hz] at hp
      have e1 : (es.map PV.cells)[i / P.cellsOf e]? = some (F (i / P.cellsOf e)).1.cells := by
        rw [List.getElem?_map, List.getElem?_map, List.getElem?_range h1]; rfl
      rw [e1] at hp
      exact k5 (i % P.cellsOf e) _ p (by rw [List.getElem?_eq_getElem (by omega)]; rfl) hp
    · intro i p x hp hx
      have hi : i < len := by rw [← hes]; exact (List.getElem?_eq_some_iff.1 hp).1
      have e1 : es[i]? = some (F i).1 := by
        rw [List.getElem?_map, List.getElem?_range hi]; rfl
      rw [e1] at hp
      cases hp
      exact (hF i hi).2.2.2.2.2 x hx

theorem DecD.sl {t e : TypeId} {g : (H : Type) → DataW H → List PV → Prop} {G : (H : Type) → DataW H → PV → Prop} (ht : P.underlying t = some (.slice e)) (he : DecD P e g) (hz : 0 < P.cellsOf e)
    (hG : ∀ H d ps, ps.length = P.cellsOf e → g H d ps → ∃ p : PV, p.cells = ps ∧ G H d p) : DecD P t (dSl (P.cellsOf e) G) := by
  refine .one fun H enc w base held fuel cs x hx => ?_
  rcases DataW.trod_slice ht hx with ⟨rfl, hd⟩ | ⟨a, len, cap, elems, rest, n, rfl, rfl, hd, -, hc, hm, hl, hel, hsp, -⟩
  · exact ⟨_, .sl _ [], rfl, rfl, .slnil _, [], rfl, by simp, .inl ⟨rfl, by rw [hd]⟩⟩
  by_cases hcap : cap = 0
  · subst hcap
    have h0 : len = 0 := by omega
    subst h0
    obtain rfl : elems = [] := List.eq_nil_of_length_eq_zero hl
    exact ⟨_, .sl _ [], rfl, rfl, .slx _ _, [], rfl, by simp, .inr ⟨[], rest.map (·.1), by rw [hd]; rfl, rfl, by simp⟩⟩
  have hsp0 : a.spot = none := by
    by_cases h0 : len = 0
    · subst h0
      obtain ⟨hr1, hr2⟩ := hsp rfl
      have h1 := hr2 0 (by omega)
      rw [List.getElem?_eq_getElem (by omega)] at h1
      obtain ⟨vs, hvs, -⟩ := Option.bind_eq_some_iff.1 h1
      have hvl := (World.cells?_some hvs).2.1
      have h2 := (World.cells?_some hvs).2.2 0 hz
      have := World.cell?_spot (h2.trans (List.getElem?_eq_getElem (by omega)))
      simpa [Addr.add] using this
    · have h1 := hel 0 (by omega)
      rw [List.getElem?_eq_getElem (by omega)] at h1
      obtain ⟨vs, hvs, -⟩ := Option.bind_eq_some_iff.1 h1
      have hvl := (World.cells?_some hvs).2.1
      have h2 := (World.cells?_some hvs).2.2 0 hz
      have := World.cell?_spot (h2.trans (List.getElem?_eq_getElem (by omega)))
      simpa [Addr.add] using this
  obtain ⟨es, hp, hes, hg⟩ := DecD.sl_core (P := P) he hz hG (enc := enc) (w := w) (base := base) (held := held) (n := n) (elems := elems) hsp0 hc hm hl hel
  refine ⟨_, .sl _ es, rfl, rfl, hp, es, rfl, by omega, .inr ⟨elems.map (·.1), rest.map (·.1), by rw [hd], by simp [hl, hes], fun i p q h1 h2 => ?_⟩⟩
  rw [List.getElem?_map] at h2
  obtain ⟨y, hy, rfl⟩ := Option.map_eq_some_iff.1 h2
  exact hg i p y h1 hy
theorem DecE.ofC {t : TypeId} {g : (H : Type) → DataW H → List PV → Prop} (h : DecD P t g) (hk : P.underlying t = some .bool ∨ P.underlying t = some .string ∨ (∃ k, P.underlying t = some (.int k)) ∨ ∃ e, P.underlying t = some (.slice e)) : DecE P t (dOne g) := by
  intro H enc w b0 base held v d ps0 hok hd
  obtain ⟨fuel, hx⟩ := hd
  obtain ⟨ps, h1, h2, h3, h4⟩ := h H enc w base held fuel _ _ hx
  have hc : v.cells.toList = [v] := by
    rcases hk with hk | hk | ⟨k, hk⟩ | ⟨e, hk⟩
    · obtain ⟨b, rfl⟩ := okWide_bool hk hok; rfl
    · obtain ⟨b, rfl⟩ := okWide_string hk hok; rfl
    · obtain ⟨b, rfl⟩ := okWide_int hk hok; rfl
    · obtain ⟨a, len, cap, rfl⟩ := okWide_slice hk hok; rfl
  rw [hc] at h1 h3
  match ps, h1 with
  | [p], _ => exact ⟨p, h3 0 v p rfl rfl, h4⟩
/-- Fields, one behind the other. -/
inductive DecG (P : Program) : Nat → List Field → List ((H : Type) → DataW H → List PV → Prop) → Nat → Prop
  | nil (off) : DecG P off [] [] off
  | cons (off : Nat) (f : Field) (fs : List Field) (g : (H : Type) → DataW H → List PV → Prop) (gs : List ((H : Type) → DataW H → List PV → Prop)) (tot : Nat) (ho : f.offset = off) (h : DecD P f.type g) (r : DecG P (off + P.cellsOf f.type) fs gs tot) : DecG P off (f :: fs) (g :: gs) tot
theorem DecG.le {off tot : Nat} {fs : List Field} {gs : List ((H : Type) → DataW H → List PV → Prop)} (h : DecG P off fs gs tot) : off ≤ tot := by
  induction h with
  | nil => exact Nat.le_refl _
  | cons _ _ _ _ _ _ _ _ _ ih => omega
theorem DecG.run {off tot : Nat} {fs : List Field} {gs : List ((H : Type) → DataW H → List PV → Prop)} (h : DecG P off fs gs tot) {H : Type} {enc : TypeId × Value → H} {w : World} {base : Nat} {held : Bool} {n : Nat} {cs : List Value}
    (hl : cs.length = tot) : ∀ (xs : List (DataW H × List MemPlace)), xs.length = fs.length → (∀ (i : Nat) (f : Field), fs[i]? = some f → DataW.trod enc P w base (fun _ => true) held n f.type ((cs.drop f.offset).take (P.cellsOf f.type)) = xs[i]?) →
    ∃ ps : List PV, ps.length = cs.length - off ∧ (∀ (i : Nat) (v : Value), (cs.drop off)[i]? = some v → v.oneCell' = true) ∧
      (∀ (i : Nat) (v : Value) (p : PV), (cs.drop off)[i]? = some v → ps[i]? = some p → PRel (allH w) v p) ∧ dL gs H (xs.map (·.1)) ps := by
  induction h with
  | nil off =>
    intro xs hx _
    obtain rfl : xs = [] := List.eq_nil_of_length_eq_zero hx
    exact ⟨[], by simp [hl], by simp [← hl], by simp, rfl, rfl⟩
  | cons off f fs g gs tot ho h r ih =>
    intro xs hx hr
    match xs, hx with
    | x :: xs, hx =>
      obtain ⟨q, q1, q2, q3, q4⟩ := h H enc w base held n _ x (by simpa using hr 0 f rfl)
      have hsz := r.le
      obtain ⟨ps, p1, p2, p3, p4⟩ := ih hl xs (by simpa using hx) (fun i f' hf => by simpa using hr (i + 1) f' (by simpa using hf))
      rw [ho] at q1 q2 q3
      have hq : q.length = P.cellsOf f.type := by rw [q1, List.length_take, List.length_drop]; omega
      have hget : ∀ i, (cs.drop off)[i]? = if i < P.cellsOf f.type then ((cs.drop off).take (P.cellsOf f.type))[i]? else (cs.drop (off + P.cellsOf f.type))[i - P.cellsOf f.type]? := by
        intro i
        split
        · rw [List.getElem?_take_of_lt (by assumption)]
        · rw [List.getElem?_drop, List.getElem?_drop]; congr 1; omega
      refine ⟨q ++ ps, by rw [List.length_append, hq, p1]; omega, fun i v hv => ?_, fun i v p hv hp => ?_, q, ps, _, _, rfl, rfl, q4, p4⟩
      · rw [hget] at hv
        split at hv
        · exact q2 _ _ hv
        · exact p2 _ _ hv
      · rw [hget] at hv
        split at hv
        · rw [List.getElem?_append_left (by omega)] at hp; exact q3 _ _ _ hv hp
        · rw [List.getElem?_append_right (by omega), hq] at hp; exact p3 _ _ _ hv hp
theorem DecD.struct {t : TypeId} {fs : Array Field} {gs : List ((H : Type) → DataW H → List PV → Prop)} (ht : P.underlying t = some (.struct fs)) (h : DecG P 0 fs.toList gs (P.cellsOf t)) : DecD P t (dSt gs) := by
  intro H enc w base held fuel cs x hx
  obtain ⟨xs, n, rfl, hd, hl, hn, hf⟩ := DataW.trod_struct ht hx
  obtain ⟨ps, p1, p2, p3, p4⟩ := h.run (enc := enc) (w := w) (base := base) (held := held) (n := n) hl xs (by simp [hn]) (fun i f hi => hf i f (by rw [Array.getElem?_toList] at hi; exact hi))
  exact ⟨ps, by simpa using p1, by simpa using p2, by simpa using p3, xs.map (·.1), by rw [hd], p4⟩
/-! All arguments. -/
inductive DecEs (P : Program) : List TypeId → List ((H : Type) → DataW H → PV → Prop) → Prop
  | nil : DecEs P [] []
  | cons (t : TypeId) (ts : List TypeId) (G : (H : Type) → DataW H → PV → Prop) (Gs : List ((H : Type) → DataW H → PV → Prop)) (h : DecE P t G) (r : DecEs P ts Gs) : DecEs P (t :: ts) (G :: Gs)
def GEs (H : Type) : List ((H : Type) → DataW H → PV → Prop) → List (DataW H) → List PV → Prop
  | [], ds, ps => ds = [] ∧ ps = []
  | G :: Gs, ds, ps => ∃ d ds' p qs, ds = d :: ds' ∧ ps = p :: qs ∧ G H d p ∧ GEs H Gs ds' qs
theorem DecEs.run {ts : List TypeId} {Gs : List ((H : Type) → DataW H → PV → Prop)} (h : DecEs P ts Gs) {H : Type} {enc : TypeId × Value → H} {W : World} {b0 base : Nat} {held : Bool} :
    ∀ {vs : List Value} {ds : List (DataW H)} {ps : List MemPlace}, (∀ (j : Nat) (t : TypeId) (v : Value), ts[j]? = some t → vs[j]? = some v → Value.okWide P W .any b0 t v) →
      DataW.TrodAll enc P W base (fun _ => true) held ts vs ds ps →
      vs.length = ds.length ∧ ∃ qs : List PV, vs.length = qs.length ∧ (∀ (i : Nat) (v : Value) (p : PV), vs[i]? = some v → qs[i]? = some p → PRel (allH W) v p) ∧ GEs H Gs ds qs := by
  induction h with
  | nil =>
    intro vs ds ps _ h
    obtain ⟨rfl, rfl, rfl⟩ := trodAll_nil h
    exact ⟨rfl, [], rfl, by simp, rfl, rfl⟩
  | cons t ts G Gs h r ih =>
    intro vs ds ps hok ha
    obtain ⟨v, vs, d, ds, a, b, rfl, rfl, rfl, h1, h2⟩ := trodAll_cons ha
    obtain ⟨p, hp, hG⟩ := h H enc W b0 base held v d a (hok 0 t v rfl rfl) h1
    obtain ⟨hl, qs, q1, q2, q3⟩ := ih (fun j t' v' h3 h4 => hok (j + 1) t' v' (by simpa using h3) (by simpa using h4)) h2
    refine ⟨by simp [hl], p :: qs, by simp [q1], fun i v' p' hv hp' => ?_, d, ds, p, qs, rfl, rfl, hG, q3⟩
    cases i with
    | zero => simp at hv hp'; subst hv; subst hp'; exact hp
    | succ i => exact q2 i v' p' (by simpa using hv) (by simpa using hp')
end
end Go.Pv

/- Abstract values: a law's row, of either form, its arguments read beside their data. Nothing of any program. -/
set_option linter.unusedSimpArgs false
set_option linter.unusedVariables false
set_option linter.unusedSectionVars false
namespace Go.Pv
open Go.RowKit Go.ChangeShapes Go.WideShapes
variable [GTab]
theorem trodAll_len {H : Type} {enc : TypeId × Value → H} {P : Program} {W : World} : ∀ {ts : List TypeId} {vs : List Value} {ds : List (DataW H)} {ps : List MemPlace}, DataW.TrodAll enc P W 0 (fun _ => true) true ts vs ds ps → ds.length = ts.length := by
  intro ts
  induction ts with
  | nil => intro vs ds ps h; obtain ⟨-, rfl, -⟩ := trodAll_nil h; rfl
  | cons t ts ih => intro vs ds ps h; obtain ⟨_, _, _, _, _, _, -, rfl, -, -, h2⟩ := trodAll_cons h; simp [ih h2]
/-- A law: its row's core, of either form. -/
theorem lawRow {C : Checked} {os : Os} {f : FuncId} {fn : Func} {s0 : ChangeSpec} {s : OpenSpec} {F : Stop.Interp} {H : Type} {enc : TypeId × Value → H} {t : TypeId} {Gs : List ((H : Type) → DataW H → PV → Prop)} {laid : List (String × DataW Unit)}
    (own : ownKnob C.prog.godebug = none) (started : os.Started) (noInit : C.prog.inits.idxOf? f = none) (hfn : C.prog.funcs[f]? = some fn)
    (witness : ∃ (w : World) (tape : Tape) (i : Input), w.os = os ∧ (w.forCall tape i).Shaped C.prog ∧ i.vars = [] ∧ Input.okWide C.prog (w.forCall tape i) .any w.heap.size f i ∧
      s.preRow enc C.prog fn [] false laid (w.forCall tape i).memory i.args ∧ ({} : Assume).holds C.prog (lone (Frame.enter C.prog f i.args .normal) [] (w.forCall tape i)))
    (hdec : DecEs C.prog fn.params.toList Gs) (hat : s.at F = s0) (hvs : s.vars = []) (hv0 : s0.vars = []) (hrt : fn.resultTypes = #[t]) (ht : C.prog.underlying t = some .bool)
    (hsp : ∀ (ds : List (DataW H)), ds.length = fn.params.toList.length → (s0.fn H ds).results = [.lit (.bool true)] ∧ (s0.fn H ds).args = ds ∧ (s0.fn H ds).vars = [])
    (hl : laidOutB C.prog = true) (hr : (fn.params.toList.all fun t => C.prog.readableRec t && Nat.blt t C.prog.types.size) = true)
    (hgl : ∀ W, laidMetH C.prog laid W → ∀ k ps, gat GTab.tab k = some ps → PRel (allH W) (.pointer (some ⟨k, 0, none⟩)) (.loc ps))
    (hS : ∀ ds qs, (∀ k, s.cond = some k → k H ds = true) → (∀ n ∈ DataW.weightsEach C.prog fn.params.toList ds, n ≤ reachBytes) → GEs H Gs ds qs → Fsp C.prog f [] 0 qs [] 0 (.bool true)) :
    ReturnsInHanded {} C os f .any (s.preRow enc C.prog fn [] false laid) ((s.at F).post enc C.prog fn false true false false) := by
  refine returnsInHanded_of_row (C := C) own started noInit hfn witness ?_
  intro W base args ds gs before hval hW _ hk hwt hL _ _
  rw [hvs] at hW
  have hW' := hW
  obtain ⟨p, q, hA, hV, rfl, hfz, hnd⟩ := hW
  have hg : gs = [] := by
    cases gs with
    | nil => rfl
    | cons _ _ => exact hV.elim
  have hpv : s.bare.plain.varTypes C.prog = [] := by
    have : s.bare.plain.vars = [] := hvs
    simp [DataSpec.varTypes, this]
  rw [hg, hpv, List.append_nil, List.append_nil] at hwt
  rw [hg] at hk
  obtain ⟨h1, qs, h2, h3, h4⟩ := hdec.run (b0 := base) (fun j t v ha hb => hval j t v (by simpa using ha) (by simpa using hb)) hA
  obtain ⟨k1, k2, k3⟩ := hsp ds (trodAll_len hA)
  rw [hat]
  rw [← hv0] at hW'
  refine (Fsp.law (hS ds qs (fun k e => by simpa using hk k e) (fun n hn => by simpa using List.all_eq_true.1 hwt n hn) h4) (w := W) (hgl W hL) (vs := args) (by rw [← h2]; simp) (fun i v p hv hp => h3 i v p (by simpa using hv) hp)).mono fun e W' ⟨he, hb⟩ => ⟨.bool true, he, ?_⟩
  exact post_true hW' hv0 hrt ht k1 k2 k3 hl hr hb
end Go.Pv
