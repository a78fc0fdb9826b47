/- Abstract values: a law's arguments, read. Nothing of any program. -/
import Derived.Test.YtbjeagcnakdmnaaPvW
import Derived.ProofKit
import Derived.OpenShut
set_option linter.unusedSimpArgs false
set_option linter.unusedVariables false
set_option linter.unusedSectionVars false
namespace Go.Pv
open Go.RowKit Go.ChangeShapes Go.WideShapes
variable [GTab]

/-- Cells that are read as a type are abstract cells, good ones. -/
def DecC (P : Program) (t : TypeId) (good : List PV → Prop) : Prop :=
  ∀ (H : Type) (enc : TypeId × Value → H) (w : World) (base : Nat) (held : Bool) (fuel : Nat) (cs : List Value) (x : DataW H × List MemPlace),
    DataW.trod enc P w base (fun _ => true) held fuel t cs = some x →
    ∃ ps : List PV, ps.length = cs.length ∧ (∀ (i : Nat) (v : Value), cs[i]? = some v → v.oneCell' = true) ∧
      (∀ (i : Nat) (v : Value) (p : PV), cs[i]? = some v → ps[i]? = some p → PRel (allH w) v p) ∧ good ps

def DecV (P : Program) (t : TypeId) (G : PV → Prop) : Prop :=
  ∀ (H : Type) (enc : TypeId × Value → H) (W : World) (b0 base : Nat) (held : Bool) (v : Value) (d : DataW H) (ps : List MemPlace),
    Value.okWide P W .any b0 t v → DataW.Trod enc P W base (fun _ => true) held t v d ps → ∃ p : PV, PRel (allH W) v p ∧ G p

def gInt (k : IntKind) (ps : List PV) : Prop := ∃ n, ps = [.int k n] ∧ (Lit.int k n).wf = true
def gSl (sz : Nat) (G : PV → Prop) (ps : List PV) : Prop := ∃ es : List PV, ps = [.sl sz es] ∧ es.length ≤ maxLen ∧ ∀ p ∈ es, G p
def gL : List (List PV → Prop) → List PV → Prop
  | [], ps => ps = []
  | g :: gs, ps => ∃ q r, ps = q ++ r ∧ g q ∧ gL gs r
/-- One cell. -/
def one1 (g : List PV → Prop) (p : PV) : Prop := g [p]
theorem single {α : Type} {x y : α} {i : Nat} (h : [x][i]? = some y) : i = 0 ∧ x = y := by
  match i with
  | 0 => simp at h; exact ⟨rfl, h⟩
  | i + 1 => simp at h

section
variable {P : Program}

theorem DecC.one {t : TypeId} {good : List PV → Prop} (h : ∀ (H : Type) (enc : TypeId × Value → H) (w : World) (base : Nat) (held : Bool) (fuel : Nat) (cs : List Value) (x : DataW H × List MemPlace),
    DataW.trod enc P w base (fun _ => true) held fuel t cs = some x → ∃ (v : Value) (p : PV), cs = [v] ∧ v.oneCell' = true ∧ PRel (allH w) v p ∧ good [p]) : DecC P t good := by
  intro H enc w base held fuel cs x hx
  obtain ⟨v, p, rfl, h1, h2, h3⟩ := h H enc w base held fuel cs x hx
  refine ⟨[p], rfl, ?_, ?_, h3⟩
  · intro i v' hv; obtain ⟨-, rfl⟩ := single hv; exact h1
  · intro i v' p' hv hp; obtain ⟨-, rfl⟩ := single hv; obtain ⟨-, rfl⟩ := single hp; exact h2

theorem DecC.int {t : TypeId} {k : IntKind} (ht : P.underlying t = some (.int k)) : DecC P t (gInt k) :=
  .one fun H enc w base held fuel cs x hx => by
    obtain ⟨n, rfl, -, hw⟩ := DataW.trod_int ht hx
    exact ⟨_, .int k n, rfl, rfl, .int k n, n, rfl, hw⟩
theorem get_append_flat {sz : Nat} : ∀ (L : List (List PV)), (∀ l ∈ L, l.length = sz) → 0 < sz → ∀ i, (L.flatMap id)[i]? = (L[i / sz]?).bind fun l => l[i % sz]?
  | [], _, _, i => by simp
  | l :: L, h, hs, i => by
    have hl := h l (List.mem_cons_self ..)
    have ih := get_append_flat L (fun l' hl' => h l' (List.mem_cons_of_mem _ hl')) hs
    rw [List.flatMap_cons, id]
    by_cases hi : i < sz
    · rw [List.getElem?_append_left (by omega), Nat.div_eq_of_lt hi, Nat.mod_eq_of_lt hi]; simp
    · rw [List.getElem?_append_right (by omega), hl, ih]
      have e1 : i / sz = (i - sz) / sz + 1 := by rw [Nat.div_eq_sub_div hs (by omega)]
      have e2 : i % sz = (i - sz) % sz := Nat.mod_eq_sub_mod (by omega)
      rw [e1, e2, List.getElem?_cons_succ]

theorem flatMap_id_map {es : List PV} : es.flatMap PV.cells = (es.map PV.cells).flatMap id := by
  induction es with
  | nil => rfl
  | cons p es ih => simp [List.flatMap_cons, ih]

/-- A slice whose elements are read: its core. -/
theorem DecV.sl_core {e : TypeId} {g : List PV → Prop} {G : PV → Prop} (he : DecC P e g) (hz : 0 < P.cellsOf e)
    (hG : ∀ ps, ps.length = P.cellsOf e → g ps → ∃ p : PV, p.cells = ps ∧ G p) {H : Type} {enc : TypeId × Value → H} {w : World} {base : Nat} {held : Bool} {n : Nat} {a : Addr} {len cap : Nat} {elems : List (DataW H × List MemPlace)}
    (hsp0 : a.spot = none) (hc : len ≤ cap) (hm : cap ≤ maxLen) (hl : elems.length = len)
    (hel : ∀ i, i < len → (w.cells? base (a.add (i * P.cellsOf e)) (P.cellsOf e)).bind (DataW.trod enc P w base (fun _ => true) held n e) = elems[i]?) :
    ∃ p : PV, PRel (allH w) (.slice (some a) len cap) p ∧ gSl (P.cellsOf e) G [p] := by
  have each : ∀ i, i < len → ∃ (p : PV) (vs : List Value), p.cells.length = P.cellsOf e ∧ vs.length = P.cellsOf e ∧ w.cells? base (a.add (i * P.cellsOf e)) (P.cellsOf e) = some vs ∧
      (∀ (j : Nat) (v : Value), vs[j]? = some v → v.oneCell' = true) ∧ (∀ (j : Nat) (v : Value) (q : PV), vs[j]? = some v → p.cells[j]? = some q → PRel (allH w) v q) ∧ G p := by
    intro i hi
    have h1 := hel i hi
    obtain ⟨y, hy⟩ : ∃ y, elems[i]? = some y := ⟨_, List.getElem?_eq_getElem (by omega)⟩
    rw [hy] at h1
    obtain ⟨vs, hvs, ht⟩ := Option.bind_eq_some_iff.1 h1
    obtain ⟨ps, h2, h3, h4, h5⟩ := he H enc w base held n vs y ht
    have hlen : vs.length = P.cellsOf e := (World.cells?_some hvs).2.1
    obtain ⟨p, rfl, hp⟩ := hG ps (by omega) h5
    exact ⟨p, vs, by omega, hlen, hvs, h3, h4, hp⟩
  obtain ⟨F, hF⟩ : ∃ F : Nat → PV × List Value, ∀ i, i < len → (F i).1.cells.length = P.cellsOf e ∧ (F i).2.length = P.cellsOf e ∧ w.cells? base (a.add (i * P.cellsOf e)) (P.cellsOf e) = some (F i).2 ∧
      (∀ (j : Nat) (v : Value), (F i).2[j]? = some v → v.oneCell' = true) ∧ (∀ (j : Nat) (v : Value) (q : PV), (F i).2[j]? = some v → (F i).1.cells[j]? = some q → PRel (allH w) v q) ∧ G (F i).1 := by
    refine ⟨fun i => if hi : i < len then ((each i hi).choose, (each i hi).choose_spec.choose) else (.any, []), fun i hi => ?_⟩
    simp only [hi, dite_true]
    exact (each i hi).choose_spec.choose_spec
  by_cases h0 : len = 0
  · subst h0
    obtain ⟨b, off, sp⟩ := a
    simp at hsp0; subst hsp0
    exact ⟨.sl (P.cellsOf e) [], .sl b off 0 cap _ [] (fun _ => .bool false) rfl hc hm (by simp) (by simp) (by simp) (by simp), [], rfl, by simp, by simp⟩
  · obtain ⟨b, off, sp⟩ := a
    simp at hsp0; subst hsp0
    let es := (List.range len).map fun i => (F i).1
    have hes : es.length = len := by simp [es]
    have hsz : ∀ p ∈ es, p.cells.length = P.cellsOf e := by
      intro p hp
      obtain ⟨i, hi, rfl⟩ := List.mem_map.1 hp
      exact (hF i (List.mem_range.1 hi)).1
    have hfl : (es.flatMap PV.cells).length = len * P.cellsOf e := by rw [flat_length hsz, hes]
    have hdm : ∀ i, i < len * P.cellsOf e → i / P.cellsOf e < len ∧ i % P.cellsOf e < P.cellsOf e :=
      fun i hi => ⟨(Nat.div_lt_iff_lt_mul hz).2 hi, Nat.mod_lt _ hz⟩
    refine ⟨.sl (P.cellsOf e) es, .sl b off len cap _ es (fun i => ((F (i / P.cellsOf e)).2[i % P.cellsOf e]?).getD (.bool false)) hes.symm hc hm hsz ?_ ?_ ?_, es, rfl, by omega, ?_⟩
    · intro i hi
      rw [hfl] at hi
      obtain ⟨h1, h2⟩ := hdm i hi
      obtain ⟨k1, k2, k3, k4, k5, k6⟩ := hF _ h1
      have := (World.cells?_some k3).2.2 _ h2
      simp only [add_plain] at this
      rw [Nat.add_assoc, Nat.mul_comm, Nat.div_add_mod] at this
      show one? (w.cell? _) = _
      rw [this, List.getElem?_eq_getElem (by omega)]
      exact one?_some rfl (k4 (i % P.cellsOf e) _ (by rw [List.getElem?_eq_getElem (by omega)]; rfl))
    · intro i hi
      rw [hfl] at hi
      obtain ⟨h1, h2⟩ := hdm i hi
      obtain ⟨k1, k2, k3, k4, k5, k6⟩ := hF _ h1
      exact k4 (i % P.cellsOf e) _ (by rw [List.getElem?_eq_getElem (by omega)]; rfl)
    · intro i p hp
      have hi : i < len * P.cellsOf e := by rw [← hfl]; exact (List.getElem?_eq_some_iff.1 hp).1
      obtain ⟨h1, h2⟩ := hdm i hi
      obtain ⟨k1, k2, k3, k4, k5, k6⟩ := hF _ h1
      rw [flatMap_id_map, get_append_flat _ (by intro l hl; obtain ⟨p, hp, rfl⟩ := List.mem_map.1 hl; exact hsz p hp) hz] at hp
      have e1 : (es.map PV.cells)[i / P.cellsOf e]? = some (F (i / P.cellsOf e)).1.cells := by
        rw [List.getElem?_map, List.getElem?_map, List.getElem?_range h1]; rfl
      rw [e1] at hp
      exact k5 (i % P.cellsOf e) _ p (by rw [List.getElem?_eq_getElem (by omega)]; rfl) hp
    · intro p hp
      obtain ⟨i, hi, rfl⟩ := List.mem_map.1 hp
      exact (hF i (List.mem_range.1 hi)).2.2.2.2.2

/-- A slice, as a cell: an empty one may lie nowhere. -/
theorem DecC.sl {t e : TypeId} {g : List PV → Prop} {G : PV → Prop} (ht : P.underlying t = some (.slice e)) (he : DecC P e g) (hz : 0 < P.cellsOf e)
    (hG : ∀ ps, ps.length = P.cellsOf e → g ps → ∃ p : PV, p.cells = ps ∧ G p) : DecC P t (gSl (P.cellsOf e) G) := by
  refine .one fun H enc w base held fuel cs x hx => ?_
  rcases DataW.trod_slice ht hx with ⟨rfl, -⟩ | ⟨a, len, cap, elems, rest, n, rfl, rfl, -, -, hc, hm, hl, hel, hsp, -⟩
  · exact ⟨_, .sl _ [], rfl, rfl, .slnil _, [], rfl, by simp, by simp⟩
  by_cases hcap : cap = 0
  · subst hcap
    have h0 : len = 0 := by omega
    subst h0
    exact ⟨_, .sl _ [], rfl, rfl, .slx _ _, [], rfl, by simp, by simp⟩
  have hsp0 : a.spot = none := by
    by_cases h0 : len = 0
    · subst h0
      obtain ⟨hr1, hr2⟩ := hsp rfl
      have h1 := hr2 0 (by omega)
      rw [List.getElem?_eq_getElem (by omega)] at h1
      obtain ⟨vs, hvs, -⟩ := Option.bind_eq_some_iff.1 h1
      have hvl := (World.cells?_some hvs).2.1
      have h2 := (World.cells?_some hvs).2.2 0 hz
      have := World.cell?_spot (h2.trans (List.getElem?_eq_getElem (by omega)))
      simpa [Addr.add] using this
    · have h1 := hel 0 (by omega)
      rw [List.getElem?_eq_getElem (by omega)] at h1
      obtain ⟨vs, hvs, -⟩ := Option.bind_eq_some_iff.1 h1
      have hvl := (World.cells?_some hvs).2.1
      have h2 := (World.cells?_some hvs).2.2 0 hz
      have := World.cell?_spot (h2.trans (List.getElem?_eq_getElem (by omega)))
      simpa [Addr.add] using this
  obtain ⟨p, hp, hg⟩ := DecV.sl_core (P := P) he hz hG (enc := enc) (w := w) (base := base) (held := held) (n := n) (elems := elems) hsp0 hc hm hl hel
  exact ⟨_, p, rfl, rfl, hp, hg⟩
/-- A slice whose elements are read. -/
theorem DecV.sl {t e : TypeId} {g : List PV → Prop} {G : PV → Prop} (ht : P.underlying t = some (.slice e)) (he : DecC P e g) (hz : 0 < P.cellsOf e)
    (hG : ∀ ps, ps.length = P.cellsOf e → g ps → ∃ p : PV, p.cells = ps ∧ G p) : DecV P t (one1 (gSl (P.cellsOf e) G)) := by
  intro H enc w b0 base held v d ps0 hok hd
  obtain ⟨a, len, cap, rfl⟩ := okWide_slice ht hok
  obtain ⟨fuel, hx⟩ := hd
  obtain ⟨ps, h1, h2, h3, h4⟩ := DecC.sl ht he hz hG H enc w base held fuel _ _ hx
  match ps, h1 with
  | [p], _ => exact ⟨p, h3 0 _ p rfl rfl, h4⟩

/-- Fields, one behind the other. -/
inductive DecF (P : Program) : Nat → List Field → List (List PV → Prop) → Nat → Prop
  | nil (off) : DecF P off [] [] off
  | cons (off : Nat) (f : Field) (fs : List Field) (g : List PV → Prop) (gs : List (List PV → Prop)) (tot : Nat) (ho : f.offset = off) (h : DecC P f.type g) (r : DecF P (off + P.cellsOf f.type) fs gs tot) : DecF P off (f :: fs) (g :: gs) tot

theorem DecF.run {off tot : Nat} {fs : List Field} {gs : List (List PV → Prop)} (h : DecF P off fs gs tot) {H : Type} {enc : TypeId × Value → H} {w : World} {base : Nat} {held : Bool} {n : Nat} {cs : List Value}
    (hl : cs.length = tot) (hr : ∀ f ∈ fs, ∃ x, DataW.trod enc P w base (fun _ => true) held n f.type ((cs.drop f.offset).take (P.cellsOf f.type)) = some x) (hle : off ≤ tot) :
    off ≤ tot ∧ ∃ ps : List PV, ps.length = cs.length - off ∧ (∀ (i : Nat) (v : Value), (cs.drop off)[i]? = some v → v.oneCell' = true) ∧
      (∀ (i : Nat) (v : Value) (p : PV), (cs.drop off)[i]? = some v → ps[i]? = some p → PRel (allH w) v p) ∧ gL gs ps := by
  induction h with
  | nil off => exact ⟨hle, [], by simp [hl], by simp [← hl], by simp, rfl⟩
  | cons off f fs g gs tot ho h r ih =>
    obtain ⟨x, hx⟩ := hr f (List.mem_cons_self ..)
    obtain ⟨q, q1, q2, q3, q4⟩ := h H enc w base held n _ x hx
    have hsz : off + P.cellsOf f.type ≤ tot := by
      clear ih hr hx q1 q2 q3
      have : ∀ {a b fs gs}, DecF P a fs gs b → a ≤ b := by
        intro a b fs gs h
        induction h with
        | nil => exact Nat.le_refl _
        | cons _ _ _ _ _ _ _ _ _ ih => omega
      exact this r
    obtain ⟨-, ps, p1, p2, p3, p4⟩ := ih hl (fun f' hf => hr f' (List.mem_cons_of_mem _ hf)) hsz
    rw [ho] at q1 q2 q3
    have hq : q.length = P.cellsOf f.type := by rw [q1, List.length_take, List.length_drop]; omega
    have hget : ∀ i, (cs.drop off)[i]? = if i < P.cellsOf f.type then ((cs.drop off).take (P.cellsOf f.type))[i]? else (cs.drop (off + P.cellsOf f.type))[i - P.cellsOf f.type]? := by
      intro i
      split
      · rw [List.getElem?_take_of_lt (by assumption)]
      · rw [List.getElem?_drop, List.getElem?_drop]; congr 1; omega
    refine ⟨hle, q ++ ps, by rw [List.length_append, hq, p1]; omega, fun i v hv => ?_, fun i v p hv hp => ?_, q, ps, rfl, q4, p4⟩
    · rw [hget] at hv
      split at hv
      · exact q2 _ _ hv
      · exact p2 _ _ hv
    · rw [hget] at hv
      split at hv
      · rw [List.getElem?_append_left (by omega)] at hp; exact q3 _ _ _ hv hp
      · rw [List.getElem?_append_right (by omega), hq] at hp; exact p3 _ _ _ hv hp

theorem DecC.struct {t : TypeId} {fs : Array Field} {gs : List (List PV → Prop)} (ht : P.underlying t = some (.struct fs)) (h : DecF P 0 fs.toList gs (P.cellsOf t)) : DecC P t (gL gs) := by
  intro H enc w base held fuel cs x hx
  obtain ⟨xs, n, rfl, -, hl, hn, hf⟩ := DataW.trod_struct ht hx
  obtain ⟨-, ps, p1, p2, p3, p4⟩ := h.run (enc := enc) (w := w) (base := base) (held := held) (n := n) hl (fun f hm => by
    obtain ⟨i, hi⟩ := List.mem_iff_getElem?.1 hm
    rw [Array.getElem?_toList] at hi
    have := hf i f hi
    have hlt : i < fs.size := (Array.getElem?_eq_some_iff.1 hi).1
    exact ⟨xs[i], by rw [this, List.getElem?_eq_getElem (by omega)]⟩) (Nat.zero_le _)
  exact ⟨ps, by simpa using p1, by simpa using p2, by simpa using p3, p4⟩

/-! All arguments. -/
inductive DecVs (P : Program) : List TypeId → List (PV → Prop) → Prop
  | nil : DecVs P [] []
  | cons (t : TypeId) (ts : List TypeId) (G : PV → Prop) (Gs : List (PV → Prop)) (h : DecV P t G) (r : DecVs P ts Gs) : DecVs P (t :: ts) (G :: Gs)

def GVs : List (PV → Prop) → List PV → Prop
  | [], ps => ps = []
  | G :: Gs, ps => ∃ p qs, ps = p :: qs ∧ G p ∧ GVs Gs qs

theorem DecVs.run {ts : List TypeId} {Gs : List (PV → Prop)} (h : DecVs P ts Gs) {H : Type} {enc : TypeId × Value → H} {W : World} {b0 base : Nat} {held : Bool} :
    ∀ {vs : List Value} {ds : List (DataW H)} {ps : List MemPlace}, (∀ (j : Nat) (t : TypeId) (v : Value), ts[j]? = some t → vs[j]? = some v → Value.okWide P W .any b0 t v) →
      DataW.TrodAll enc P W base (fun _ => true) held ts vs ds ps → vs.length = ds.length ∧ ∃ qs : List PV, vs.length = qs.length ∧ (∀ (i : Nat) (v : Value) (p : PV), vs[i]? = some v → qs[i]? = some p → PRel (allH W) v p) ∧ GVs Gs qs := by
  induction h with
  | nil =>
    intro vs ds ps _ h
    obtain ⟨rfl, rfl, rfl⟩ := trodAll_nil h
    exact ⟨rfl, [], rfl, by simp, rfl⟩
  | cons t ts G Gs h r ih =>
    intro vs ds ps hok ha
    obtain ⟨v, vs, d, ds, a, b, rfl, rfl, rfl, h1, h2⟩ := trodAll_cons ha
    obtain ⟨p, hp, hG⟩ := h H enc W b0 base held v d a (hok 0 t v rfl rfl) h1
    obtain ⟨hl, qs, q1, q2, q3⟩ := ih (fun j t' v' h3 h4 => hok (j + 1) t' v' (by simpa using h3) (by simpa using h4)) h2
    refine ⟨by simp [hl], p :: qs, by simp [q1], fun i v' p' hv hp' => ?_, p, qs, rfl, hG, q3⟩
    cases i with
    | zero => simp at hv hp'; subst hv; subst hp'; exact hp
    | succ i => exact q2 i v' p' (by simpa using hv) (by simpa using hp')

end

/-- A law: its row's core. -/
theorem lawIn {C : Checked} {os : Os} {f : FuncId} {fn : Func} {s : ChangeSpec} {H : Type} {enc : TypeId × Value → H} {t : TypeId} {Gs : List (PV → Prop)}
    (own : ownKnob C.prog.godebug = none) (started : os.Started) (noInit : C.prog.inits.idxOf? f = none) (hfn : C.prog.funcs[f]? = some fn)
    (witness : ∃ (w : World) (tape : Tape) (i : Input), w.os = os ∧ (w.forCall tape i).Shaped C.prog ∧ i.vars = [] ∧ Input.okWide C.prog (w.forCall tape i) .any w.heap.size f i ∧
      s.pre6 enc C.prog fn [] false (w.forCall tape i).memory i.args ∧ ({} : Assume).holds C.prog (lone (Frame.enter C.prog f i.args .normal) [] (w.forCall tape i)))
    (hdec : DecVs C.prog fn.params.toList Gs) (hvs : s.vars = []) (hrt : fn.resultTypes = #[t]) (ht : C.prog.underlying t = some .bool)
    (hsp : ∀ (ds : List (DataW H)), ds.length = fn.params.toList.length → (s.fn H ds).results = [.lit (.bool true)] ∧ (s.fn H ds).args = ds ∧ (s.fn H ds).vars = [])
    (hl : laidOutB C.prog = true) (hr : (fn.params.toList.all fun t => C.prog.readableRec t && Nat.blt t C.prog.types.size) = true)
    (hgl : GTab.tab = [])
    (hS : ∀ qs, GVs Gs qs → Fsp C.prog f [] 0 qs [] 0 (.bool true)) :
    ReturnsInHanded {} C os f .any (s.pre6 enc C.prog fn [] false) (s.post enc C.prog fn false true false false) := by
  refine returnsInHanded_of_change (C := C) own started noInit hfn witness ?_
  intro W base args ds gs before hval hW _ _
  have hW' := hW
  obtain ⟨p, q, hA, hV, rfl, hfz, hnd⟩ := hW
  obtain ⟨h1, qs, h2, h3, h4⟩ := hdec.run (b0 := base) (fun j t v ha hb => hval j t v (by simpa using ha) (by simpa using hb)) hA
  have hlen : ds.length = fn.params.toList.length := by
    have : ∀ {ts : List TypeId} {vs : List Value} {ds : List (DataW H)} {ps : List MemPlace}, DataW.TrodAll enc C.prog W 0 (fun _ => true) true ts vs ds ps → ds.length = ts.length := by
      intro ts
      induction ts with
      | nil => intro vs ds ps h; obtain ⟨-, rfl, -⟩ := trodAll_nil h; rfl
      | cons t ts ih => intro vs ds ps h; obtain ⟨_, _, _, _, _, _, -, rfl, -, -, h2⟩ := trodAll_cons h; simp [ih h2]
    exact this hA
  obtain ⟨k1, k2, k3⟩ := hsp ds hlen
  refine (Fsp.law (hS qs h4) (w := W) (fun k ps h => by rw [hgl] at h; simp [gat] at h) (vs := args) (by rw [← h2]; simp) (fun i v p hv hp => h3 i v p (by simpa using hv) hp)).mono fun e W' ⟨he, hb⟩ => ⟨.bool true, he, ?_⟩
  have hg : gs = [] := by
    rw [hvs] at hV
    cases gs with
    | nil => rfl
    | cons _ _ => exact hV.elim
  exact post_true hW' hvs hrt ht k1 k2 k3 hl hr hb

end Go.Pv
