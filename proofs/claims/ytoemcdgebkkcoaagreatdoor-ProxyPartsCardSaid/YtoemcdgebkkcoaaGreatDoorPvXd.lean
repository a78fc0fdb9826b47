/- Abstract values: a law's row where package-level variables are laid. Nothing of any program. -/
import Derived.Test.YtoemcdgebkkcoaaGreatDoorPvX
import Derived.Test.YtoemcdgebkkcoaaGreatDoorPvZ
import Derived.LaidMore
import Derived.Stop.Joined
import Derived.LaidLaws
import Derived.MakeChecks
set_option linter.unusedSimpArgs false
set_option linter.unusedVariables false
set_option linter.unusedSectionVars false
namespace Go.Pv
open Go.RowKit Go.ChangeShapes Go.WideShapes
variable [GTab]

theorem laid_mem {P : Program} {w : World} {n : String} {d : DataW Unit} : ∀ {l : List (String × DataW Unit)} {ps : List MemPlace}, DataW.LaidVars P w l ps → (n, d) ∈ l →
    ∃ g t cs fuel p, P.globalNamed n = some g ∧ (P.globals[g]?).map (·.type) = some t ∧ w.var? P n = some cs ∧ DataW.trod (fun _ => ()) P w 0 (fun _ => true) false fuel t cs.toList = some (d, p)
  | [], _, _, h => by cases h
  | (m, e) :: r, ps, hl, h => by
    obtain ⟨g, t, cs, fuel, p, q, h1, h2, h3, h4, h5, -⟩ := hl
    rcases List.mem_cons.1 h with e' | h
    · cases e'; exact ⟨g, t, cs, fuel, p, h1, h2, h3, h4⟩
    · exact laid_mem h5 h

/-- The numbers of a row. -/
def dInts (k : IntKind) {H : Type} : List (DataW H) → List PV
  | [] => []
  | .lit (.int _ n) :: r => .int k n :: dInts k r
  | _ :: r => .any :: dInts k r
def dParts {H : Type} : DataW H → List (DataW H)
  | .agg l => l
  | _ => []

theorem loc_of_ints {P : Program} {w : World} {laid : List (String × DataW Unit)} {places : List MemPlace} (hl : DataW.LaidVars P w laid places) {name : String} {d : DataW Unit} (hm : (name, d) ∈ laid) {g : Nat} {t e : TypeId} {k : IntKind} {n : Nat}
    (hg : P.globalNamed name = some g) (ht : (P.globals[g]?).map (·.type) = some t) (hu : P.underlying t = some (.array n e)) (he : P.underlying e = some (.int k)) (hc : P.cellsOf e = 1) (hct : P.cellsOf t = n)
    {ps : List PV} (hps : pvsEq ps (dInts k (dParts d)) = true) : PRel (allH w) (.pointer (some ⟨g, 0, none⟩)) (.loc ps) := by
  obtain ⟨g', t', cs, fuel, p, h1, h2, h3, h4⟩ := laid_mem hl hm
  obtain rfl := Option.some.inj (hg.symm.trans h1)
  obtain rfl := Option.some.inj (ht.symm.trans h2)
  obtain rfl := pvsEq_eq hps
  obtain ⟨xs, m, rfl, hx, hlen, hn, hel⟩ := DataW.trod_array hu h4
  simp only [Prod.mk.injEq] at hx
  obtain ⟨rfl, -⟩ := hx
  have each : ∀ i, i < n → ∃ z : Int, cs[i]? = some (.int k z) ∧ (xs.map (·.1))[i]? = some (.lit (.int k z)) := by
    intro i hi
    have h5 := hel i hi
    rw [hc, Nat.mul_one] at h5
    have hxi : i < xs.length := by omega
    rw [List.getElem?_eq_getElem hxi] at h5
    obtain ⟨z, e1, e2, -⟩ := DataW.trod_int he h5
    have hcl : cs.toList.length = n := by rw [hlen, hct]
    refine ⟨z, ?_, ?_⟩
    · have : ((cs.toList.drop i).take 1)[0]? = some (.int k z) := by rw [e1]; rfl
      rw [List.getElem?_take_of_lt (by omega), List.getElem?_drop] at this
      simpa using this
    · rw [List.getElem?_map, List.getElem?_eq_getElem hxi, e2]; rfl
  have hdl : ∀ (l : List (DataW Unit)), (dInts k l).length = l.length := by
    intro l
    induction l with
    | nil => rfl
    | cons x l ih =>
      unfold dInts
      split <;> simp_all
  have hdg : ∀ (l : List (DataW Unit)) (i : Nat) (z : Int), l[i]? = some (.lit (.int k z)) → (dInts k l)[i]? = some (.int k z) := by
    intro l
    induction l with
    | nil => intro i z h; simp at h
    | cons x l ih =>
      intro i z h
      cases i with
      | zero => simp at h; subst h; rfl
      | succ i =>
        have := ih i z (by simpa using h)
        unfold dInts
        split <;> simp_all
  have hlen2 : (dInts k (dParts (.agg (xs.map (·.1)) : DataW Unit))).length = n := by
    rw [hdl]; show (xs.map (·.1)).length = n; simp [hn]
  refine .loc g 0 _ (fun i => (cs[i]?).getD undef) (fun i hi => ?_) (fun i hi => ?_) (fun i q hq => ?_)
  · rw [hlen2] at hi
    obtain ⟨z, e1, -⟩ := each i hi
    show one? (w.cell? _) = _
    rw [Nat.zero_add, World.var?_cell h1 h3 i, e1]; rfl
  · rw [hlen2] at hi
    obtain ⟨z, e1, -⟩ := each i hi
    simp only [e1]; rfl
  · have hi : i < n := by rw [← hlen2]; exact (List.getElem?_eq_some_iff.1 hq).1
    obtain ⟨z, e1, e2⟩ := each i hi
    have := hdg _ i z e2
    rw [show dInts k (dParts (.agg (xs.map (·.1)) : DataW Unit)) = dInts k (xs.map (·.1)) from rfl] at hq
    rw [this] at hq
    cases hq
    simp only [e1]
    exact .int k z

end Go.Pv

/- Abstract values: a package-level variable that is a row of structures of numbers. Nothing of any program. -/
set_option linter.unusedSimpArgs false
set_option linter.unusedVariables false
set_option linter.unusedSectionVars false
namespace Go.Pv
open Go.RowKit Go.ChangeShapes Go.WideShapes
variable [GTab]
/-- The numbers of a row, of whatever kinds. -/
def dAll {H : Type} : List (DataW H) → List PV
  | [] => []
  | .lit (.int k n) :: r => .int k n :: dAll r
  | _ :: r => .any :: dAll r
def dRows {H : Type} (d : DataW H) : List PV := (dParts d).flatMap fun x => dAll (dParts x)
theorem dAll_length {H : Type} : ∀ (l : List (DataW H)), (dAll l).length = l.length
  | [] => rfl
  | x :: l => by
    have := dAll_length l
    unfold dAll
    split <;> simp_all
theorem dAll_get {H : Type} {k : IntKind} {z : Int} : ∀ (l : List (DataW H)) (i : Nat), l[i]? = some (.lit (.int k z)) → (dAll l)[i]? = some (.int k z)
  | [], i, h => by simp at h
  | x :: l, i, h => by
    cases i with
    | zero => simp at h; subst h; rfl
    | succ i =>
      have := dAll_get l i (by simpa using h)
      unfold dAll
      split <;> simp_all
theorem loc_of_rows {P : Program} {w : World} {laid : List (String × DataW Unit)} {places : List MemPlace} (hl : DataW.LaidVars P w laid places) {name : String} {d : DataW Unit} (hm : (name, d) ∈ laid) {g : Nat} {t e : TypeId} {n m : Nat} {fs : Array Field}
    (hg : P.globalNamed name = some g) (ht : (P.globals[g]?).map (·.type) = some t) (hu : P.underlying t = some (.array n e)) (he : P.underlying e = some (.struct fs)) (hsz : fs.size = m) (h0 : 0 < m)
    (hfs : ∀ (j : Nat) (f : Field), fs[j]? = some f → f.offset = j ∧ P.cellsOf f.type = 1 ∧ ∃ k, P.underlying f.type = some (.int k)) (hc : P.cellsOf e = m) (hct : P.cellsOf t = n * m)
    {ps : List PV} (hps : pvsEq ps (dRows d) = true) : PRel (allH w) (.pointer (some ⟨g, 0, none⟩)) (.loc ps) := by
  obtain ⟨g', t', cs, fuel, p, h1, h2, h3, h4⟩ := laid_mem hl hm
  obtain rfl := Option.some.inj (hg.symm.trans h1)
  obtain rfl := Option.some.inj (ht.symm.trans h2)
  obtain rfl := pvsEq_eq hps
  obtain ⟨xs, fu, rfl, hx, hlen, hn, hel⟩ := DataW.trod_array hu h4
  simp only [Prod.mk.injEq] at hx
  obtain ⟨rfl, -⟩ := hx
  have hcl : cs.toList.length = n * m := by rw [hlen, hct]
  have row : ∀ i, i < n → ∃ ds : List (DataW Unit), (xs.map (·.1))[i]? = some (.agg ds) ∧ ds.length = m ∧ ∀ j, j < m → ∃ (k : IntKind) (z : Int), cs[i * m + j]? = some (.int k z) ∧ ds[j]? = some (.lit (.int k z)) := by
    intro i hi
    have h5 := hel i hi
    rw [hc] at h5
    have hxi : i < xs.length := by omega
    rw [List.getElem?_eq_getElem hxi] at h5
    obtain ⟨ys, fu', rfl, hy, hlen', hn', hf⟩ := DataW.trod_struct he h5
    refine ⟨ys.map (·.1), by rw [List.getElem?_map, List.getElem?_eq_getElem hxi, hy]; rfl, by rw [List.length_map, hn', hsz], fun j hj => ?_⟩
    have hfj : fs[j]? = some (fs[j]'(by omega)) := by simp [show j < fs.size by omega]
    obtain ⟨ho, hc1, k, hk⟩ := hfs j _ hfj
    have h6 := hf j _ hfj
    rw [ho, hc1, List.getElem?_eq_getElem (show j < ys.length by omega)] at h6
    obtain ⟨z, e1, e2, -⟩ := DataW.trod_int hk h6
    have hb : i * m + m ≤ n * m := by
      have := Nat.mul_le_mul_right m (show i + 1 ≤ n by omega)
      rw [Nat.add_mul, Nat.one_mul] at this; exact this
    refine ⟨k, z, ?_, ?_⟩
    · have : ((((cs.toList.drop (i * m)).take m).drop j).take 1)[0]? = some (.int k z) := by rw [e1]; rfl
      rw [List.getElem?_take_of_lt (by omega), List.getElem?_drop, Nat.add_zero, List.getElem?_take_of_lt hj, List.getElem?_drop] at this
      simpa using this
    · rw [List.getElem?_map, List.getElem?_eq_getElem (show j < ys.length by omega), e2]; rfl
  have hflat : dRows (.agg (xs.map (·.1)) : DataW Unit) = ((xs.map (·.1)).map fun x => dAll (dParts x)).flatMap id := by
    show (xs.map (·.1)).flatMap _ = _
    rw [List.flatMap_def, List.flatMap_def, List.map_id]
  have hall : ∀ l ∈ (xs.map (·.1)).map (fun x => dAll (dParts x)), l.length = m := by
    intro l hl
    obtain ⟨i, hi⟩ := List.mem_iff_getElem?.1 hl
    rw [List.getElem?_map] at hi
    have hin : i < n := by
      obtain ⟨y, hy, _⟩ := Option.map_eq_some_iff.1 hi
      have := (List.getElem?_eq_some_iff.1 hy).1
      simp at this; omega
    obtain ⟨ds, q1, q2, _⟩ := row i hin
    rw [q1] at hi
    cases hi
    show (dAll ds).length = m
    rw [dAll_length, q2]
  have hget : ∀ q, q < n * m → ∃ (k : IntKind) (z : Int), cs[q]? = some (.int k z) ∧ (dRows (.agg (xs.map (·.1)) : DataW Unit))[q]? = some (.int k z) := by
    intro q hq
    have hi : q / m < n := Nat.div_lt_of_lt_mul (by rw [Nat.mul_comm]; exact hq)
    have hj : q % m < m := Nat.mod_lt _ h0
    obtain ⟨ds, q1, q2, q3⟩ := row (q / m) hi
    obtain ⟨k, z, e1, e2⟩ := q3 (q % m) hj
    refine ⟨k, z, ?_, ?_⟩
    · rw [show q / m * m + q % m = q by rw [Nat.mul_comm]; exact Nat.div_add_mod q m] at e1; exact e1
    · rw [hflat, get_append_flat _ hall h0, List.getElem?_map, q1]
      exact dAll_get ds _ e2
  have hlen2 : (dRows (.agg (xs.map (·.1)) : DataW Unit)).length = n * m := by
    rw [hflat]
    have : ∀ (L : List (List PV)), (∀ l ∈ L, l.length = m) → (L.flatMap id).length = L.length * m := by
      intro L
      induction L with
      | nil => intro _; simp
      | cons l L ih =>
        intro h
        rw [List.flatMap_cons, List.length_append, ih (fun l hl => h l (List.mem_cons_of_mem _ hl)), List.length_cons, Nat.add_mul, Nat.one_mul]
        have := h l (List.mem_cons_self ..)
        simp only [id]; omega
    rw [this _ hall]; simp [hn]
  refine .loc g 0 _ (fun i => (cs[i]?).getD undef) (fun i hi => ?_) (fun i hi => ?_) (fun i q hq => ?_)
  · rw [hlen2] at hi
    obtain ⟨k, z, e1, -⟩ := hget i hi
    show one? (w.cell? _) = _
    rw [Nat.zero_add, World.var?_cell h1 h3 i, e1]; rfl
  · rw [hlen2] at hi
    obtain ⟨k, z, e1, -⟩ := hget i hi
    simp only [e1]; rfl
  · have hi : i < n * m := by rw [← hlen2]; exact (List.getElem?_eq_some_iff.1 hq).1
    obtain ⟨k, z, e1, e2⟩ := hget i hi
    rw [e2] at hq; cases hq
    simp only [e1]
    exact .int k z
end Go.Pv

/- Abstract values: an argument that is a structure of numbers, texts and slices. Nothing of any program. -/
set_option linter.unusedSimpArgs false
set_option linter.unusedVariables false
set_option linter.unusedSectionVars false
namespace Go.Pv
open Go.RowKit Go.ChangeShapes Go.WideShapes
variable [GTab] {P : Program}
def oneKind (P : Program) (t : TypeId) : Prop := P.underlying t = some .bool ∨ P.underlying t = some .string ∨ (∃ k, P.underlying t = some (.int k)) ∨ ∃ e, P.underlying t = some (.slice e)
theorem oneKind.value {t : TypeId} (h : oneKind P t) {w : World} {r : Reach} {b : Nat} {v : Value} (hc : Cell.okWide P w r b t v) : Value.okWide P w r b t v := by
  rcases h with h | h | ⟨k, h⟩ | ⟨e, h⟩ <;> simp only [Value.okWide, h] <;> exact hc
theorem oneKind.cell {t : TypeId} (hk : oneKind P t) {H : Type} {enc : TypeId × Value → H} {w : World} {base : Nat} {held : Bool} {fuel : Nat} {cs : List Value} {x : DataW H × List MemPlace}
    (h : DataW.trod enc P w base (fun _ => true) held fuel t cs = some x) : ∃ v, cs = [v] ∧ v.cells = #[v] ∧ v.oneCell' = true := by
  rcases hk with hk | hk | ⟨k, hk⟩ | ⟨e, hk⟩
  · obtain ⟨b, rfl, _⟩ := DataW.trod_bool hk h; exact ⟨_, rfl, rfl, rfl⟩
  · obtain ⟨s, rfl, _⟩ := DataW.trod_string hk h; exact ⟨_, rfl, rfl, rfl⟩
  · obtain ⟨n, rfl, _⟩ := DataW.trod_int hk h; exact ⟨_, rfl, rfl, rfl⟩
  · rcases DataW.trod_slice hk h with ⟨rfl, _⟩ | ⟨a, len, cap, _, _, _, _, rfl, _⟩ <;> exact ⟨_, rfl, rfl, rfl⟩
theorem DecVs.each {ts : List TypeId} {Gs : List (PV → Prop)} (h : DecVs P ts Gs) {H : Type} {enc : TypeId × Value → H} {W : World} {b0 base : Nat} {held : Bool} :
    ∀ {vs : List Value}, vs.length = ts.length → (∀ (j : Nat) (t : TypeId) (v : Value), ts[j]? = some t → vs[j]? = some v → Value.okWide P W .any b0 t v ∧ ∃ (d : DataW H) (ps : List MemPlace), DataW.Trod enc P W base (fun _ => true) held t v d ps) →
      ∃ qs : List PV, qs.length = vs.length ∧ (∀ (i : Nat) (v : Value) (p : PV), vs[i]? = some v → qs[i]? = some p → PRel (allH W) v p) ∧ GVs Gs qs := by
  induction h with
  | nil =>
    intro vs hl _
    have : vs = [] := List.eq_nil_of_length_eq_zero (by simpa using hl)
    subst this
    exact ⟨[], rfl, by simp, rfl⟩
  | cons t ts G Gs h r ih =>
    intro vs hl he
    cases vs with
    | nil => simp at hl
    | cons v vs =>
      obtain ⟨ho, d, ps, ht⟩ := he 0 t v rfl rfl
      obtain ⟨p, hp, hG⟩ := h H enc W b0 base held v d ps ho ht
      obtain ⟨qs, q1, q2, q3⟩ := ih (vs := vs) (by simpa using hl) (fun j t' v' h1 h2 => he (j + 1) t' v' (by simpa using h1) (by simpa using h2))
      refine ⟨p :: qs, by simp [q1], fun i v' p' hv hp' => ?_, p, qs, rfl, hG, q3⟩
      cases i with
      | zero => simp at hv hp'; subst hv; subst hp'; exact hp
      | succ i => exact q2 i v' p' (by simpa using hv) (by simpa using hp')
theorem DecV.st {t : TypeId} {fs : Array Field} {Gs : List (PV → Prop)} (ht : P.underlying t = some (.struct fs)) (hct : P.cellTypes P.depth t = some (fs.toList.map (·.type))) (hc : P.cellsOf t = fs.size) (h0 : 0 < fs.size)
    (hF : ∀ (i : Nat) (f : Field), fs[i]? = some f → f.offset = i ∧ P.cellsOf f.type = 1 ∧ oneKind P f.type) (hG : DecVs P (fs.toList.map (·.type)) Gs) : DecV P t (fun p => ∃ ps, p = .agg ps ∧ GVs Gs ps) := by
  intro H enc w b0 base held v d ps0 hok hd
  obtain ⟨cs, rfl, hsz, hrow⟩ : ∃ cs, v = .agg cs ∧ cs.size = P.cellsOf t ∧ Row.okWide P w .any b0 t cs := by simpa only [Value.okWide, ht] using hok
  obtain ⟨ts, k1, -, k3⟩ := hrow
  rw [hct] at k1; cases k1
  obtain ⟨fuel, hx⟩ := hd
  obtain ⟨xs, n, rfl, -, hl, hn, hf⟩ := DataW.trod_struct ht hx
  have hcs : cs.size = fs.size := by rw [hsz, hc]
  have cell : ∀ (i : Nat) (f : Field) (v : Value), fs[i]? = some f → cs[i]? = some v → Cell.okWide P w .any b0 f.type v ∧ v.oneCell' = true ∧ ∃ (d : DataW H) (ps : List MemPlace), DataW.Trod enc P w base (fun _ => true) held f.type v d ps := by
    intro i f v hfi hvi
    have hi : i < fs.size := (Array.getElem?_eq_some_iff.1 hfi).1
    obtain ⟨ho, hc1, hk⟩ := hF i f hfi
    obtain ⟨u, u1, u2⟩ := k3 i v hvi
    rw [List.length_map, Array.length_toList, Nat.mod_eq_of_lt hi, List.getElem?_map, Array.getElem?_toList, hfi] at u1
    cases u1
    have h6 := hf i f hfi
    rw [ho, hc1, List.getElem?_eq_getElem (show i < xs.length by omega)] at h6
    have hv0 : (((Value.agg cs).cells.toList.drop i).take 1) = [v] := by
      have hlt : i < cs.toList.length := by simp; omega
      show (cs.toList.drop i).take 1 = [v]
      rw [List.drop_eq_getElem_cons hlt]
      have : cs.toList[i] = v := by
        have := (Array.getElem?_eq_some_iff.1 hvi).2
        simpa using this
      rw [this]; rfl
    rw [hv0] at h6
    obtain ⟨v', e1, e2, e3⟩ := hk.cell h6
    cases e1
    exact ⟨u2, e3, xs[i].1, xs[i].2, n, by rw [e2]; exact h6⟩
  obtain ⟨qs, q1, q2, q3⟩ := hG.each (H := H) (enc := enc) (W := w) (b0 := b0) (base := base) (held := held) (vs := cs.toList) (by simp [hcs]) (fun j t' v' h1 h2 => by
    rw [List.getElem?_map, Array.getElem?_toList] at h1
    obtain ⟨f, hf1, rfl⟩ := Option.map_eq_some_iff.1 h1
    rw [Array.getElem?_toList] at h2
    obtain ⟨c1, c2, c3⟩ := cell j f v' hf1 h2
    exact ⟨(hF j f hf1).2.2.value c1, c3⟩)
  refine ⟨.agg qs, .agg cs qs (by rw [q1]; simp) (fun i v hv => ?_) (fun i v p hv hp => q2 i v p (by simpa using hv) hp), qs, rfl, q3⟩
  have hi : i < fs.size := by rw [← hcs]; exact (Array.getElem?_eq_some_iff.1 hv).1
  exact (cell i fs[i] v (by simp [hi]) hv).2.1
end Go.Pv
