/- Abstract values: an argument that is a structure of numbers, texts and slices. Nothing of any program. -/
import Derived.Test.YtoemcdgebkkcoaaDoorPvX
set_option linter.unusedSimpArgs false
set_option linter.unusedVariables false
set_option linter.unusedSectionVars false
namespace Go.Pv
open Go.RowKit Go.ChangeShapes Go.WideShapes
variable [GTab] {P : Program}
def oneKind (P : Program) (t : TypeId) : Prop := P.underlying t = some .bool ∨ P.underlying t = some .string ∨ (∃ k, P.underlying t = some (.int k)) ∨ ∃ e, P.underlying t = some (.slice e)
theorem oneKind.value {t : TypeId} (h : oneKind P t) {w : World} {r : Reach} {b : Nat} {v : Value} (hc : Cell.okWide P w r b t v) : Value.okWide P w r b t v := by
  rcases h with h | h | ⟨k, h⟩ | ⟨e, h⟩ <;> simp only [Value.okWide, h] <;> exact hc
theorem oneKind.cell {t : TypeId} (hk : oneKind P t) {H : Type} {enc : TypeId × Value → H} {w : World} {base : Nat} {held : Bool} {fuel : Nat} {cs : List Value} {x : DataW H × List MemPlace}
    (h : DataW.trod enc P w base (fun _ => true) held fuel t cs = some x) : ∃ v, cs = [v] ∧ v.cells = #[v] ∧ v.oneCell' = true := by
  rcases hk with hk | hk | ⟨k, hk⟩ | ⟨e, hk⟩
  · obtain ⟨b, rfl, _⟩ := DataW.trod_bool hk h; exact ⟨_, rfl, rfl, rfl⟩
  · obtain ⟨s, rfl, _⟩ := DataW.trod_string hk h; exact ⟨_, rfl, rfl, rfl⟩
  · obtain ⟨n, rfl, _⟩ := DataW.trod_int hk h; exact ⟨_, rfl, rfl, rfl⟩
  · rcases DataW.trod_slice hk h with ⟨rfl, _⟩ | ⟨a, len, cap, _, _, _, _, rfl, _⟩ <;> exact ⟨_, rfl, rfl, rfl⟩
theorem DecVs.each {ts : List TypeId} {Gs : List (PV → Prop)} (h : DecVs P ts Gs) {H : Type} {enc : TypeId × Value → H} {W : World} {b0 base : Nat} {held : Bool} :
    ∀ {vs : List Value}, vs.length = ts.length → (∀ (j : Nat) (t : TypeId) (v : Value), ts[j]? = some t → vs[j]? = some v → Value.okWide P W .any b0 t v ∧ ∃ (d : DataW H) (ps : List MemPlace), DataW.Trod enc P W base (fun _ => true) held t v d ps) →
      ∃ qs : List PV, qs.length = vs.length ∧ (∀ (i : Nat) (v : Value) (p : PV), vs[i]? = some v → qs[i]? = some p → PRel (allH W) v p) ∧ GVs Gs qs := by
  induction h with
  | nil =>
    intro vs hl _
    have : vs = [] := List.eq_nil_of_length_eq_zero (by simpa using hl)
    subst this
    exact ⟨[], rfl, by simp, rfl⟩
  | cons t ts G Gs h r ih =>
    intro vs hl he
    cases vs with
    | nil => simp at hl
    | cons v vs =>
      obtain ⟨ho, d, ps, ht⟩ := he 0 t v rfl rfl
      obtain ⟨p, hp, hG⟩ := h H enc W b0 base held v d ps ho ht
      obtain ⟨qs, q1, q2, q3⟩ := ih (vs := vs) (by simpa using hl) (fun j t' v' h1 h2 => he (j + 1) t' v' (by simpa using h1) (by simpa using h2))
      refine ⟨p :: qs, by simp [q1], fun i v' p' hv hp' => ?_, p, qs, rfl, hG, q3⟩
      cases i with
      | zero => simp at hv hp'; subst hv; subst hp'; exact hp
      | succ i => exact q2 i v' p' (by simpa using hv) (by simpa using hp')
theorem DecV.st {t : TypeId} {fs : Array Field} {Gs : List (PV → Prop)} (ht : P.underlying t = some (.struct fs)) (hct : P.cellTypes P.depth t = some (fs.toList.map (·.type))) (hc : P.cellsOf t = fs.size) (h0 : 0 < fs.size)
    (hF : ∀ (i : Nat) (f : Field), fs[i]? = some f → f.offset = i ∧ P.cellsOf f.type = 1 ∧ oneKind P f.type) (hG : DecVs P (fs.toList.map (·.type)) Gs) : DecV P t (fun p => ∃ ps, p = .agg ps ∧ GVs Gs ps) := by
  intro H enc w b0 base held v d ps0 hok hd
  obtain ⟨cs, rfl, hsz, hrow⟩ : ∃ cs, v = .agg cs ∧ cs.size = P.cellsOf t ∧ Row.okWide P w .any b0 t cs := by simpa only [Value.okWide, ht] using hok
  obtain ⟨ts, k1, -, k3⟩ := hrow
  rw [hct] at k1; cases k1
  obtain ⟨fuel, hx⟩ := hd
  obtain ⟨xs, n, rfl, -, hl, hn, hf⟩ := DataW.trod_struct ht hx
  have hcs : cs.size = fs.size := by rw [hsz, hc]
  have cell : ∀ (i : Nat) (f : Field) (v : Value), fs[i]? = some f → cs[i]? = some v → Cell.okWide P w .any b0 f.type v ∧ v.oneCell' = true ∧ ∃ (d : DataW H) (ps : List MemPlace), DataW.Trod enc P w base (fun _ => true) held f.type v d ps := by
    intro i f v hfi hvi
    have hi : i < fs.size := (Array.getElem?_eq_some_iff.1 hfi).1
    obtain ⟨ho, hc1, hk⟩ := hF i f hfi
    obtain ⟨u, u1, u2⟩ := k3 i v hvi
    rw [List.length_map, Array.length_toList, Nat.mod_eq_of_lt hi, List.getElem?_map, Array.getElem?_toList, hfi] at u1
    cases u1
    have h6 := hf i f hfi
    rw [ho, hc1, List.getElem?_eq_getElem (show i < xs.length by omega)] at h6
    have hv0 : (((Value.agg cs).cells.toList.drop i).take 1) = [v] := by
      have hlt : i < cs.toList.length := by simp; omega
      show (cs.toList.drop i).take 1 = [v]
      rw [List.drop_eq_getElem_cons hlt]
      have : cs.toList[i] = v := by
        have := (Array.getElem?_eq_some_iff.1 hvi).2
        simpa using this
      rw [this]; rfl
    rw [hv0] at h6
    obtain ⟨v', e1, e2, e3⟩ := hk.cell h6
    cases e1
    exact ⟨u2, e3, xs[i].1, xs[i].2, n, by rw [e2]; exact h6⟩
  obtain ⟨qs, q1, q2, q3⟩ := hG.each (H := H) (enc := enc) (W := w) (b0 := b0) (base := base) (held := held) (vs := cs.toList) (by simp [hcs]) (fun j t' v' h1 h2 => by
    rw [List.getElem?_map, Array.getElem?_toList] at h1
    obtain ⟨f, hf1, rfl⟩ := Option.map_eq_some_iff.1 h1
    rw [Array.getElem?_toList] at h2
    obtain ⟨c1, c2, c3⟩ := cell j f v' hf1 h2
    exact ⟨(hF j f hf1).2.2.value c1, c3⟩)
  refine ⟨.agg qs, .agg cs qs (by rw [q1]; simp) (fun i v hv => ?_) (fun i v p hv hp => q2 i v p (by simpa using hv) hp), qs, rfl, q3⟩
  have hi : i < fs.size := by rw [← hcs]; exact (Array.getElem?_eq_some_iff.1 hv).1
  exact (cell i fs[i] v (by simp [hi]) hv).2.1
end Go.Pv
