/- Abstract values: a package-level variable that is a row of structures of numbers. Nothing of any program. -/
import Derived.Test.YtoemcdgebkkcoaaDoorPvXa
set_option linter.unusedSimpArgs false
set_option linter.unusedVariables false
set_option linter.unusedSectionVars false
namespace Go.Pv
open Go.RowKit Go.ChangeShapes Go.WideShapes
variable [GTab]
/-- The numbers of a row, of whatever kinds. -/
def dAll {H : Type} : List (DataW H) → List PV
  | [] => []
  | .lit (.int k n) :: r => .int k n :: dAll r
  | _ :: r => .any :: dAll r
def dRows {H : Type} (d : DataW H) : List PV := (dParts d).flatMap fun x => dAll (dParts x)
theorem dAll_length {H : Type} : ∀ (l : List (DataW H)), (dAll l).length = l.length
  | [] => rfl
  | x :: l => by
    have := dAll_length l
    unfold dAll
    split <;> simp_all
theorem dAll_get {H : Type} {k : IntKind} {z : Int} : ∀ (l : List (DataW H)) (i : Nat), l[i]? = some (.lit (.int k z)) → (dAll l)[i]? = some (.int k z)
  | [], i, h => by simp at h
  | x :: l, i, h => by
    cases i with
    | zero => simp at h; subst h; rfl
    | succ i =>
      have := dAll_get l i (by simpa using h)
      unfold dAll
      split <;> simp_all
theorem loc_of_rows {P : Program} {w : World} {laid : List (String × DataW Unit)} {places : List MemPlace} (hl : DataW.LaidVars P w laid places) {name : String} {d : DataW Unit} (hm : (name, d) ∈ laid) {g : Nat} {t e : TypeId} {n m : Nat} {fs : Array Field}
    (hg : P.globalNamed name = some g) (ht : (P.globals[g]?).map (·.type) = some t) (hu : P.underlying t = some (.array n e)) (he : P.underlying e = some (.struct fs)) (hsz : fs.size = m) (h0 : 0 < m)
    (hfs : ∀ (j : Nat) (f : Field), fs[j]? = some f → f.offset = j ∧ P.cellsOf f.type = 1 ∧ ∃ k, P.underlying f.type = some (.int k)) (hc : P.cellsOf e = m) (hct : P.cellsOf t = n * m)
    {ps : List PV} (hps : pvsEq ps (dRows d) = true) : PRel (allH w) (.pointer (some ⟨g, 0, none⟩)) (.loc ps) := by
  obtain ⟨g', t', cs, fuel, p, h1, h2, h3, h4⟩ := laid_mem hl hm
  obtain rfl := Option.some.inj (hg.symm.trans h1)
  obtain rfl := Option.some.inj (ht.symm.trans h2)
  obtain rfl := pvsEq_eq hps
  obtain ⟨xs, fu, rfl, hx, hlen, hn, hel⟩ := DataW.trod_array hu h4
  simp only [Prod.mk.injEq] at hx
  obtain ⟨rfl, -⟩ := hx
  have hcl : cs.toList.length = n * m := by rw [hlen, hct]
  have row : ∀ i, i < n → ∃ ds : List (DataW Unit), (xs.map (·.1))[i]? = some (.agg ds) ∧ ds.length = m ∧ ∀ j, j < m → ∃ (k : IntKind) (z : Int), cs[i * m + j]? = some (.int k z) ∧ ds[j]? = some (.lit (.int k z)) := by
    intro i hi
    have h5 := hel i hi
    rw [hc] at h5
    have hxi : i < xs.length := by omega
    rw [List.getElem?_eq_getElem hxi] at h5
    obtain ⟨ys, fu', rfl, hy, hlen', hn', hf⟩ := DataW.trod_struct he h5
    refine ⟨ys.map (·.1), by rw [List.getElem?_map, List.getElem?_eq_getElem hxi, hy]; rfl, by rw [List.length_map, hn', hsz], fun j hj => ?_⟩
    have hfj : fs[j]? = some (fs[j]'(by omega)) := by simp [show j < fs.size by omega]
    obtain ⟨ho, hc1, k, hk⟩ := hfs j _ hfj
    have h6 := hf j _ hfj
    rw [ho, hc1, List.getElem?_eq_getElem (show j < ys.length by omega)] at h6
    obtain ⟨z, e1, e2, -⟩ := DataW.trod_int hk h6
    have hb : i * m + m ≤ n * m := by
      have := Nat.mul_le_mul_right m (show i + 1 ≤ n by omega)
      rw [Nat.add_mul, Nat.one_mul] at this; exact this
    refine ⟨k, z, ?_, ?_⟩
    · have : ((((cs.toList.drop (i * m)).take m).drop j).take 1)[0]? = some (.int k z) := by rw [e1]; rfl
      rw [List.getElem?_take_of_lt (by omega), List.getElem?_drop, Nat.add_zero, List.getElem?_take_of_lt hj, List.getElem?_drop] at this
      simpa using this
    · rw [List.getElem?_map, List.getElem?_eq_getElem (show j < ys.length by omega), e2]; rfl
  have hflat : dRows (.agg (xs.map (·.1)) : DataW Unit) = ((xs.map (·.1)).map fun x => dAll (dParts x)).flatMap id := by
    show (xs.map (·.1)).flatMap _ = _
    rw [List.flatMap_def, List.flatMap_def, List.map_id]
  have hall : ∀ l ∈ (xs.map (·.1)).map (fun x => dAll (dParts x)), l.length = m := by
    intro l hl
    obtain ⟨i, hi⟩ := List.mem_iff_getElem?.1 hl
    rw [List.getElem?_map] at hi
    have hin : i < n := by
      obtain ⟨y, hy, _⟩ := Option.map_eq_some_iff.1 hi
      have := (List.getElem?_eq_some_iff.1 hy).1
      simp at this; omega
    obtain ⟨ds, q1, q2, _⟩ := row i hin
    rw [q1] at hi
    cases hi
    show (dAll ds).length = m
    rw [dAll_length, q2]
  have hget : ∀ q, q < n * m → ∃ (k : IntKind) (z : Int), cs[q]? = some (.int k z) ∧ (dRows (.agg (xs.map (·.1)) : DataW Unit))[q]? = some (.int k z) := by
    intro q hq
    have hi : q / m < n := Nat.div_lt_of_lt_mul (by rw [Nat.mul_comm]; exact hq)
    have hj : q % m < m := Nat.mod_lt _ h0
    obtain ⟨ds, q1, q2, q3⟩ := row (q / m) hi
    obtain ⟨k, z, e1, e2⟩ := q3 (q % m) hj
    refine ⟨k, z, ?_, ?_⟩
    · rw [show q / m * m + q % m = q by rw [Nat.mul_comm]; exact Nat.div_add_mod q m] at e1; exact e1
    · rw [hflat, get_append_flat _ hall h0, List.getElem?_map, q1]
      exact dAll_get ds _ e2
  have hlen2 : (dRows (.agg (xs.map (·.1)) : DataW Unit)).length = n * m := by
    rw [hflat]
    have : ∀ (L : List (List PV)), (∀ l ∈ L, l.length = m) → (L.flatMap id).length = L.length * m := by
      intro L
      induction L with
      | nil => intro _; simp
      | cons l L ih =>
        intro h
        rw [List.flatMap_cons, List.length_append, ih (fun l hl => h l (List.mem_cons_of_mem _ hl)), List.length_cons, Nat.add_mul, Nat.one_mul]
        have := h l (List.mem_cons_self ..)
        simp only [id]; omega
    rw [this _ hall]; simp [hn]
  refine .loc g 0 _ (fun i => (cs[i]?).getD undef) (fun i hi => ?_) (fun i hi => ?_) (fun i q hq => ?_)
  · rw [hlen2] at hi
    obtain ⟨k, z, e1, -⟩ := hget i hi
    show one? (w.cell? _) = _
    rw [Nat.zero_add, World.var?_cell h1 h3 i, e1]; rfl
  · rw [hlen2] at hi
    obtain ⟨k, z, e1, -⟩ := hget i hi
    simp only [e1]; rfl
  · have hi : i < n * m := by rw [← hlen2]; exact (List.getElem?_eq_some_iff.1 hq).1
    obtain ⟨k, z, e1, e2⟩ := hget i hi
    rw [e2] at hq; cases hq
    simp only [e1]
    exact .int k z
end Go.Pv
