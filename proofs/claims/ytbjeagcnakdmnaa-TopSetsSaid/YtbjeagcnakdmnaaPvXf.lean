/- A contract of a function, taken at a nil slice in the place of an empty one. Nothing of any program. -/
import Derived.Test.YtbjeagcnakdmnaaPvYb
set_option linter.unusedSectionVars false
namespace Go.Pv
variable [GTab]
theorem Fsp.takes {P : Program} {f : FuncId} {bs : List (List PV)} {nt : Nat} {args qs : List PV} {bs' : List (List PV)} {nt' : Nat} {r : PV} (h : Fsp P f bs nt args bs' nt' r) (hl : qs.length = args.length)
    (hq : ∀ (i : Nat) (q p : PV), qs[i]? = some q → args[i]? = some p → ∀ (g : Gh) (v : Value), Rel g v q → Rel g v p) : Fsp P f bs nt qs bs' nt' r where
  len := h.len
  fn := h.fn
  calls := fun g w vs hI hb ht hs ha => h.calls g w vs hI hb ht (by omega) (fun i v p hv hp => by
    have hi : i < qs.length := by have := (List.getElem?_eq_some_iff.1 hp).1; omega
    exact hq i qs[i] p (by simp [hi]) hp g v (ha i v qs[i] hv (by simp [hi])))
def nlC (q p : PV) : Prop := q = p ∨ (q = .nilsl ∧ ∃ sz, p = .sl sz [])
theorem nlC_rel {g : Gh} {v : Value} {q p : PV} (h : nlC q p) (r : Rel g v q) : Rel g v p := by
  rcases h with rfl | ⟨rfl, sz, rfl⟩
  · exact r
  · rw [r.nilsl_inv]; exact .pure _ _ (.slnil _)
def nlV (q p : PV) : Prop := nlC q p ∨ ∃ qs ps, q = .agg qs ∧ p = .agg ps ∧ qs.length = ps.length ∧ ∀ (i : Nat) (q p : PV), qs[i]? = some q → ps[i]? = some p → nlC q p
theorem nlV_rel {g : Gh} {v : Value} {q p : PV} (h : nlV q p) (r : Rel g v q) : Rel g v p := by
  rcases h with h | ⟨qs, ps, rfl, rfl, hl, hq⟩
  · exact nlC_rel h r
  · obtain ⟨vs, rfl, hn, ho, hp⟩ := r.agg_inv
    refine .agg vs ps (by omega) ho (fun i v p hv hpi => ?_)
    have hi : i < qs.length := by have := (List.getElem?_eq_some_iff.1 hpi).1; omega
    exact nlC_rel (hq i qs[i] p (by simp [hi]) hpi) (hp i v qs[i] hv (by simp [hi]))
def nlL : List PV → List PV → Prop
  | [], [] => True
  | q :: qs, p :: ps => nlV q p ∧ nlL qs ps
  | _, _ => False
theorem nlL_at : ∀ {qs ps : List PV}, nlL qs ps → qs.length = ps.length ∧ ∀ (i : Nat) (q p : PV), qs[i]? = some q → ps[i]? = some p → nlV q p
  | [], [], _ => ⟨rfl, fun i q p h => by simp at h⟩
  | [], _ :: _, h => h.elim
  | _ :: _, [], h => h.elim
  | q :: qs, p :: ps, h => by
    obtain ⟨h1, h2⟩ := nlL_at h.2
    refine ⟨by simp [h1], fun i a b ha hb => ?_⟩
    match i with
    | 0 => simp at ha hb; subst ha; subst hb; exact h.1
    | i + 1 => exact h2 i a b (by simpa using ha) (by simpa using hb)
/-- Nil slices for empty ones. -/
theorem Fsp.nils {P : Program} {f : FuncId} {bs : List (List PV)} {nt : Nat} {args qs : List PV} {bs' : List (List PV)} {nt' : Nat} {r : PV} (h : Fsp P f bs nt args bs' nt' r) (hq : nlL qs args) : Fsp P f bs nt qs bs' nt' r :=
  h.takes (nlL_at hq).1 fun i q p h1 h2 _ _ r => nlV_rel ((nlL_at hq).2 i q p h1 h2) r
end Go.Pv

/- The end of a function whose result lies in a box. Nothing of any program. -/
namespace Go.Pv
variable [GTab]
end Go.Pv
