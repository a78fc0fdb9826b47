/- A contract taken at rows whose elements hold nil slices in the place of empty ones. Nothing of any program. -/
import Derived.Test.YtbpjoeopnaggoaaDoorPvXe
set_option linter.unusedSectionVars false
namespace Go.Pv
variable [GTab]
theorem nlC_prel {h : HMap} {v : Value} {q p : PV} (hq : nlC q p) (r : PRel h v q) : PRel h v p := by
  rcases hq with rfl | ⟨rfl, sz, rfl⟩
  · exact r
  · cases r; exact .slnil _
theorem Rel.nlRow {g : Gh} {v : Value} {sz : Nat} {qs es : List PV} (hl : qs.length = es.length) (hc : nlCs (qs.flatMap PV.cells) (es.flatMap PV.cells)) (hs : ∀ p ∈ es, p.cells.length = sz) (r : Rel g v (.sl sz qs)) : Rel g v (.sl sz es) := by
  obtain ⟨hcl, hca⟩ := nlCs_at hc
  have r' := r.sl_inv
  cases r' with
  | slnil =>
    obtain rfl : es = [] := List.eq_nil_of_length_eq_zero (by simpa using hl.symm)
    exact .pure _ _ (.slnil _)
  | slx a =>
    obtain rfl : es = [] := List.eq_nil_of_length_eq_zero (by simpa using hl.symm)
    exact .pure _ _ (.slx a _)
  | sl b off n cap _ _ vals hn hcp hm hsz hh ho hp =>
    refine .pure _ _ (.sl b off n cap sz es vals (by omega) hcp hm hs (fun i hi => hh i (by omega)) (fun i hi => ho i (by omega)) (fun i p hpi => ?_))
    have hi : i < (qs.flatMap PV.cells).length := by have := (List.getElem?_eq_some_iff.1 hpi).1; omega
    exact nlC_prel (hca i _ p (List.getElem?_eq_getElem hi) hpi) (hp i _ (List.getElem?_eq_getElem hi))
end Go.Pv
