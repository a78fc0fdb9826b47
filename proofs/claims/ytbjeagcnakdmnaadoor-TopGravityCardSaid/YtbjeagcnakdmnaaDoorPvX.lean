/- Abstract values: a law's arguments, read. Nothing of any program. -/
import Derived.Test.YtbjeagcnakdmnaaDoorPvW
import Derived.ProofKit
import Derived.OpenShut
set_option linter.unusedSimpArgs false
set_option linter.unusedVariables false
set_option linter.unusedSectionVars false
namespace Go.Pv
open Go.RowKit Go.ChangeShapes Go.WideShapes
variable [GTab]

theorem single {α : Type} {x y : α} {i : Nat} (h : [x][i]? = some y) : i = 0 ∧ x = y := by
  match i with
  | 0 => simp at h; exact ⟨rfl, h⟩
  | i + 1 => simp at h

section
variable {P : Program}

theorem get_append_flat {sz : Nat} : ∀ (L : List (List PV)), (∀ l ∈ L, l.length = sz) → 0 < sz → ∀ i, (L.flatMap id)[i]? = (L[i / sz]?).bind fun l => l[i % sz]?
  | [], _, _, i => by simp
  | l :: L, h, hs, i => by
    have hl := h l (List.mem_cons_self ..)
    have ih := get_append_flat L (fun l' hl' => h l' (List.mem_cons_of_mem _ hl')) hs
    rw [List.flatMap_cons, id]
    by_cases hi : i < sz
    · rw [List.getElem?_append_left (by omega), Nat.div_eq_of_lt hi, Nat.mod_eq_of_lt hi]; simp
    · rw [List.getElem?_append_right (by omega), hl, ih]
      have e1 : i / sz = (i - sz) / sz + 1 := by rw [Nat.div_eq_sub_div hs (by omega)]
      have e2 : i % sz = (i - sz) % sz := Nat.mod_eq_sub_mod (by omega)
      rw [e1, e2, List.getElem?_cons_succ]

theorem flatMap_id_map {es : List PV} : es.flatMap PV.cells = (es.map PV.cells).flatMap id := by
  induction es with
  | nil => rfl
  | cons p es ih => simp [List.flatMap_cons, ih]

/-! All arguments. -/
end

end Go.Pv
