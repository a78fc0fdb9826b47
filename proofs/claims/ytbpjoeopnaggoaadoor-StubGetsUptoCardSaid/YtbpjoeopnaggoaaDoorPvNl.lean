/- Abstract values: nil slices within a box, said as empty ones. Nothing of any program. -/
import Derived.Test.YtbpjoeopnaggoaaDoorPvFz
import Derived.Test.YtbpjoeopnaggoaaDoorPvXh
set_option linter.unusedSimpArgs false
set_option linter.unusedVariables false
set_option linter.unusedSectionVars false
namespace Go.Pv
variable [GTab]
/-- What stands in a box, said more weakly: nil slices as empty ones. -/
theorem Wk.nlB {m : Nat} {S : PS} {id : Nat} {ps qs : List PV} (hob : S.obj id = some ps) (h : nlCs ps qs) : Wk m S { S with objs := (id, some qs) :: S.objs } := by
  intro g tmps w hI hF hp
  have hto : ∀ i, PS.obj { S with objs := (id, some qs) :: S.objs } i = if id = i then some qs else S.obj i := fun i => by simp only [PS.obj, lkp_cons]
  have hno : ∀ i, PS.obj { S with objs := (id, some qs) :: S.objs } i ≠ none → S.obj i ≠ none := by
    intro i hi
    rw [hto] at hi
    split at hi
    · rename_i e; subst e; rw [hob]; simp
    · exact hi
  have hown : ∀ c o, Own g { S with objs := (id, some qs) :: S.objs } c o → Own g S c o := by
    intro c o ho
    rcases ho with ⟨i, a1, a2⟩ | ⟨k, lo, hi, a1, a2⟩
    · exact .inl ⟨i, hno i a1, a2⟩
    · exact .inr ⟨k, lo, hi, a1, a2⟩
  refine ⟨g, ⟨⟨hI.w.hw, ?_, ?_, ?_, hI.w.tokd, hI.w.tys, hI.w.glm (HMap.le_refl _)⟩, hI.env, hI.size⟩, hF, ⟨⟨HMap.le_refl _, fun _ _ h => h, fun c o v hv => .inl hv, fun c o _ ho => hown c o ho, Nat.le_refl _, fun _ _ => .refl _ _, rfl, rfl, rfl⟩, fun _ _ => rfl⟩⟩
  · intro i rs hi
    rw [hto] at hi
    split at hi
    · rename_i e
      subst e
      cases hi
      obtain ⟨c, t1, t2, t6⟩ := hI.w.objs _ ps hob
      refine ⟨c, t1, ?_, t6⟩
      obtain ⟨hl, hc⟩ := nlCs_at h
      rcases t2 with ⟨vals, T, fr, x1, x2, x3, x4, x5⟩ | ⟨es, ents, cc, x1, x2, x3⟩
      · refine .inl ⟨vals, T, fr, x1, x2, by omega, x4, fun j v p hv hp => ?_⟩
        have hj : j < ps.length := by have := (List.getElem?_eq_some_iff.1 hp).1; omega
        exact nlC_rel (hc j ps[j] p (List.getElem?_eq_getElem hj) hp) (x5 j v _ hv (List.getElem?_eq_getElem hj))
      · refine .inr ⟨es, ents, cc, ?_, x2, x3⟩
        rcases x1 with rfl | rfl
        · match qs, hl, hc with
          | [q], _, hc =>
            rcases hc 0 _ q rfl rfl with e | ⟨e, -⟩
            · rw [← e]; exact .inl rfl
            · cases e
        · match qs, hl, hc with
          | [q], _, hc =>
            rcases hc 0 _ q rfl rfl with e | ⟨e, -⟩
            · rw [← e]; exact .inr rfl
            · cases e
    · exact hI.w.objs i rs hi
  · intro i i' c a1 a2 a3 a4
    exact hI.w.inj i i' c (hno i a1) (hno i' a2) a3 a4
  · intro k hk
    obtain ⟨c, lo, hi, t1, t2⟩ := hI.w.toks k hk
    refine ⟨c, lo, hi, t1, fun hl => ?_⟩
    obtain ⟨t3, t4, t5⟩ := t2 hl
    exact ⟨t3, t4, fun i hi' => t5 i (hno i hi')⟩
/-- An append to an empty slice of no room, where something is appended: a box. -/
theorem sl0Dl_ne {nid sz : Nat} {fs : List PV} (h : fs ≠ []) : sl0Dl nid sz fs = { p := .slb nid 0 fs.length sz, wr := [(nid, some (fs.flatMap PV.cells))], ok := True } := by
  cases fs with
  | nil => exact absurd rfl h
  | cons x l => rfl
theorem sl0Dl_nil {nid sz : Nat} : sl0Dl nid sz [] = { p := .sl0 sz, ok := True } := rfl
end Go.Pv
