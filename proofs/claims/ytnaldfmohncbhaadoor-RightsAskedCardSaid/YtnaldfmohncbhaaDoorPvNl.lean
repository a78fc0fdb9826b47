/- The end of a function whose result lies in a box. Nothing of any program. -/
import Derived.Test.YtnaldfmohncbhaaDoorPvYb
import Derived.Test.YtnaldfmohncbhaaDoorPvMr
import Derived.Test.YtnaldfmohncbhaaDoorPvXg
namespace Go.Pv
variable [GTab]
theorem endK_cell {P : Program} {S : PS} {m a t id : Nat} {ps qs rs : List PV} {bs' : List (List PV)} (γ : List Nat) (ha : S.get a = .box id 0) (ho : S.obj id = some ps) (hl : ldOk P t ps) (hp : ldPV P t ps = .agg qs) (hr : wkL (res1 [] γ) qs rs)
    (g1 : γ.length = bs'.length) (g2 : nodupB γ = true) (g3 : (upto 0 m).all (fun i => γ[i]? == some i) = true)
    (hw : ∀ (i j : Nat) (ps : List PV), γ[i]? = some j → bs'[i]? = some ps → ∃ qs, S.obj j = some qs ∧ wkL (res1 [] γ) qs ps) : endK P m [.cell a t] bs' 0 (.agg rs) S := by
  have hs : resPV P S [.cell a t] = some [.agg qs] := by
    simp only [resPV, ha, ho, List.drop_zero, Option.map_some, hp]
  refine endK_box [] γ rfl rfl rfl g1 g2 g3 hw ⟨?_, by rw [hs]; rfl, ?_⟩
  · simp only [resOk, ha, ho, List.drop_zero, and_true]; exact hl
  · unfold resOf
    rw [hs]
    exact .inr ⟨qs, rfl, hr⟩
end Go.Pv

/- Abstract values: nil slices within a box, said as empty ones. Nothing of any program. -/
set_option linter.unusedSimpArgs false
set_option linter.unusedVariables false
set_option linter.unusedSectionVars false
namespace Go.Pv
variable [GTab]
/-- What stands in a box, said more weakly: nil slices as empty ones. -/
theorem Wk.nlB {m : Nat} {S : PS} {id : Nat} {ps qs : List PV} (hob : S.obj id = some ps) (h : nlCs ps qs) : Wk m S { S with objs := (id, some qs) :: S.objs } := by
  intro g tmps w hI hF hp
  have hto : ∀ i, PS.obj { S with objs := (id, some qs) :: S.objs } i = if id = i then some qs else S.obj i := fun i => by simp only [PS.obj, lkp_cons]
  have hno : ∀ i, PS.obj { S with objs := (id, some qs) :: S.objs } i ≠ none → S.obj i ≠ none := by
    intro i hi
    rw [hto] at hi
    split at hi
    · rename_i e; subst e; rw [hob]; simp
    · exact hi
  have hown : ∀ c o, Own g { S with objs := (id, some qs) :: S.objs } c o → Own g S c o := by
    intro c o ho
    rcases ho with ⟨i, a1, a2⟩ | ⟨k, lo, hi, a1, a2⟩ | hjn
    · exact .inl ⟨i, hno i a1, a2⟩
    · exact .inr (.inl ⟨k, lo, hi, a1, a2⟩)
    · exact .inr (.inr hjn)
  refine ⟨g, ⟨⟨hI.w.hw, ?_, ?_, ?_, hI.w.tokd, hI.w.jnk_of (fun _ _ h => h) (fun _ _ _ => rfl) (fun c m o h => (hI.w.jnk c m h).2.1 o) (fun i c m _ hid hbk => ⟨hno i hid, hbk⟩) (fun k c m lo hi _ hk ht _ => ⟨hk, ht⟩), hI.w.tys, hI.w.glm (HMap.le_refl _)⟩, hI.env, hI.size⟩, hF, ⟨⟨HMap.le_refl _, fun _ _ h => h, fun c o v hv => .inl hv, fun c o _ ho => hown c o ho, Nat.le_refl _, fun _ _ => .refl _ _, rfl, rfl, rfl⟩, fun _ _ => rfl⟩⟩
  · intro i rs hi
    rw [hto] at hi
    split at hi
    · rename_i e
      subst e
      cases hi
      obtain ⟨c, t1, t2, t6⟩ := hI.w.objs _ ps hob
      refine ⟨c, t1, ?_, t6⟩
      obtain ⟨hl, hc⟩ := nlCs_at h
      rcases t2 with ⟨vals, T, fr, x1, x2, x3, x4, x5⟩ | ⟨es, ents, cc, x1, x2, x3⟩ | ⟨cur, es, p0, p1, x1, x2, x3, x4⟩
      · refine .inl ⟨vals, T, fr, x1, x2, by omega, x4, fun j v p hv hp => ?_⟩
        have hj : j < ps.length := by have := (List.getElem?_eq_some_iff.1 hp).1; omega
        exact nlC_rel (hc j ps[j] p (List.getElem?_eq_getElem hj) hp) (x5 j v _ hv (List.getElem?_eq_getElem hj))
      · refine .inr (.inl ⟨es, ents, cc, ?_, x2, x3⟩)
        rcases x1 with rfl | rfl
        · match qs, hl, hc with
          | [q], _, hc =>
            rcases hc 0 _ q rfl rfl with e | ⟨e, -⟩
            · rw [← e]; exact .inl rfl
            · cases e
        · match qs, hl, hc with
          | [q], _, hc =>
            rcases hc 0 _ q rfl rfl with e | ⟨e, -⟩
            · rw [← e]; exact .inr rfl
            · cases e
      · subst x1
        match qs, hl, hc with
        | [q0, q1], _, hc =>
          refine .inr (.inr ⟨cur, es, q0, q1, rfl, ?_, ?_, x4⟩)
          · rcases hc 0 _ q0 rfl rfl with e | ⟨e, -⟩
            · rw [← e]; exact x2
            · rcases x2 with rfl | rfl <;> cases e
          · rcases hc 1 _ q1 rfl rfl with e | ⟨e, -⟩
            · rw [← e]; exact x3
            · rcases x3 with rfl | rfl <;> cases e
    · exact hI.w.objs i rs hi
  · intro i i' c a1 a2 a3 a4
    exact hI.w.inj i i' c (hno i a1) (hno i' a2) a3 a4
  · intro k hk
    obtain ⟨c, lo, hi, t1, t2⟩ := hI.w.toks k hk
    refine ⟨c, lo, hi, t1, fun hl => ?_⟩
    obtain ⟨t3, t4, t5⟩ := t2 hl
    exact ⟨t3, t4, fun i hi' => t5 i (hno i hi')⟩
/-- An append to an empty slice of no room, where something is appended: a box. -/
theorem sl0Dl_ne {nid sz : Nat} {fs : List PV} (h : fs ≠ []) : sl0Dl nid sz fs = { p := .slb nid 0 fs.length sz, wr := [(nid, some (fs.flatMap PV.cells))], ok := True } := by
  cases fs with
  | nil => exact absurd rfl h
  | cons x l => rfl
theorem sl0Dl_nil {nid sz : Nat} : sl0Dl nid sz [] = { p := .sl0 sz, ok := True } := rfl
end Go.Pv
