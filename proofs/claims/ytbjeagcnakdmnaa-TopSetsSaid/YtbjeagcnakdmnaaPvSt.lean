/- Abstract values: of a row only a beginning is told. Nothing of any program. -/
import Derived.Test.YtbjeagcnakdmnaaPvFz
set_option linter.unusedSimpArgs false
set_option linter.unusedVariables false
set_option linter.unusedSectionVars false
namespace Go.Pv
variable [GTab]
/-- A beginning of a row. -/
def PreOf (qs ps : List PV) : Prop := qs = ps ∨ (2 < ps.length ∧ ∃ k, qs = ps.take k)
theorem InvW.pre {g : Gh} {S S2 : PS} {w : World} (hI : InvW g S w) (ho : ∀ i qs, S2.obj i = some qs → ∃ ps, S.obj i = some ps ∧ PreOf qs ps) (hl : ∀ k, S2.lv k = S.lv k) : InvW g S2 w := by
  have hn : ∀ i, S2.obj i ≠ none → S.obj i ≠ none := fun i h => by
    cases e : S2.obj i with
    | none => exact absurd e h
    | some qs => obtain ⟨ps, h1, -⟩ := ho i qs e; rw [h1]; simp
  refine ⟨hI.hw, fun i qs h => ?_, fun i i' b h1 h2 => hI.inj i i' b (hn i h1) (hn i' h2), fun k h => ?_, fun k k' b lo hi lo' hi' h1 h2 => hI.tokd k k' b lo hi lo' hi' (by rw [← hl]; exact h1) (by rw [← hl]; exact h2), fun b m h => ?_, hI.tys, hI.gl⟩
  · obtain ⟨ps, h1, h2⟩ := ho i qs h
    obtain ⟨c, t1, t2, t6⟩ := hI.objs _ ps h1
    rcases h2 with rfl | ⟨h2, k, rfl⟩
    · exact ⟨c, t1, t2, t6⟩
    · refine ⟨c, t1, ?_, t6⟩
      rcases t2 with ⟨vals, T, fr, x1, x2, x3, x4, x5⟩ | ⟨es, ents, cc, x1, x2, x3⟩ | ⟨cur, es, p0, p1, x1, x2, x3, x4⟩
      · refine .inl ⟨vals, T, fr, x1, x2, by rw [List.length_take]; omega, x4, fun j v p hv hp => ?_⟩
        rw [List.getElem?_take] at hp
        split at hp
        · exact x5 j v p hv hp
        · cases hp
      · rcases x1 with rfl | rfl <;> simp at h2
      · subst x1; simp at h2
  · obtain ⟨c, lo, hi, t1, t2⟩ := hI.toks k (by rw [← hl]; exact h)
    refine ⟨c, lo, hi, t1, fun hl => ?_⟩
    obtain ⟨t3, t4, t5⟩ := t2 hl
    exact ⟨t3, t4, fun i hi' => t5 i (hn i hi')⟩
  · obtain ⟨q1, q2, q3, q4⟩ := hI.jnk b m h
    exact ⟨q1, q2, fun i a => q3 i (hn i a), fun k lo hi a => q4 k lo hi (by rw [← hl]; exact a)⟩
theorem Wk.cut {m : Nat} {S : PS} {id : Nat} {ps qs : List PV} (hob : S.obj id = some ps) (h : PreOf qs ps) : Wk m S { S with objs := (id, some qs) :: S.objs } := by
  intro g tmps w hI hF hp
  have hto : ∀ i, PS.obj { S with objs := (id, some qs) :: S.objs } i = if id = i then some qs else S.obj i := fun i => by simp only [PS.obj, lkp_cons]
  have hno : ∀ i, PS.obj { S with objs := (id, some qs) :: S.objs } i ≠ none → S.obj i ≠ none := by
    intro i hi
    rw [hto] at hi
    split at hi
    · rename_i e; subst e; rw [hob]; simp
    · exact hi
  refine ⟨g, ⟨hI.w.pre (fun i rs h1 => ?_) (fun _ => rfl), hI.env, hI.size⟩, hF, ⟨⟨HMap.le_refl _, fun _ _ h => h, fun c o v hv => .inl hv, fun c o _ ho => ?_, Nat.le_refl _, fun _ _ => .refl _ _, rfl, rfl, .rf⟩, fun _ _ => rfl⟩⟩
  · rw [hto] at h1
    split at h1
    · rename_i e; subst e; cases h1; exact ⟨ps, hob, h⟩
    · exact ⟨rs, h1, .inl rfl⟩
  · rcases ho with ⟨i, a1, a2⟩ | ⟨k, lo, hi, a1, a2⟩ | hjn
    · exact .inl ⟨i, hno i a1, a2⟩
    · exact .inr (.inl ⟨k, lo, hi, a1, a2⟩)
    · exact .inr (.inr hjn)
/-- A contract that tells less of its first box. -/
theorem Fsp.cut0 {P : Program} {f : FuncId} {bs bs' : List (List PV)} {nt nt' : Nat} {args : List PV} {r : PV} {ps qs : List PV} (h : Fsp P f bs nt args (ps :: bs') nt' r) (hq : PreOf qs ps) : Fsp P f bs nt args (qs :: bs') nt' r where
  len := h.len
  fn := h.fn
  calls := fun g w vs hI hb ht hs ha => by
    refine (h.calls g w vs hI hb ht hs ha).mono ?_
    rintro e w' ⟨v, g', rfl, h1, h2, h3, h4, h5⟩
    have ho : ∀ i rs, (st0 (qs :: bs') nt').obj i = some rs → ∃ ps', (st0 (ps :: bs') nt').obj i = some ps' ∧ PreOf rs ps' := by
      intro i rs hi
      rw [st0_obj] at hi ⊢
      cases i with
      | zero => simp at hi ⊢; subst hi; exact hq
      | succ i => simp at hi ⊢; exact ⟨rs, hi, .inl rfl⟩
    refine ⟨v, g', rfl, h1.pre ho (fun k => by rw [st0_lv, st0_lv]), ⟨h2.le, h2.ty, h2.new, fun b o h6 h7 => h2.own b o h6 ?_, h2.size, h2.keep, h2.os, h2.tape, h2.output⟩, h3, h4, h5⟩
    rcases h7 with ⟨i, a1, a2⟩ | ⟨k, lo, hi, a1, a2⟩ | hjn
    · refine .inl ⟨i, ?_, a2⟩
      cases e : (st0 (qs :: bs') nt').obj i with
      | none => exact absurd e a1
      | some rs => obtain ⟨ps', b1, -⟩ := ho i rs e; rw [b1]; simp
    · exact .inr (.inl ⟨k, lo, hi, by rw [st0_lv] at a1 ⊢; exact a1, a2⟩)
    · exact .inr (.inr hjn)
end Go.Pv
