/- Abstract values: a box that is left as it is from a place of the code on. Nothing of any program. -/
import Derived.Test.YtbjeagcnakdmnaaPvZ
set_option linter.unusedSimpArgs false
set_option linter.unusedVariables false
set_option linter.unusedSectionVars false
namespace Go.Pv
variable [GTab]
def frEnv (F : PV → PV) (l : List (Nat × PV)) : List (Nat × PV) := l.map fun x => (x.1, deep3 F x.2)
def frObjs (F : PV → PV) (l : List (Nat × Option (List PV))) : List (Nat × Option (List PV)) := l.map fun x => (x.1, x.2.map (List.map F))
/-- A box's row stays from now on. -/
def PS.frz (S : PS) (id : Nat) (ps : List PV) : PS := { S with env := frEnv (frz1 id ps) S.env, objs := (id, none) :: frObjs (frz1 id ps) S.objs }
theorem lkp_frEnv {F : PV → PV} (h : deep3 F .any = .any) : ∀ (l : List (Nat × PV)) (t : Nat), lkp .any (frEnv F l) t = deep3 F (lkp .any l t)
  | [], t => h.symm
  | (k, x) :: l, t => by
    show (if k = t then deep3 F x else lkp .any (frEnv F l) t) = deep3 F (if k = t then x else lkp .any l t)
    split
    · rfl
    · exact lkp_frEnv h l t
theorem lkp_frObjs {F : PV → PV} : ∀ (l : List (Nat × Option (List PV))) (t : Nat), lkp none (frObjs F l) t = (lkp none l t).map (List.map F)
  | [], t => rfl
  | (k, x) :: l, t => by
    show (if k = t then x.map (List.map F) else lkp none (frObjs F l) t) = (if k = t then x else lkp none l t).map (List.map F)
    split
    · rfl
    · exact lkp_frObjs l t
theorem Wk.frz {m : Nat} {S : PS} {id : Nat} {ps : List PV} (hob : S.obj id = some ps) (hm : m ≤ id) : Wk m S (S.frz id ps) := by
  intro g tmps w hI hF hp
  obtain ⟨b, q1, _, q6⟩ := hI.w.objs _ ps hob
  obtain ⟨h2, hle, hjj, hoth, hin, hrl⟩ : ∃ h2 : HMap, HMap.le g.h h2 ∧ h2.j = g.h.j ∧ (∀ c o, c ≠ b → h2 c o = g.h c o) ∧ (∀ o v, h2 b o = some v → wcell w b o = some v) ∧ ∀ {v : Value} {p : PV}, Rel g v p → Rel { g with h := h2 } v (frz1 id ps p) := by
    by_cases ht : g.ty b = none
    · exact ⟨g.h, HMap.le_refl _, rfl, fun _ _ _ => rfl, fun o v h => (by rw [q6] at h; cases h), fun r => frz1_no ⟨HMap.le_refl _, fun _ _ h => h, fun _ _ h => h, fun _ _ h => h⟩ q1 ht r⟩
    · obtain ⟨vals, T, fr, q2, _, q3, q4, q5, _⟩ := hI.w.row hob q1 ht
      let h2 : HMap := { c := fun c o => if c = b ∧ o < ps.length then vals[o]? else g.h c o, j := g.h.j }
      have hle : HMap.le g.h h2 := by
        refine ⟨fun c o v hv => ?_, fun _ _ h => h⟩
        show (if c = b ∧ o < ps.length then _ else _) = _
        rw [if_neg (fun e => by rw [e.1, q6] at hv; cases hv)]
        exact hv
      have hfz : Frz g { g with h := h2 } id b vals ps := by
        refine ⟨⟨hle, fun _ _ h => h, fun _ _ h => h, fun _ _ h => h⟩, q1, q3, fun o v ho hv => ?_, q4, fun o v p hv hp => (q5 o v p hv hp).weak.mono hle⟩
        show (if b = b ∧ o < ps.length then _ else _) = _
        rw [if_pos ⟨rfl, ho⟩]; exact hv
      refine ⟨h2, hle, rfl, fun c o e => if_neg (fun e' => e e'.1), fun o v hv => ?_, fun r => frz1_rel hfz r⟩
      have hv' : (if b = b ∧ o < ps.length then vals[o]? else g.h b o) = some v := hv
      split at hv'
      · rw [wcell_cells q2]; exact one?_some hv' (q4 o v hv')
      · rw [q6] at hv'; cases hv'
  let g2 : Gh := { g with h := h2 }
  have hle2 : g.le g2 := ⟨hle, fun _ _ h => h, fun _ _ h => h, fun _ _ h => h⟩
  have hto : ∀ i, (S.frz id ps).obj i = if id = i then none else (S.obj i).map (List.map (frz1 id ps)) := by
    intro i
    show (if id = i then none else lkp none (frObjs (frz1 id ps) S.objs) i) = _
    rw [lkp_frObjs]; rfl
  have hobs : ∀ i qs, (S.frz id ps).obj i = some qs → i ≠ id ∧ ∃ rs, S.obj i = some rs ∧ qs = rs.map (frz1 id ps) := by
    intro i qs hi
    rw [hto] at hi
    split at hi
    · cases hi
    · rename_i hne
      cases hx : S.obj i with
      | none => rw [hx] at hi; cases hi
      | some rs => rw [hx] at hi; cases hi; exact ⟨fun e => hne e.symm, rs, rfl, rfl⟩
  have hobn : ∀ i, (S.frz id ps).obj i ≠ none → S.obj i ≠ none ∧ i ≠ id := by
    intro i hi
    cases hx : (S.frz id ps).obj i with
    | none => exact absurd hx hi
    | some qs => obtain ⟨a1, rs, a2, -⟩ := hobs i qs hx; exact ⟨by simp [a2], a1⟩
  have hne : ∀ i, (S.frz id ps).obj i ≠ none → ∀ c, g.blk i = some c → c ≠ b := by
    intro i hi c hc e
    subst e
    obtain ⟨a1, a2⟩ := hobn i hi
    exact a2 (hI.w.inj i id c a1 (by simp [hob]) hc q1)
  have hown : ∀ c o, Own g2 (S.frz id ps) c o → Own g S c o := by
    intro c o ho
    rcases ho with ⟨i, a1, a2⟩ | ⟨k, lo, hi, a1, a2⟩ | hjn
    · exact .inl ⟨i, (hobn i a1).1, a2⟩
    · exact .inr (.inl ⟨k, lo, hi, a1, a2⟩)
    · exact .inr (.inr (by rw [← hjj]; exact hjn))
  refine ⟨g2, ⟨⟨?_, ?_, ?_, ?_, ?_, hI.w.jnk_of (fun c m h => by rw [← hjj]; exact h) (fun _ _ _ => rfl) (fun c m o h => by rw [hoth c o (fun e => hI.w.jnk_obj (by simp [hob]) q1 (by rw [← e]; exact h))]; exact (hI.w.jnk c m h).2.1 o) (fun i c m _ hid hbk => ⟨(hobn i hid).1, hbk⟩) (fun k c m lo hi _ hk ht _ => ⟨hk, ht⟩), hI.w.tys, hI.w.glm hle⟩, ?_, hI.size⟩, fun j hj => hF j hj, ⟨⟨hle, fun _ _ h => h, ?_, fun c o _ ho => hown c o ho, Nat.le_refl _, fun _ _ => .refl _ _, rfl, rfl, .rf⟩, fun _ _ => rfl⟩⟩
  · intro c o v hv
    by_cases e : c = b
    · subst e; exact hin o v hv
    · exact hI.w.hw c o v (by rw [← hoth c o e]; exact hv)
  · intro i qs hi
    obtain ⟨a1, rs, a2, rfl⟩ := hobs i qs hi
    obtain ⟨c, t1, t2, t6⟩ := hI.w.objs i rs a2
    refine ⟨c, t1, ?_, fun o => (hoth c o (hne i (by simp [hi]) c t1)).trans (t6 o)⟩
    rcases t2 with ⟨vals, T, fr, x1, x2, x3, x4, x5⟩ | ⟨es, ents, cc, x1, x2, x3⟩ | ⟨cur, es, p0, p1, x1, x2, x3, x4⟩
    · refine .inl ⟨vals, T, fr, x1, x2, by simpa using x3, x4, fun j v p hv hp => ?_⟩
      rw [List.getElem?_map] at hp
      obtain ⟨q, hq, rfl⟩ := Option.map_eq_some_iff.1 hp
      exact hrl (x5 j v q hv hq)
    · refine .inr (.inl ⟨es, ents, cc, ?_, x2, x3.mono hle⟩)
      rcases x1 with rfl | rfl
      · exact .inl rfl
      · exact .inr rfl
    · subst x1
      refine .inr (.inr ⟨cur, es, frz1 id ps p0, frz1 id ps p1, rfl, ?_, ?_, x4.mono hle⟩)
      · rcases x2 with rfl | rfl
        · exact .inl rfl
        · exact .inr rfl
      · rcases x3 with rfl | rfl
        · exact .inl rfl
        · exact .inr rfl
  · intro i i' c a1 a2 a3 a4
    exact hI.w.inj i i' c (hobn i a1).1 (hobn i' a2).1 a3 a4
  · intro k hk
    obtain ⟨c, lo, hi, t1, t2⟩ := hI.w.toks k hk
    refine ⟨c, lo, hi, t1, fun hl => ?_⟩
    obtain ⟨t3, t4, t5⟩ := t2 hl
    refine ⟨t3, fun o o1 o2 => ?_, fun i hi' => t5 i (hobn i hi').1⟩
    exact (hoth c o (fun e => t5 id (by simp [hob]) (by rw [e]; exact q1))).trans (t4 o o1 o2)
  · intro k k' c lo hi lo' hi' a1 a2
    exact hI.w.tokd k k' c lo hi lo' hi' a1 a2
  · intro t
    show Rel g2 _ (lkp .any (frEnv (frz1 id ps) S.env) t)
    rw [lkp_frEnv rfl]
    exact deep3_rel hrl (hI.env t)
  · intro c o v hv
    by_cases e : c = b
    · exact .inr (.inr (.inl ⟨id, by simp [hob], by rw [e]; exact q1⟩))
    · exact .inl (by rw [← hoth c o e]; exact hv)
theorem Wk.trans {m : Nat} {S T U : PS} (a : Wk m S T) (b : Wk m T U) : Wk m S U := by
  intro g tmps w hI hF hp
  obtain ⟨g1, h1, h2, h3⟩ := a g tmps w hI hF hp
  obtain ⟨g2, k1, k2, k3⟩ := b g1 tmps w h1 h2 (fun i hi => by rw [h3.pin i hi]; exact hp i hi)
  exact ⟨g2, k1, k2, h3.trans k3⟩
end Go.Pv
