/- Abstract values: what writes into blocks that are owned. Nothing of any program. -/
import Derived.Test.YtbjeagcnakdmnaaPvD
import Derived.Laws.CopyRow
set_option linter.unusedSimpArgs false
set_option linter.unusedVariables false
set_option linter.unusedSectionVars false
namespace Go.Pv
variable [GTab]

/-- The cells of a row, with some of them replaced. -/
def splice (cur : Array Value) (lo : Nat) (news : List Value) : Array Value := (cur.toList.take lo ++ news ++ cur.toList.drop (lo + news.length)).toArray

theorem splice_size {cur : Array Value} {lo : Nat} {news : List Value} (h : lo + news.length ≤ cur.size) : (splice cur lo news).size = cur.size := by
  simp [splice]; omega
theorem splice_get {cur : Array Value} {lo : Nat} {news : List Value} (h : lo + news.length ≤ cur.size) (i : Nat) :
    (splice cur lo news)[i]? = if lo ≤ i ∧ i < lo + news.length then news[i - lo]? else cur[i]? := by
  unfold splice
  simp only [List.getElem?_toArray]
  by_cases h1 : i < lo
  · rw [List.append_assoc, List.getElem?_append_left (by simp; omega), List.getElem?_take, if_pos h1, if_neg (by omega)]; simp
  · rw [List.append_assoc, List.getElem?_append_right (by simp; omega)]
    have hl : (cur.toList.take lo).length = lo := by simp; omega
    rw [hl]
    by_cases h2 : i < lo + news.length
    · rw [List.getElem?_append_left (by omega), if_pos ⟨by omega, h2⟩]
    · rw [List.getElem?_append_right (by omega), if_neg (by omega), List.getElem?_drop]
      rw [show lo + news.length + (i - lo - news.length) = i by omega]; simp

/-- The world w' is w with one row's cells replaced. -/
structure Rowed (w w' : World) (b : Nat) (cur new : Array Value) (T : TypeId) (fr : Nat × Nat) : Prop where
  old : w.heap[b]? = some (.cells cur T fr)
  new : w'.heap[b]? = some (.cells new T fr)
  other : ∀ k, k ≠ b → w'.heap[k]? = w.heap[k]?
  size : w'.heap.size = w.heap.size
  os : w'.os = w.os
  tape : w'.tape = w.tape
  output : OutEq w w'

theorem Rowed.setRow (w : World) {b : Nat} {cur new : Array Value} {T : TypeId} {fr : Nat × Nat} (h : w.heap[b]? = some (.cells cur T fr)) : Rowed w (w.setRow b new) b cur new T fr :=
  ⟨h, setRow_heap w b cur new T fr h, fun k hk => setRow_other w b k new hk, by simp, rfl, rfl, ⟨rfl, Nat.le_refl _⟩⟩

theorem Rowed.tys {g S w w' b cur new T fr} (r : Rowed w w' b cur new T fr) (hs : new.size = cur.size) (hI : InvW g S w) : ∀ b T m, g.ty b = some (T, m) → ∃ vals fr, w'.heap[b]? = some (.cells vals T fr) ∧ vals.size = m := by
  intro b' T' m h
  obtain ⟨vs, fr, h1, h2⟩ := hI.tys b' T' m h
  by_cases e : b' = b
  · subst e
    rw [r.old] at h1; cases h1
    exact ⟨_, _, r.new, hs.trans h2⟩
  · exact ⟨vs, fr, by rw [r.other b' e]; exact h1, h2⟩
theorem Rowed.cell_other {w w' b cur new T fr} (r : Rowed w w' b cur new T fr) {b' o : Nat} (h : b' ≠ b) : wcell w' b' o = wcell w b' o := wcell_of_block (r.other b' h) o
theorem Rowed.cell_same {w w' b cur new T fr} (r : Rowed w w' b cur new T fr) (o : Nat) : wcell w' b o = one? new[o]? := wcell_cells r.new o
theorem Rowed.cell_old {w w' b cur new T fr} (r : Rowed w w' b cur new T fr) (o : Nat) : wcell w b o = one? cur[o]? := wcell_cells r.old o

/-- Stores, one behind the other, into a row none of whose cells is frozen. -/
theorem run_storeCells_fr {P : Program} (g o : Nat) (t : TypeId) (fr : Nat × Nat) : ∀ (vs : List Value) (i : Nat) (cur : Array Value) (w : World), w.heap[g]? = some (.cells cur t fr) → FrOk fr cur.size → o + i + vs.length ≤ cur.size → (∀ v ∈ vs, v.oneCell' = true) →
    (storeCells ⟨g, o, none⟩ vs i).run P w = .ok () (w.setRow g (cur.toList.take (o + i) ++ vs ++ cur.toList.drop (o + i + vs.length)).toArray)
  | [], i, cur, w, hg, hf, _, _ => by
    simp only [storeCells, List.append_nil, List.length_nil, Nat.add_zero, List.take_append_drop, Array.toArray_toList]
    rw [setRow_self w g cur t fr hg]
    rfl
  | v :: rest, i, cur, w, hg, hf, hl, h1 => by
    have hi : o + i < cur.size := by simp at hl; omega
    have hadd : (⟨g, o, none⟩ : Addr).add i = ⟨g, o + i, none⟩ := by unfold Addr.add; split <;> simp_all
    have hcell : w.cell? ⟨g, o + i, none⟩ = some cur[o + i] := by simp [World.cell?, hg, hi]
    have hfro : w.frozen? ⟨g, o + i, none⟩ = false := hf.frozen hg hi
    have hst : (store ((⟨g, o, none⟩ : Addr).add i) v).run P w = .ok () (w.setRow g (cur.setIfInBounds (o + i) v)) := by
      rw [hadd, run_store P w _ v _ (h1 v (by simp)), hcell]
      simp [hfro, setCell_eq_setRow w g (o + i) cur t fr v hg]
    have ih := run_storeCells_fr (P := P) g o t fr rest (i + 1) (cur.setIfInBounds (o + i) v) (w.setRow g (cur.setIfInBounds (o + i) v)) (setRow_heap w g cur _ t _ hg) (by rw [Array.size_setIfInBounds]; exact hf) (by simp at hl ⊢; omega) (fun x hx => h1 x (by simp [hx]))
    simp only [storeCells, Sem.run_bind, hst, Result.andThen_ok, ih, setRow_setRow]
    congr 3
    have e := list_seg_step cur.toList (o + i) v rest (by simp at hl ⊢; omega)
    simpa [Array.toList_setIfInBounds, Nat.add_assoc] using e

/-- A store into a box. -/
theorem storeBox {g S w w'} (hI : InvW g S w) {id b : Nat} {ps ps' : List PV} (hob : S.obj id = some ps) (hb : g.blk id = some b) {cur new : Array Value} {T : TypeId} {fr : Nat × Nat} (r : Rowed w w' b cur new T fr) (hfr : FrOk fr cur.size)
    (hn : ps'.length ≤ new.size) (hs : new.size = cur.size) (ho : ∀ (i : Nat) (v : Value), new[i]? = some v → v.oneCell' = true)
    (hr : ∀ (i : Nat) (v : Value) (p : PV), new[i]? = some v → ps'[i]? = some p → Rel g v p) {δ : Dl} (hwr : δ.wr = [(id, some ps')]) (htk : δ.tk = []) :
    InvW g (S.app δ) w' ∧ Ext g S w g (S.app δ) w' := by
  have hobj : ∀ i, (S.app δ).obj i = if id = i then some ps' else S.obj i := by
    intro i; simp only [PS.obj, PS.app, hwr, List.cons_append, List.nil_append, lkp_cons]
  have hobn : ∀ i, (S.app δ).obj i ≠ none ↔ S.obj i ≠ none := by
    intro i; rw [hobj]; split
    · rename_i e; subst e; simp [hob]
    · rfl
  have hlv : ∀ k, (S.app δ).lv k = S.lv k := by intro k; simp [PS.lv, PS.app, htk]
  have hown : ∀ b o, Own g (S.app δ) b o ↔ Own g S b o := by
    intro b o
    simp only [Own, hobn, hlv]
  obtain ⟨b', q1, q2, q6⟩ := hI.objs id ps hob
  rw [hb] at q1; cases q1
  refine ⟨⟨?_, ?_, ?_, ?_, ?_, hI.jnk_of (fun _ _ h => h) (fun c m h => r.other c (fun e => by subst e; exact hI.jnk_obj (by simp [hob]) hb h)) (fun c m o h => (hI.jnk c m h).2.1 o) (fun i c m _ hid hbk => ⟨(hobn i).1 hid, hbk⟩) (fun k c m lo hi _ hk ht _ => ⟨by rw [← hlv]; exact hk, ht⟩), r.tys hs hI, hI.gl⟩, ⟨Gh.le_refl _, fun b o v h => .inl h, fun b o _ h => (hown b o).1 h, by rw [r.size]; exact Nat.le_refl _, ?_, r.os, r.tape, r.output⟩⟩
  · intro b' o v h
    rw [r.cell_other (fun e => by subst e; rw [q6] at h; cases h)]
    exact hI.hw b' o v h
  · intro i qs hq
    rw [hobj] at hq
    split at hq
    · rename_i e; subst e; cases hq
      exact ⟨b, hb, .inl ⟨new, T, fr, r.new, by rw [hs]; exact hfr, hn, ho, hr⟩, q6⟩
    · rename_i e
      obtain ⟨b2, h1, h2, h6⟩ := hI.objs i qs hq
      refine ⟨b2, h1, ?_, h6⟩
      rw [r.other b2 (fun e2 => e (hI.inj id i b (by simp [hob]) (by simp [hq]) hb (by rw [← e2]; exact h1)))]
      exact h2
  · intro i i' b2 h1 h2 h3 h4
    exact hI.inj i i' b2 ((hobn i).1 h1) ((hobn i').1 h2) h3 h4
  · intro k hk
    rw [hlv] at hk
    obtain ⟨b2, lo, hi, h1, h2⟩ := hI.toks k hk
    refine ⟨b2, lo, hi, h1, fun hl => ?_⟩
    obtain ⟨⟨vs, T', fr', h3, h4⟩, h5, h6⟩ := h2 hl
    refine ⟨⟨vs, T', fr', ?_, h4⟩, h5, fun i hid => h6 i ((hobn i).1 hid)⟩
    rw [r.other b2 (fun e => h6 id (by simp [hob]) (by rw [e]; exact hb))]
    exact h3
  · intro k k' b2 lo hi lo' hi' h1 h2 h3 h4 h5
    rw [hlv] at h1 h2
    exact hI.tokd k k' b2 lo hi lo' hi' h1 h2 h3 h4 h5
  · intro b2 hb2
    by_cases e : b2 = b
    · subst e
      rw [r.old, r.new]
      exact .inr (.inl ⟨cur, new, T, _, _, rfl, rfl, hs, fun o hno => absurd (.inl ⟨id, by simp [hob], hb⟩) hno, .inl rfl⟩)
    · rw [r.other b2 e]; exact .refl _ _

def Gh.fill (g : Gh) (nid b lo hi : Nat) (news : List Value) : Gh :=
  { h := { c := fun b' o => if b' = b ∧ lo ≤ o ∧ o < lo + news.length then news[o - lo]? else g.h b' o, j := g.h.j }, blk := g.blk,
    tok := fun i => if i = nid then some (b, lo + news.length, hi) else g.tok i, ty := g.ty }

/-- Into the room that a token owns: what is written stays; a new token owns the rest. -/
theorem fillRow {g S w w'} (hI : InvW g S w) {nid k b lo hi : Nat} (hf : Fresh g nid) (hk : S.lv k = true) (ht : g.tok k = some (b, lo, hi)) (hl : 0 < hi)
    {cur : Array Value} {T : TypeId} {fr : Nat × Nat} {news : List Value} (hfit : lo + news.length ≤ hi) (r : Rowed w w' b cur (splice cur lo news) T fr) (hone : ∀ v ∈ news, v.oneCell' = true) (hnk : nid ≠ k) {δ : Dl} (hwr : δ.wr = []) (htk : δ.tk = [(nid, true), (k, false)]) :
    let g' := g.fill nid b lo hi news
    InvW g' (S.app δ) w' ∧ Ext g S w g' (S.app δ) w' ∧ (∀ j, j ≠ nid → Fresh g j → Fresh g' j) ∧ (∀ o, o < news.length → g'.h b (lo + o) = news[o]?) ∧ (∀ o, ¬ (lo ≤ o ∧ o < lo + news.length) → g'.h b o = g.h b o) := by
  intro g'
  obtain ⟨b', lo', hi', h1, h2⟩ := hI.toks k hk
  rw [ht] at h1; cases h1
  obtain ⟨⟨vs0, T0, fr0, t1, tf, t2⟩, t3, t4⟩ := h2 hl
  rw [r.old] at t1; cases t1
  have hsz : lo + news.length ≤ cur.size := by omega
  have hhv : ∀ b' o, g'.h b' o = if b' = b ∧ lo ≤ o ∧ o < lo + news.length then news[o - lo]? else g.h b' o := fun _ _ => rfl
  have htok : ∀ i, g'.tok i = if i = nid then some (b, lo + news.length, hi) else g.tok i := fun _ => rfl
  have hle : g.le g' := by
    refine ⟨⟨fun b' o v h => ?_, fun _ _ h => h⟩, fun _ _ h => h, fun i r h => by rw [htok, if_neg (fun e => by subst e; rw [hf.2] at h; cases h)]; exact h, fun _ _ h => h⟩
    rw [hhv, if_neg]
    · exact h
    · rintro ⟨rfl, a1, a2⟩
      rw [t3 o a1 (by omega)] at h; cases h
  have hobj : ∀ id, (S.app δ).obj id = S.obj id := by intro id; simp [PS.obj, PS.app, hwr]
  have hlv : ∀ j, (S.app δ).lv j = true → j = nid ∨ (j ≠ nid ∧ j ≠ k ∧ S.lv j = true) := by
    intro j h
    simp only [PS.lv, PS.app, htk, List.cons_append, List.nil_append, lkp_cons] at h
    split at h
    · rename_i e; exact .inl e.symm
    · rename_i e
      split at h
      · cases h
      · rename_i e2; exact .inr ⟨Ne.symm e, Ne.symm e2, h⟩
  refine ⟨⟨?_, ?_, ?_, ?_, ?_, hI.jnk_of (fun _ _ h => h) (fun c m h => r.other c (fun e => by subst e; exact hI.jnk_tok hk ht hl h)) (fun c m o h => by rw [hhv, if_neg (fun e => by obtain ⟨rfl, _⟩ := e; exact hI.jnk_tok hk ht hl h)]; exact (hI.jnk c m h).2.1 o) (fun id c m _ hid hb => ⟨by rw [← hobj]; exact hid, hb⟩) (fun j c m lo2 hi2 hjc hj htj hl2 => by
      rw [htok] at htj
      rcases hlv j hj with e | ⟨e1, e2, hj'⟩
      · rw [if_pos e] at htj; cases htj; exact (hI.jnk_tok hk ht hl hjc).elim
      · rw [if_neg e1] at htj; exact ⟨hj', htj⟩), fun b T m h => r.tys (g := g) (splice_size hsz) hI b T m h, hI.glm hle.h⟩, ⟨hle, ?_, ?_, by rw [r.size]; exact Nat.le_refl _, ?_, r.os, r.tape, r.output⟩, ?_, ?_, ?_⟩
  · intro b' o v h
    rw [hhv] at h
    split at h
    · rename_i e; obtain ⟨rfl, a1, a2⟩ := e
      rw [r.cell_same, splice_get hsz, if_pos ⟨a1, a2⟩]; exact one?_some h (hone _ (List.mem_of_getElem? h))
    · rename_i e
      by_cases hb : b' = b
      · subst hb
        rw [r.cell_same, splice_get hsz, if_neg (fun x => e ⟨rfl, x⟩), ← r.cell_old]; exact hI.hw _ _ _ h
      · rw [r.cell_other hb]; exact hI.hw _ _ _ h
  · intro id qs hq
    rw [hobj] at hq
    obtain ⟨b2, h1, h2, h6⟩ := hI.objs id qs hq
    have hne : b2 ≠ b := fun e => t4 id (by simp [hq]) (by rw [← e]; exact h1)
    refine ⟨b2, h1, by rw [r.other b2 hne]; exact h2.mono hle, fun o => ?_⟩
    rw [hhv, if_neg (fun e => hne e.1)]; exact h6 o
  · intro id id' b2 h1 h2 h3 h4
    rw [hobj] at h1 h2
    exact hI.inj id id' b2 h1 h2 h3 h4
  · intro j hj
    rcases hlv j hj with e | ⟨e1, e2, hj'⟩
    · subst e
      refine ⟨b, lo + news.length, hi, by rw [htok, if_pos rfl], fun hl' => ⟨⟨_, T, fr, r.new, by rw [splice_size hsz]; exact tf, by rw [splice_size hsz]; exact t2.1, by omega⟩, fun o a1 a2 => ?_, fun id hid => ?_⟩⟩
      · rw [hhv, if_neg (by omega)]; exact t3 o (by omega) a2
      · rw [hobj] at hid; exact t4 id hid
    · obtain ⟨b2, lo2, hi2, h1, h2⟩ := hI.toks j hj'
      refine ⟨b2, lo2, hi2, by rw [htok, if_neg e1]; exact h1, fun hl2 => ?_⟩
      obtain ⟨⟨vs, T', fr', h3, h4⟩, h5, h6⟩ := h2 hl2
      refine ⟨?_, fun o a1 a2 => ?_, fun id hid => ?_⟩
      · by_cases hb : b2 = b
        · subst hb
          rw [r.old] at h3; cases h3
          exact ⟨_, T, fr, r.new, by rw [splice_size hsz]; exact h4⟩
        · exact ⟨vs, T', fr', by rw [r.other b2 hb]; exact h3, h4⟩
      · rw [hhv, if_neg]
        · exact h5 o a1 a2
        · rintro ⟨rfl, a3, a4⟩
          rcases hI.tokd k j b2 lo hi lo2 hi2 hk hj' (Ne.symm e2) ht h1 with h0 | h0 <;> omega
      · rw [hobj] at hid; exact h6 id hid
  · intro j j' b2 lo2 hi2 lo3 hi3 h1 h2 hne h3 h4
    rw [htok] at h3 h4
    rcases hlv j h1 with e | ⟨e1, e2, hj⟩ <;> rcases hlv j' h2 with e' | ⟨e1', e2', hj'⟩
    · omega
    · rw [if_pos e] at h3; rw [if_neg e1'] at h4; cases h3
      exact hI.tokd k j' b lo hi lo3 hi3 hk hj' (Ne.symm e2') ht h4
    · rw [if_neg e1] at h3; rw [if_pos e'] at h4; cases h4
      exact (hI.tokd k j b lo hi lo2 hi2 hk hj (Ne.symm e2) ht h3).symm
    · rw [if_neg e1] at h3; rw [if_neg e1'] at h4
      exact hI.tokd j j' b2 lo2 hi2 lo3 hi3 hj hj' hne h3 h4
  · intro b' o v h
    rw [hhv] at h
    split at h
    · rename_i e; obtain ⟨rfl, a1, a2⟩ := e
      exact .inr (.inr (.inr (.inl ⟨k, lo, hi, hk, ht, hl, a1, by omega⟩)))
    · exact .inl h
  · intro b' o _ h
    rcases h with ⟨id, h1, h2⟩ | ⟨j, lo2, hi2, h1, h2, h3, h4⟩ | hjn
    · rw [hobj] at h1; exact .inl ⟨id, h1, h2⟩
    · rw [htok] at h2
      rcases hlv j h1 with e | ⟨e1, e2, hj⟩
      · rw [if_pos e] at h2; cases h2; exact .inr (.inl ⟨k, lo, hi, hk, ht, hl, by omega, h4.2⟩)
      · rw [if_neg e1] at h2; exact .inr (.inl ⟨j, lo2, hi2, hj, h2, h3, h4⟩)
    · exact .inr (.inr hjn)
  · intro b' hb'
    by_cases e : b' = b
    · subst e
      rw [r.old, r.new]
      refine .inr (.inl ⟨cur, _, T, _, _, rfl, rfl, splice_size hsz, fun o hno => ?_, .inl rfl⟩)
      rw [splice_get hsz, if_neg]
      intro ⟨a1, a2⟩
      exact hno (.inr (.inl ⟨k, lo, hi, hk, ht, hl, a1, by omega⟩))
    · rw [r.other b' e]; exact .refl _ _
  · intro j hj h; exact ⟨h.1, by rw [htok, if_neg hj]; exact h.2⟩
  · intro o ho; rw [hhv, if_pos ⟨rfl, by omega, by omega⟩]; congr 1; omega
  · intro o ho; rw [hhv, if_neg (fun e => ho e.2)]

end Go.Pv
