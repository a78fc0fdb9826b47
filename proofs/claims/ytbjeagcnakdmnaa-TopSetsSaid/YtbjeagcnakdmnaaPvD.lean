/- Abstract values: what makes new blocks. Nothing of any program. -/
import Derived.Test.YtbjeagcnakdmnaaPvC
import Derived.Laws.MakeOwn
set_option linter.unusedSimpArgs false
set_option linter.unusedVariables false
set_option linter.unusedSectionVars false
namespace Go.Pv
variable [GTab]

theorem lkp_cons {α : Type} (d : α) (k : Nat) (x : α) (l : List (Nat × α)) (t : Nat) : lkp d ((k, x) :: l) t = if k = t then x else lkp d l t := rfl

theorem InvW.h_lt {g S w} (hI : InvW g S w) {b o v} (h : g.h b o = some v) : b < w.heap.size := by
  exact wcell_lt (hI.hw b o v h)
theorem lt_of_heap {w : World} {b : Nat} {x : Obj} (h : w.heap[b]? = some x) : b < w.heap.size := (Array.getElem?_eq_some_iff.1 h).1
theorem InvW.obj_lt {g S w} (hI : InvW g S w) {id b} (ho : S.obj id ≠ none) (hb : g.blk id = some b) : b < w.heap.size := by
  cases h : S.obj id with
  | none => exact absurd h ho
  | some ps =>
    obtain ⟨b', h1, h2, _⟩ := hI.objs id ps h
    rw [hb] at h1; cases h1
    exact h2.lt
theorem InvW.tok_lt {g S w} (hI : InvW g S w) {k b lo hi} (hk : S.lv k = true) (ht : g.tok k = some (b, lo, hi)) (hl : 0 < hi) : b < w.heap.size := by
  obtain ⟨b', lo', hi', h1, h2⟩ := hI.toks k hk
  rw [ht] at h1; cases h1
  obtain ⟨⟨vals, T, fr, h3, _⟩, _⟩ := h2 hl
  exact lt_of_heap h3

theorem heap_push_lt {w w' : World} {x : Obj} (hh : w'.heap = w.heap.push x) {b : Nat} (hb : b < w.heap.size) : w'.heap[b]? = w.heap[b]? := by
  rw [hh, Array.getElem?_push, if_neg (by omega)]
theorem heap_push_eq {w w' : World} {x : Obj} (hh : w'.heap = w.heap.push x) : w'.heap[w.heap.size]? = some x := by
  rw [hh]; simp
theorem cell_push {w w' : World} {x : Obj} (hh : w'.heap = w.heap.push x) {b o : Nat} {v : Value} (h : wcell w b o = some v) : wcell w' b o = some v := by
  rw [wcell_of_block (heap_push_lt hh (wcell_lt h))]
  exact h

/-- The world w' is w with a block more (and perhaps an answer drawn). -/
structure Pushed (w w' : World) (x : Obj) : Prop where
  heap : w'.heap = w.heap.push x
  os : w'.os = w.os
  tape : w'.tape = w.tape
  output : OutEq w w'

theorem Pushed.alloc (w : World) (x : Obj) : Pushed w (w.alloc x) x := ⟨rfl, rfl, rfl, ⟨rfl, Nat.le_refl _⟩⟩
theorem Pushed.drew_alloc (w : World) (x : Obj) : Pushed w (w.drew.alloc x) x := ⟨rfl, rfl, rfl, ⟨rfl, Nat.le_succ _⟩⟩

theorem InvW.ty_lt {g S w} (hI : InvW g S w) {b T} (h : g.ty b = some T) : b < w.heap.size := by
  obtain ⟨T, m⟩ := T
  obtain ⟨vs, fr, h1, _⟩ := hI.tys b T m h
  exact lt_of_heap h1
theorem InvW.tys_push {g S w} {w' : World} (hI : InvW g S w) {x : Obj} (hh : w'.heap = w.heap.push x) : ∀ b T m, g.ty b = some (T, m) → ∃ vals fr, w'.heap[b]? = some (.cells vals T fr) ∧ vals.size = m := by
  intro b T m h
  obtain ⟨vs, fr, h1, h2⟩ := hI.tys b T m h
  exact ⟨vs, fr, by rw [heap_push_lt hh (lt_of_heap h1)]; exact h1, h2⟩

def Gh.box (g : Gh) (nid b : Nat) (T : TypeId × Nat) : Gh := { g with blk := fun i => if i = nid then some b else g.blk i, ty := fun i => if i = b then some T else g.ty i }

/-- A new box. -/
theorem newBoxF {g S w w'} (hI : InvW g S w) {nid : Nat} (hf : Fresh g nid) {vals : Array Value} {T : TypeId} {ps : List PV} {fr : Nat × Nat} (hfr : FrOk fr vals.size) (hp : Pushed w w' (.cells vals T fr))
    (hn : ps.length ≤ vals.size) (ho : ∀ (i : Nat) (v : Value), vals[i]? = some v → v.oneCell' = true)
    (hr : ∀ g', g.le g' → g'.blk nid = some w.heap.size → g'.ty w.heap.size = some (T, vals.size) → ∀ (i : Nat) (v : Value) (p : PV), vals[i]? = some v → ps[i]? = some p → Rel g' v p) {δ : Dl} (hwr : δ.wr = [(nid, some ps)]) (htk : δ.tk = []) :
    let g' := g.box nid w.heap.size (T, vals.size)
    InvW g' (S.app δ) w' ∧ Ext g S w g' (S.app δ) w' ∧ (∀ j, j ≠ nid → Fresh g j → Fresh g' j) ∧ ∀ off, Rel g' (.pointer (some ⟨w.heap.size, off, none⟩)) (.box nid off) := by
  intro g'
  have hle : g.le g' := ⟨HMap.le_refl _, fun i b h => by
    show (if i = nid then some w.heap.size else g.blk i) = some b
    rw [if_neg (fun e => by subst e; rw [hf.1] at h; cases h)]; exact h, fun _ _ h => h, fun b T' h => by
    show (if b = w.heap.size then some (T, vals.size) else g.ty b) = some T'
    rw [if_neg (fun e => by have := hI.ty_lt h; omega)]; exact h⟩
  have hobj : ∀ id, (S.app δ).obj id = if nid = id then some ps else S.obj id := by
    intro id; simp only [PS.obj, PS.app, hwr, List.cons_append, List.nil_append, lkp_cons]
  have hlv : ∀ k, (S.app δ).lv k = S.lv k := by intro k; simp [PS.lv, PS.app, htk]
  have hblk : ∀ i, g'.blk i = if i = nid then some w.heap.size else g.blk i := fun _ => rfl
  have hty : ∀ b, g'.ty b = if b = w.heap.size then some (T, vals.size) else g.ty b := fun _ => rfl
  have htys : ∀ b T' m', g'.ty b = some (T', m') → ∃ vals fr, w'.heap[b]? = some (.cells vals T' fr) ∧ vals.size = m' := by
    intro b T' m' h
    rw [hty] at h
    split at h
    · rename_i e; subst e; cases h; exact ⟨_, _, heap_push_eq hp.heap, rfl⟩
    · exact hI.tys_push hp.heap b T' m' h
  refine ⟨⟨?_, ?_, ?_, ?_, ?_, (hI.jnk_of (fun _ _ h => h) (fun b m h => heap_push_lt hp.heap (hI.jnk_lt h)) (fun b m o h => (hI.jnk b m h).2.1 o) (fun id b m h hid hb => by
      rw [hobj] at hid; rw [hblk] at hb
      have hlt := hI.jnk_lt h
      by_cases e : id = nid
      · rw [if_pos e] at hb; cases hb; omega
      · rw [if_neg e] at hb; rw [if_neg (Ne.symm e)] at hid; exact ⟨hid, hb⟩) (fun k b m lo hi _ hk ht _ => ⟨by rw [← hlv]; exact hk, ht⟩)), htys, hI.glm hle.h⟩, ⟨hle, fun b o v h => .inl h, ?_, ?_, ?_, hp.os, hp.tape, hp.output⟩, ?_, ?_⟩
  · intro b o v h
    exact cell_push hp.heap (hI.hw b o v h)
  · intro id qs hq
    rw [hobj] at hq
    split at hq
    · rename_i e; subst e; cases hq
      refine ⟨w.heap.size, by rw [hblk, if_pos rfl], .inl ⟨vals, T, fr, heap_push_eq hp.heap, hfr, hn, ho, fun i v p a b => hr g' hle (by rw [hblk, if_pos rfl]) (by rw [hty, if_pos rfl]) i v p a b⟩, ?_⟩
      intro o
      cases hx : g'.h w.heap.size o with
      | none => rfl
      | some v => have := hI.h_lt hx; omega
    · obtain ⟨b, h1, h2, h6⟩ := hI.objs id qs hq
      exact ⟨b, hle.blk _ _ h1, by rw [heap_push_lt hp.heap h2.lt]; exact h2.mono hle, h6⟩
  · intro id id' b h1 h2 h3 h4
    rw [hobj] at h1 h2
    rw [hblk] at h3 h4
    by_cases e1 : id = nid <;> by_cases e2 : id' = nid
    · rw [e1, e2]
    · rw [if_pos e1] at h3; rw [if_neg e2] at h4; cases h3
      rw [if_neg (Ne.symm e2)] at h2
      have := hI.obj_lt h2 h4; omega
    · rw [if_neg e1] at h3; rw [if_pos e2] at h4; cases h4
      rw [if_neg (Ne.symm e1)] at h1
      have := hI.obj_lt h1 h3; omega
    · rw [if_neg e1] at h3; rw [if_neg e2] at h4
      rw [if_neg (Ne.symm e1)] at h1; rw [if_neg (Ne.symm e2)] at h2
      exact hI.inj id id' b h1 h2 h3 h4
  · intro k hk
    rw [hlv] at hk
    obtain ⟨b, lo, hi, h1, h2⟩ := hI.toks k hk
    refine ⟨b, lo, hi, h1, fun hl => ?_⟩
    obtain ⟨⟨vs, T', fr', h3, h4⟩, h5, h6⟩ := h2 hl
    refine ⟨⟨vs, T', fr', by rw [heap_push_lt hp.heap (lt_of_heap h3)]; exact h3, h4⟩, h5, fun id hid => ?_⟩
    rw [hobj] at hid
    rw [hblk]
    split at hid
    · rename_i e; subst e; rw [if_pos rfl]; intro e; cases e; have := lt_of_heap h3; omega
    · rename_i e; rw [if_neg (Ne.symm e)]; exact h6 id hid
  · intro k k' b lo hi lo' hi' h1 h2 h3 h4 h5
    rw [hlv] at h1 h2
    exact hI.tokd k k' b lo hi lo' hi' h1 h2 h3 h4 h5
  · intro b o hb h
    rcases h with ⟨id, h1, h2⟩ | ⟨k, lo, hi, h1, h2, h3⟩ | hj
    · rw [hobj] at h1
      rw [hblk] at h2
      by_cases e : id = nid
      · rw [if_pos e] at h2; cases h2; omega
      · rw [if_neg e] at h2; rw [if_neg (Ne.symm e)] at h1; exact .inl ⟨id, h1, h2⟩
    · rw [hlv] at h1; exact .inr (.inl ⟨k, lo, hi, h1, h2, h3⟩)
    · exact .inr (.inr hj)
  · rw [hp.heap]; simp
  · intro b hb; rw [heap_push_lt hp.heap hb]; exact .refl _ _
  · intro j hj h; exact ⟨by rw [hblk, if_neg hj]; exact h.1, h.2⟩
  · intro off; exact .box nid off _ (by rw [hblk, if_pos rfl]) (by rw [hty, if_pos rfl]; simp)

theorem newBoxG {g S w w'} (hI : InvW g S w) {nid : Nat} (hf : Fresh g nid) {vals : Array Value} {T : TypeId} {ps : List PV} (hp : Pushed w w' (.cells vals T (0, 0)))
    (hn : ps.length ≤ vals.size) (ho : ∀ (i : Nat) (v : Value), vals[i]? = some v → v.oneCell' = true)
    (hr : ∀ g', g.le g' → g'.blk nid = some w.heap.size → g'.ty w.heap.size = some (T, vals.size) → ∀ (i : Nat) (v : Value) (p : PV), vals[i]? = some v → ps[i]? = some p → Rel g' v p) {δ : Dl} (hwr : δ.wr = [(nid, some ps)]) (htk : δ.tk = []) :
    let g' := g.box nid w.heap.size (T, vals.size)
    InvW g' (S.app δ) w' ∧ Ext g S w g' (S.app δ) w' ∧ (∀ j, j ≠ nid → Fresh g j → Fresh g' j) ∧ ∀ off, Rel g' (.pointer (some ⟨w.heap.size, off, none⟩)) (.box nid off) :=
  newBoxF hI hf (FrOk.zero _) hp hn ho hr hwr htk

def Gh.mbox (g : Gh) (nid b : Nat) : Gh := { g with blk := fun i => if i = nid then some b else g.blk i }

/-- A new map, or a new iterator. -/
theorem newObjBox {g S w w'} (hI : InvW g S w) {nid : Nat} (hf : Fresh g nid) {x : Obj} {qs0 : List PV} (hp : Pushed w w' x) (hm : IsMap g.h (some x) qs0 ∨ IsIter g.h (some x) qs0) {δ : Dl} (hwr : δ.wr = [(nid, some qs0)]) (htk : δ.tk = []) :
    let g' := g.mbox nid w.heap.size
    InvW g' (S.app δ) w' ∧ Ext g S w g' (S.app δ) w' ∧ (∀ j, j ≠ nid → Fresh g j → Fresh g' j) ∧ g'.blk nid = some w.heap.size := by
  intro g'
  have hle : g.le g' := ⟨HMap.le_refl _, fun i b h => by
    show (if i = nid then some w.heap.size else g.blk i) = some b
    rw [if_neg (fun e => by subst e; rw [hf.1] at h; cases h)]; exact h, fun _ _ h => h, fun _ _ h => h⟩
  have hobj : ∀ id, (S.app δ).obj id = if nid = id then some qs0 else S.obj id := by
    intro id; simp only [PS.obj, PS.app, hwr, List.cons_append, List.nil_append, lkp_cons]
  have hlv : ∀ k, (S.app δ).lv k = S.lv k := by intro k; simp [PS.lv, PS.app, htk]
  have hblk : ∀ i, g'.blk i = if i = nid then some w.heap.size else g.blk i := fun _ => rfl
  have htys := hI.tys_push hp.heap
  refine ⟨⟨?_, ?_, ?_, ?_, ?_, (hI.jnk_of (fun _ _ h => h) (fun b m h => heap_push_lt hp.heap (hI.jnk_lt h)) (fun b m o h => (hI.jnk b m h).2.1 o) (fun id b m h hid hb => by
      rw [hobj] at hid; rw [hblk] at hb
      have hlt := hI.jnk_lt h
      by_cases e : id = nid
      · rw [if_pos e] at hb; cases hb; omega
      · rw [if_neg e] at hb; rw [if_neg (Ne.symm e)] at hid; exact ⟨hid, hb⟩) (fun k b m lo hi _ hk ht _ => ⟨by rw [← hlv]; exact hk, ht⟩)), htys, hI.glm hle.h⟩, ⟨hle, fun b o v h => .inl h, ?_, ?_, ?_, hp.os, hp.tape, hp.output⟩, ?_, ?_⟩
  · intro b o v h
    exact cell_push hp.heap (hI.hw b o v h)
  · intro id qs hq
    rw [hobj] at hq
    split at hq
    · rename_i e; subst e; cases hq
      refine ⟨w.heap.size, by rw [hblk, if_pos rfl], by rw [heap_push_eq hp.heap]; exact .inr hm, ?_⟩
      intro o
      cases hx : g'.h w.heap.size o with
      | none => rfl
      | some v => have := hI.h_lt hx; omega
    · obtain ⟨b, h1, h2, h6⟩ := hI.objs id qs hq
      exact ⟨b, hle.blk _ _ h1, by rw [heap_push_lt hp.heap h2.lt]; exact h2.mono hle, h6⟩
  · intro id id' b h1 h2 h3 h4
    rw [hobj] at h1 h2
    rw [hblk] at h3 h4
    by_cases e1 : id = nid <;> by_cases e2 : id' = nid
    · rw [e1, e2]
    · rw [if_pos e1] at h3; rw [if_neg e2] at h4; cases h3
      rw [if_neg (Ne.symm e2)] at h2
      have := hI.obj_lt h2 h4; omega
    · rw [if_neg e1] at h3; rw [if_pos e2] at h4; cases h4
      rw [if_neg (Ne.symm e1)] at h1
      have := hI.obj_lt h1 h3; omega
    · rw [if_neg e1] at h3; rw [if_neg e2] at h4
      rw [if_neg (Ne.symm e1)] at h1; rw [if_neg (Ne.symm e2)] at h2
      exact hI.inj id id' b h1 h2 h3 h4
  · intro k hk
    rw [hlv] at hk
    obtain ⟨b, lo, hi, h1, h2⟩ := hI.toks k hk
    refine ⟨b, lo, hi, h1, fun hl => ?_⟩
    obtain ⟨⟨vs, T', fr', h3, h4⟩, h5, h6⟩ := h2 hl
    refine ⟨⟨vs, T', fr', by rw [heap_push_lt hp.heap (lt_of_heap h3)]; exact h3, h4⟩, h5, fun id hid => ?_⟩
    rw [hobj] at hid
    rw [hblk]
    split at hid
    · rename_i e; subst e; rw [if_pos rfl]; intro e; cases e; have := lt_of_heap h3; omega
    · rename_i e; rw [if_neg (Ne.symm e)]; exact h6 id hid
  · intro k k' b lo hi lo' hi' h1 h2 h3 h4 h5
    rw [hlv] at h1 h2
    exact hI.tokd k k' b lo hi lo' hi' h1 h2 h3 h4 h5
  · intro b o hb h
    rcases h with ⟨id, h1, h2⟩ | ⟨k, lo, hi, h1, h2, h3⟩ | hj
    · rw [hobj] at h1
      rw [hblk] at h2
      by_cases e : id = nid
      · rw [if_pos e] at h2; cases h2; omega
      · rw [if_neg e] at h2; rw [if_neg (Ne.symm e)] at h1; exact .inl ⟨id, h1, h2⟩
    · rw [hlv] at h1; exact .inr (.inl ⟨k, lo, hi, h1, h2, h3⟩)
    · exact .inr (.inr hj)
  · rw [hp.heap]; simp
  · intro b hb; rw [heap_push_lt hp.heap hb]; exact .refl _ _
  · intro j hj h; exact ⟨by rw [hblk, if_neg hj]; exact h.1, h.2⟩
  · rw [hblk, if_pos rfl]

/-- A new map. -/
theorem newMapBox {g S w w'} (hI : InvW g S w) {nid : Nat} (hf : Fresh g nid) {ents : Array MapEntry} {c : Nat} {es : List (PV × PV)} (hp : Pushed w w' (.map ents c)) (hm : MapRel g.h ents c es) {δ : Dl} (hwr : δ.wr = [(nid, some [.mobj es])]) (htk : δ.tk = []) :
    let g' := g.mbox nid w.heap.size
    InvW g' (S.app δ) w' ∧ Ext g S w g' (S.app δ) w' ∧ (∀ j, j ≠ nid → Fresh g j → Fresh g' j) ∧ Rel g' (.map (some w.heap.size)) (.mref nid) := by
  obtain ⟨a, b, d, e⟩ := newObjBox hI hf hp (.inl ⟨es, ents, c, .inl rfl, rfl, hm⟩) hwr htk
  exact ⟨a, b, d, .mref nid _ e⟩

theorem newBox {g S w w'} (hI : InvW g S w) {nid : Nat} (hf : Fresh g nid) {vals : Array Value} {T : TypeId} {ps : List PV} (hp : Pushed w w' (.cells vals T (0, 0)))
    (hn : ps.length ≤ vals.size) (ho : ∀ (i : Nat) (v : Value), vals[i]? = some v → v.oneCell' = true)
    (hr : ∀ (i : Nat) (v : Value) (p : PV), vals[i]? = some v → ps[i]? = some p → Rel g v p) {δ : Dl} (hwr : δ.wr = [(nid, some ps)]) (htk : δ.tk = []) :
    let g' := g.box nid w.heap.size (T, vals.size)
    InvW g' (S.app δ) w' ∧ Ext g S w g' (S.app δ) w' ∧ (∀ j, j ≠ nid → Fresh g j → Fresh g' j) ∧ ∀ off, Rel g' (.pointer (some ⟨w.heap.size, off, none⟩)) (.box nid off) :=
  newBoxG hI hf hp hn ho (fun g' hle _ _ i v p a b => (hr i v p a b).mono hle) hwr htk

def Gh.row (g : Gh) (nid b m : Nat) (vals : Array Value) (T : TypeId) : Gh :=
  { h := { c := fun b' o => if b' = b then (if o < m then vals[o]? else none) else g.h b' o, j := g.h.j }, blk := g.blk,
    tok := fun i => if i = nid then some (b, m, vals.size) else g.tok i, ty := fun i => if i = b then some (T, vals.size) else g.ty i }

/-- A new row, whose first cells stay, and whose other ones a new token owns. -/
theorem mkRowF {g S w w'} (hI : InvW g S w) {nid : Nat} (hf : Fresh g nid) {vals : Array Value} {T : TypeId} {m : Nat} {fr : Nat × Nat} (hfr : FrOk fr vals.size) (hp : Pushed w w' (.cells vals T fr)) (hone : ∀ (i : Nat) (v : Value), vals[i]? = some v → v.oneCell' = true)
    (hm : m ≤ vals.size) {δ : Dl} (hwr : δ.wr = []) (htk : ∃ old, δ.tk = (nid, true) :: old ∧ ∀ x ∈ old, x.2 = false) :
    let g' := g.row nid w.heap.size m vals T
    InvW g' (S.app δ) w' ∧ Ext g S w g' (S.app δ) w' ∧ (∀ j, j ≠ nid → Fresh g j → Fresh g' j) ∧ (∀ o, o < m → g'.h w.heap.size o = vals[o]?) ∧ g'.ty w.heap.size = some (T, vals.size) := by
  intro g'
  obtain ⟨old, htk, hold⟩ := htk
  have hno : ∀ o, g.h w.heap.size o = none := by
    intro o
    cases hx : g.h w.heap.size o with
    | none => rfl
    | some v => have := hI.h_lt hx; omega
  have hhv : ∀ b o, g'.h b o = if b = w.heap.size then (if o < m then vals[o]? else none) else g.h b o := fun _ _ => rfl
  have htok : ∀ i, g'.tok i = if i = nid then some (w.heap.size, m, vals.size) else g.tok i := fun _ => rfl
  have hle : g.le g' := ⟨⟨fun b o v h => by rw [hhv, if_neg (fun e => by subst e; rw [hno] at h; cases h)]; exact h, fun _ _ h => h⟩, fun _ _ h => h,
    fun i r h => by rw [htok, if_neg (fun e => by subst e; rw [hf.2] at h; cases h)]; exact h, fun b T' h => by
    show (if b = w.heap.size then some (T, vals.size) else g.ty b) = some T'
    rw [if_neg (fun e => by have := hI.ty_lt h; omega)]; exact h⟩
  have hobj : ∀ id, (S.app δ).obj id = S.obj id := by intro id; simp [PS.obj, PS.app, hwr]
  have hlold : ∀ k, lkp false (old ++ S.live) k = true → S.lv k = true := by
    intro k
    clear htk
    induction old with
    | nil => exact fun h => h
    | cons x xs ih =>
      intro h
      obtain ⟨a, b⟩ := x
      simp only [List.cons_append, lkp_cons] at h
      have hb : b = false := hold (a, b) (List.mem_cons_self ..)
      subst hb
      split at h
      · cases h
      · exact ih (fun x hx => hold x (List.mem_cons_of_mem _ hx)) h
  have hlv : ∀ k, (S.app δ).lv k = true → k = nid ∨ (k ≠ nid ∧ S.lv k = true) := by
    intro k h
    simp only [PS.lv, PS.app, htk, List.cons_append, lkp_cons] at h
    split at h
    · rename_i e; exact .inl e.symm
    · rename_i e; exact .inr ⟨Ne.symm e, hlold k h⟩
  have hty : ∀ b, g'.ty b = if b = w.heap.size then some (T, vals.size) else g.ty b := fun _ => rfl
  have htys : ∀ b T' m', g'.ty b = some (T', m') → ∃ vals fr, w'.heap[b]? = some (.cells vals T' fr) ∧ vals.size = m' := by
    intro b T' m' h
    rw [hty] at h
    split at h
    · rename_i e; subst e; cases h; exact ⟨_, _, heap_push_eq hp.heap, rfl⟩
    · exact hI.tys_push hp.heap b T' m' h
  refine ⟨⟨?_, ?_, ?_, ?_, ?_, (hI.jnk_of (fun _ _ h => h) (fun b m h => heap_push_lt hp.heap (hI.jnk_lt h)) (fun b m o h => by rw [hhv, if_neg (fun e => by have := hI.jnk_lt h; omega)]; exact (hI.jnk b m h).2.1 o) (fun id b m h hid hb => ⟨by rw [← hobj]; exact hid, hb⟩) (fun k b m lo hi hj hk ht hl => by
      rw [htok] at ht
      rcases hlv k hk with e | ⟨e, hk'⟩
      · rw [if_pos e] at ht; cases ht; have := hI.jnk_lt hj; omega
      · rw [if_neg e] at ht; exact ⟨hk', ht⟩)), htys, hI.glm hle.h⟩, ⟨hle, ?_, ?_, ?_, ?_, hp.os, hp.tape, hp.output⟩, ?_, ?_, by rw [hty, if_pos rfl]⟩
  · intro b o v h
    rw [hhv] at h
    split at h
    · rename_i e; subst e
      split at h
      · rw [wcell_cells (heap_push_eq hp.heap)]; exact one?_some h (hone _ _ h)
      · cases h
    · exact cell_push hp.heap (hI.hw b o v h)
  · intro id qs hq
    rw [hobj] at hq
    obtain ⟨b, h1, h2, h6⟩ := hI.objs id qs hq
    refine ⟨b, h1, by rw [heap_push_lt hp.heap h2.lt]; exact h2.mono hle, fun o => ?_⟩
    rw [hhv, if_neg (fun e => by have := h2.lt; omega)]; exact h6 o
  · intro id id' b h1 h2 h3 h4
    rw [hobj] at h1 h2
    exact hI.inj id id' b h1 h2 h3 h4
  · intro k hk
    rcases hlv k hk with e | ⟨e, hk'⟩
    · subst e
      refine ⟨w.heap.size, m, vals.size, by rw [htok, if_pos rfl], fun hl => ⟨⟨vals, T, fr, heap_push_eq hp.heap, hfr, Nat.le_refl _, hm⟩, fun o h1 h2 => ?_, fun id hid => ?_⟩⟩
      · rw [hhv, if_pos rfl, if_neg (by omega)]
      · rw [hobj] at hid
        intro e
        have := hI.obj_lt hid e; omega
    · obtain ⟨b, lo, hi, h1, h2⟩ := hI.toks k hk'
      refine ⟨b, lo, hi, by rw [htok, if_neg e]; exact h1, fun hl => ?_⟩
      obtain ⟨⟨vs, T', fr', h3, h4⟩, h5, h6⟩ := h2 hl
      refine ⟨⟨vs, T', fr', by rw [heap_push_lt hp.heap (lt_of_heap h3)]; exact h3, h4⟩, fun o a b => ?_, fun id hid => ?_⟩
      · rw [hhv, if_neg (fun e => by have := lt_of_heap h3; omega)]; exact h5 o a b
      · rw [hobj] at hid; exact h6 id hid
  · intro k k' b lo hi lo' hi' h1 h2 hne h3 h4
    rw [htok] at h3 h4
    rcases hlv k h1 with e | ⟨e, hk⟩ <;> rcases hlv k' h2 with e' | ⟨e', hk'⟩
    · omega
    · rw [if_pos e] at h3; rw [if_neg e'] at h4; cases h3
      rcases Nat.eq_zero_or_pos hi' with h0 | h0
      · exact .inr h0
      · have := hI.tok_lt hk' h4 h0; omega
    · rw [if_neg e] at h3; rw [if_pos e'] at h4; cases h4
      rcases Nat.eq_zero_or_pos hi with h0 | h0
      · exact .inl h0
      · have := hI.tok_lt hk h3 h0; omega
    · rw [if_neg e] at h3; rw [if_neg e'] at h4
      exact hI.tokd k k' b lo hi lo' hi' hk hk' hne h3 h4
  · intro b o v h
    rw [hhv] at h
    split at h
    · rename_i e; exact .inr (.inl (by omega))
    · exact .inl h
  · intro b o hb h
    rcases h with ⟨id, h1, h2⟩ | ⟨k, lo, hi, h1, h2, h3, h4⟩ | hj
    · rw [hobj] at h1; exact .inl ⟨id, h1, h2⟩
    · rw [htok] at h2
      rcases hlv k h1 with e | ⟨e, hk⟩
      · rw [if_pos e] at h2; cases h2; omega
      · rw [if_neg e] at h2; exact .inr (.inl ⟨k, lo, hi, hk, h2, h3, h4⟩)
    · exact .inr (.inr hj)
  · rw [hp.heap]; simp
  · intro b hb; rw [heap_push_lt hp.heap hb]; exact .refl _ _
  · intro j hj h; exact ⟨h.1, by rw [htok, if_neg hj]; exact h.2⟩
  · intro o ho; rw [hhv, if_pos rfl, if_pos ho]

/-- The slice over a new row reads as its elements, and the new token owns what stands behind. -/
theorem mkRow_rel {g : Gh} {b nid m : Nat} {vals : Array Value} {sz n cap : Nat} {es : List PV} (hn : n = es.length) (hc : n ≤ cap) (hm : cap ≤ maxLen) (hsz : ∀ p ∈ es, p.cells.length = sz)
    (hmn : m = n * sz) (hcs : vals.size = cap * sz) (hh : ∀ o, o < m → g.h b o = vals[o]?) (ht : g.tok nid = some (b, m, vals.size))
    (ho : ∀ (i : Nat) (v : Value), vals[i]? = some v → v.oneCell' = true) (hr : ∀ (i : Nat) (v : Value) (p : PV), vals[i]? = some v → (es.flatMap PV.cells)[i]? = some p → PRel g.h v p) :
    Rel g (.slice (some ⟨b, 0, none⟩) n cap) (.slt sz es nid) := by
  have hfl := flat_length hsz
  have hle : n * sz ≤ cap * sz := Nat.mul_le_mul_right _ hc
  have hv : ∀ i, i < (es.flatMap PV.cells).length → vals[i]? = some (vals.getD i undef) := by
    intro i hi
    have : i < vals.size := by rw [hfl, ← hn] at hi; omega
    simp [this]
  refine .slt _ sz es nid (.sl b 0 n cap sz es (fun i => vals.getD i undef) hn hc hm hsz ?_ ?_ ?_) ?_
  · intro i hi
    rw [Nat.zero_add, hh i (by rw [hfl, ← hn] at hi; omega)]
    exact hv i hi
  · intro i hi; exact ho i _ (hv i hi)
  · intro i p hp
    exact hr i _ p (hv i (List.getElem?_eq_some_iff.1 hp).1) hp
  · intro b' lo hi hs _
    simp only [spare] at hs
    split at hs
    · cases hs
    simp only [Option.some.injEq, Prod.mk.injEq] at hs
    obtain ⟨rfl, rfl, rfl⟩ := hs
    rw [ht, hmn, hcs]; simp

end Go.Pv
