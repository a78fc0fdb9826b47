/- Abstract values: a row that a function of the library lays anew in its place. Nothing of any program. -/
import Derived.Test.YtbjeagcnakdmnaaPvP
import Derived.Shelf.GgSortFunc.RowK
import Derived.Sort.Grow
import Derived.Deep.Draws
set_option linter.unusedSimpArgs false
set_option linter.unusedVariables false
set_option linter.unusedSectionVars false
namespace Go.Pv
variable [GTab]
open Go.Sort
theorem putCells_get {β : Type} [Inhabited β] (e : β → Value) (D : Array β) (c : Array Value) (i : Nat) : (putCells e 0 D c)[i]? = if i < D.size then (c[i]?).map (fun _ => e D[i]!) else c[i]? := by
  simp only [putCells, Array.getElem?_mapIdx, Nat.zero_add, Nat.zero_le, true_and, Nat.sub_zero]
  cases h : c[i]? with
  | none => simp
  | some x => by_cases hi : i < D.size <;> simp [hi]
theorem putRow_heap {β : Type} [Inhabited β] (e : β → Value) (D : Array β) (w : World) (n b : Nat) (os : Array Obj) (c : Nat) (hc : c < w.heap.size) :
    (grow (putRow e (Sort.ahead w n) b 0 D) os).heap[c]? = if b = c then (w.heap[c]?).map (onCells (putCells e 0 D)) else w.heap[c]? := by
  have h1 : (grow (putRow e (Sort.ahead w n) b 0 D) os).heap = (w.heap.modify b (onCells (putCells e 0 D))) ++ os := rfl
  rw [h1, Array.getElem?_append_left (by simpa using hc), Array.getElem?_modify]
theorem putCells_id (e : Int → Value) (D : Array Int) (c : Array Value) : putCells id 0 (D.map e) c = putCells e 0 D c := by
  apply Array.ext_getElem?
  intro i
  rw [putCells_get, putCells_get, Array.size_map]
  by_cases h : i < D.size
  · rw [if_pos h, if_pos h]
    congr 1
    funext x
    show (D.map e)[i]! = e D[i]!
    rw [getElem!_pos (D.map e) i (by simpa using h), getElem!_pos D i h, Array.getElem_map]
  · rw [if_neg h, if_neg h]
theorem putRow_id (e : Int → Value) (D : Array Int) (w : World) (b : Nat) : putRow id w b 0 (D.map e) = putRow e w b 0 D := by
  unfold putRow
  rw [show putCells id 0 (D.map e) = putCells e 0 D from funext fun c => putCells_id e D c]
theorem put_inv {β : Type} [Inhabited β] {g : Gh} {w w' : World} {b : Nat} {ps ps' : List PV} {e : β → Value} {D : Array β} {n : Nat} {os : Array Obj} (hI : InvW g (st0 [ps] 0) w) (hb : g.blk 0 = some b) (ht : g.ty b ≠ none)
    (hw : w' = grow (putRow e (Sort.ahead w n) b 0 D) os) (hl : ps'.length ≤ ps.length) (h1 : ∀ x, (e x).oneCell' = true)
    (hp : ∀ (i : Nat) (p : PV), ps'[i]? = some p → i < D.size ∧ PRel g.h (e D[i]!) p) : InvW g (st0 [ps'] 0) w' ∧ ExtW g (st0 [ps] 0) w g (st0 [ps'] 0) w' := by
  have hob : (st0 [ps] 0).obj 0 = some ps := by rw [st0_obj]; rfl
  have hob' : (st0 [ps'] 0).obj 0 = some ps' := by rw [st0_obj]; rfl
  have hon : ∀ id, (st0 [ps'] 0).obj id ≠ none → id = 0 := by
    intro id h
    rw [st0_obj] at h
    cases id with
    | zero => rfl
    | succ i => simp at h
  have hon1 : ∀ id, (st0 [ps] 0).obj id ≠ none → id = 0 := by
    intro id h
    rw [st0_obj] at h
    cases id with
    | zero => rfl
    | succ i => simp at h
  have hlv : ∀ (q : List PV) k, (st0 [q] 0).lv k = true → False := by
    intro q k h; rw [st0_lv] at h; simp at h
  obtain ⟨vals, T, fr, h2, hfr, h3, h4, h5, h6⟩ := hI.row hob hb ht
  have hbl : b < w.heap.size := (Array.getElem?_eq_some_iff.1 h2).1
  have hH : ∀ c, c < w.heap.size → b ≠ c → w'.heap[c]? = w.heap[c]? := fun c hc hne => by rw [hw, putRow_heap _ _ _ _ _ _ _ hc, if_neg hne]
  have hB : w'.heap[b]? = some (.cells (putCells e 0 D vals) T fr) := by rw [hw, putRow_heap _ _ _ _ _ _ _ hbl, if_pos rfl, h2]; rfl
  have hS : (putCells e 0 D vals).size = vals.size := by simp [putCells]
  have hown : ∀ (q : List PV) o, Own g (st0 [q] 0) b o := fun q o => .inl ⟨0, by rw [st0_obj]; simp, hb⟩
  have hOwn : ∀ c o, Own g (st0 [ps'] 0) c o → Own g (st0 [ps] 0) c o := by
    rintro c o (⟨id, a1, a2⟩ | ⟨k, lo, hi, a1, _⟩ | h)
    · exact .inl ⟨0, by rw [hob]; simp, by rw [hon id a1] at a2; exact a2⟩
    · exact (hlv _ k a1).elim
    · exact .inr (.inr h)
  refine ⟨⟨?_, ?_, ?_, fun k h => (hlv _ k h).elim, fun k _ _ _ _ _ _ h => (hlv _ k h).elim, ?_, ?_, hI.gl⟩, ⟨HMap.le_refl _, fun _ _ h => h, fun _ _ _ h => .inl h, fun c o _ h => hOwn c o h, by rw [hw]; simp [grow, putRow, mapBlock, Sort.ahead], ?_, by rw [hw]; rfl, by rw [hw]; rfl, by rw [hw]; exact ⟨rfl, Nat.le_add_right _ _⟩⟩⟩
  · intro c o v hv
    have hc := wcell_lt (hI.hw c o v hv)
    have hne : b ≠ c := fun e => by subst e; rw [h6] at hv; cases hv
    rw [wcell_of_block (hH c hc hne)]
    exact hI.hw c o v hv
  · intro id qs hq
    have h0 := hon id (by rw [hq]; simp)
    subst h0
    rw [hob'] at hq; cases hq
    refine ⟨b, hb, .inl ⟨_, T, fr, hB, by rw [hS]; exact hfr, by rw [hS]; omega, ?_, ?_⟩, h6⟩
    · intro i v hv
      rw [putCells_get] at hv
      split at hv
      · cases hx : vals[i]? with
        | none => rw [hx] at hv; cases hv
        | some x => rw [hx] at hv; cases hv; exact h1 _
      · exact h4 i v hv
    · intro i v p hv hpp
      obtain ⟨a1, a2⟩ := hp i p hpp
      rw [putCells_get, if_pos a1] at hv
      cases hx : vals[i]? with
      | none => rw [hx] at hv; cases hv
      | some x => rw [hx] at hv; cases hv; exact .pure _ _ a2
  · intro id id' c a1 a2 _ _
    rw [hon id a1, hon id' a2]
  · intro c m hj
    obtain ⟨⟨v2, T2, f2, q1, q2, q3, q4⟩, q5, q6, q7⟩ := hI.jnk c m hj
    have hne : b ≠ c := fun e => by subst e; exact q6 0 (by rw [hob]; simp) hb
    refine ⟨⟨v2, T2, f2, by rw [hH c (Array.getElem?_eq_some_iff.1 q1).1 hne]; exact q1, q2, q3, q4⟩, q5, fun id a1 => ?_, fun k lo hi h => (hlv _ k h).elim⟩
    rw [hon id a1]; exact q6 0 (by rw [hob]; simp)
  · intro c T2 m hty
    obtain ⟨v2, f2, q1, q2⟩ := hI.tys c T2 m hty
    by_cases hne : b = c
    · subst hne
      rw [h2] at q1; cases q1
      exact ⟨_, _, hB, by rw [hS]; exact q2⟩
    · exact ⟨v2, f2, by rw [hH c (Array.getElem?_eq_some_iff.1 q1).1 hne]; exact q1, q2⟩
  · intro c hc
    by_cases hne : b = c
    · subst hne; exact .inr (.inr (hown ps))
    · rw [hH c hc hne]; exact .refl _ _
/-- A function of the library that lays a row anew in its place: as a contract of ours. -/
theorem Fsp.of_put {β : Type} [Inhabited β] {P : Program} {f : FuncId} {ps ps' : List PV} {sz n : Nat} {rest : List PV} {e : β → Value} {D : Array β} (hfn : ∃ fn, P.funcs[f]? = some fn ∧ fn.body.isSome = true ∧ (fn.name == "runtime.NumGoroutine") = false)
    (hl : ps'.length ≤ ps.length) (h1 : ∀ x, (e x).oneCell' = true) (hp : ∀ h (i : Nat) (p : PV), ps'[i]? = some p → i < D.size ∧ PRel h (e D[i]!) p)
    (hc : ∀ (g : Gh) (w : World) (b cap : Nat) (vs : Array Value), InvW g (st0 [ps] 0) w → g.blk 0 = some b → b < w.heap.size → (∀ (j : Nat) (p : PV), ps[j]? = some p → ∃ v, w.cell? ⟨b, j, none⟩ = some v ∧ w.frozen? ⟨b, j, none⟩ = false ∧ Rel g v p) →
      vs.size = rest.length + 1 → vs[0]? = some (.slice (some ⟨b, 0, none⟩) n cap) → (∀ (i : Nat) (v : Value) (p : PV), vs[i + 1]? = some v → rest[i]? = some p → Rel g v p) →
      Calls P f vs w fun ex w' => ex = .returned (.tuple #[]) ∧ ∃ m os, w' = grow (putRow e (Sort.ahead w m) b 0 D) os) : Fsp P f [ps] 0 (.slg 0 n sz :: rest) [ps'] 0 (.tup []) where
  len := Nat.le_refl _
  fn := hfn
  calls := by
    intro g w vs hI hg _ hsz hrel
    have hob : (st0 [ps] 0).obj 0 = some ps := by rw [st0_obj]; rfl
    have h0 : ∃ v0, vs[0]? = some v0 := ⟨vs[0]'(by rw [hsz]; simp), by simp⟩
    obtain ⟨v0, hv0⟩ := h0
    obtain ⟨b, cap, T, m, hb, rfl, hcap, hmax, hty, hroom⟩ := (hrel 0 v0 _ hv0 rfl).slg_inv
    obtain ⟨vals, T', fr, h2, hfr, h3, h4, h5, h6⟩ := hI.row hob hb (by rw [hty]; simp)
    have hbl : b < w.heap.size := (Array.getElem?_eq_some_iff.1 h2).1
    refine (hc g w b cap vs hI hb hbl (fun j p hj => ?_) (by rw [hsz]; simp) hv0 (fun i v p hv hq => hrel (i + 1) v p hv hq)).mono ?_
    · have hlt := (List.getElem?_eq_some_iff.1 hj).1
      have hx : vals[j]? = some (vals[j]'(by omega)) := by simp
      exact ⟨_, by simp [World.cell?, h2, hx], FrOk.frozen h2 hfr (by omega), h5 j _ p hx hj⟩
    · rintro ex w' ⟨rfl, mm, os, hw⟩
      obtain ⟨q1, q2⟩ := put_inv hI hb (by rw [hty]; simp) hw hl h1 (hp g.h)
      exact ⟨_, g, rfl, q1, q2, fun _ _ => rfl, fun i a1 a2 => absurd a2 (by simp at a1 ⊢; omega), .pure _ _ (.tup _ _ rfl (fun i v p h => by simp at h))⟩
/-- .. and tells a beginning of it. -/
theorem Fsp.of_putS {β : Type} [Inhabited β] {P : Program} {f : FuncId} {ps ps' : List PV} {sz n m0 : Nat} {rest : List PV} {e : β → Value} {D : Array β} (hfn : ∃ fn, P.funcs[f]? = some fn ∧ fn.body.isSome = true ∧ (fn.name == "runtime.NumGoroutine") = false)
    (hm0 : m0 ≤ n) (hl : ps'.length ≤ ps.length) (h1 : ∀ x, (e x).oneCell' = true) (hp : ∀ h (i : Nat) (p : PV), ps'[i]? = some p → i < D.size ∧ PRel h (e D[i]!) p)
    (hc : ∀ (g : Gh) (w : World) (b cap : Nat) (vs : Array Value), InvW g (st0 [ps] 0) w → g.blk 0 = some b → b < w.heap.size → (∀ (j : Nat) (p : PV), ps[j]? = some p → ∃ v, w.cell? ⟨b, j, none⟩ = some v ∧ w.frozen? ⟨b, j, none⟩ = false ∧ Rel g v p) →
      vs.size = rest.length + 1 → vs[0]? = some (.slice (some ⟨b, 0, none⟩) n cap) → n ≤ cap → (∀ (i : Nat) (v : Value) (p : PV), vs[i + 1]? = some v → rest[i]? = some p → Rel g v p) →
      Calls P f vs w fun ex w' => ex = .returned (.slice (some ⟨b, 0, none⟩) m0 cap) ∧ ∃ m os, w' = grow (putRow e (Sort.ahead w m) b 0 D) os) : Fsp P f [ps] 0 (.slg 0 n sz :: rest) [ps'] 0 (.slg 0 m0 sz) where
  len := Nat.le_refl _
  fn := hfn
  calls := by
    intro g w vs hI hg _ hsz hrel
    have hob : (st0 [ps] 0).obj 0 = some ps := by rw [st0_obj]; rfl
    have h0 : ∃ v0, vs[0]? = some v0 := ⟨vs[0]'(by rw [hsz]; simp), by simp⟩
    obtain ⟨v0, hv0⟩ := h0
    obtain ⟨b, cap, T, m, hb, rfl, hcap, hmax, hty, hroom⟩ := (hrel 0 v0 _ hv0 rfl).slg_inv
    obtain ⟨vals, T', fr, h2, hfr, h3, h4, h5, h6⟩ := hI.row hob hb (by rw [hty]; simp)
    have hbl : b < w.heap.size := (Array.getElem?_eq_some_iff.1 h2).1
    refine (hc g w b cap vs hI hb hbl (fun j p hj => ?_) (by rw [hsz]; simp) hv0 hcap (fun i v p hv hq => hrel (i + 1) v p hv hq)).mono ?_
    · have hlt := (List.getElem?_eq_some_iff.1 hj).1
      have hx : vals[j]? = some (vals[j]'(by omega)) := by simp
      exact ⟨_, by simp [World.cell?, h2, hx], FrOk.frozen h2 hfr (by omega), h5 j _ p hx hj⟩
    · rintro ex w' ⟨rfl, mm, os, hw⟩
      obtain ⟨q1, q2⟩ := put_inv hI hb (by rw [hty]; simp) hw hl h1 (hp g.h)
      exact ⟨_, g, rfl, q1, q2, fun _ _ => rfl, fun i a1 a2 => absurd a2 (by simp at a1 ⊢; omega), .slg 0 m0 sz cap b T m hb hty (by omega) hmax hroom⟩
end Go.Pv

/- Abstract values: a contract that needs no laid variables, boxes and tokens holds in any world; what it leaves is that world, some draws and blocks on. Nothing of any program. -/
set_option linter.unusedSimpArgs false
set_option linter.unusedVariables false
set_option linter.unusedSectionVars false
namespace Go.Pv
open Go.Sort
abbrev gt0 : GTab := { tab := [] }
def gh0 : Gh := { h := ⟨fun _ _ => none, fun _ => none⟩, blk := fun _ => none, tok := fun _ => none, ty := fun _ => none }
theorem gh0_own (b o : Nat) : ¬ Own gh0 (st0 [] 0) b o := by
  letI := gt0
  rintro (⟨id, _, h⟩ | ⟨k, lo, hi, h, _⟩ | h)
  · cases h
  · rw [st0_lv] at h; simp at h
  · exact h rfl
theorem gh0_inv (w : World) : @InvW gt0 gh0 (st0 [] 0) w :=
  letI := gt0
  ⟨fun _ _ _ h => (by cases h), fun id ps h => by rw [st0_obj] at h; simp at h, fun id id' b h => by rw [st0_obj] at h; simp at h, fun k h => by rw [st0_lv] at h; simp at h, fun k k' _ _ _ _ _ h => by rw [st0_lv] at h; simp at h,
    fun _ _ h => (by cases h), fun _ _ _ h => (by cases h), fun _ _ h => (by cases h)⟩
theorem ext_grow {g' : Gh} {S' : PS} {w w' : World} (h : ExtW gh0 (st0 [] 0) w g' S' w') : ∃ q os, w' = grow (w.drewN q) os := by
  refine ⟨w'.drawn - w.drawn, w'.heap.extract w.heap.size w'.heap.size, ?_⟩
  have hd := h.output.dr
  have ho := h.output.eq
  have h1 := h.os
  have h2 := h.tape
  have hs := h.size
  have hb : ∀ b, b < w.heap.size → w'.heap[b]? = w.heap[b]? := by
    intro b hb
    rcases h.keep b hb with e | ⟨v1, v2, T, f1, f2, e1, e2, hz, hc, hf⟩ | e
    · exact e
    · have : v2 = v1 := Array.ext_getElem? fun o => hc o (gh0_own b o)
      subst this
      rcases hf with rfl | ⟨o, hf⟩
      · rw [e1, e2]
      · exact (gh0_own b o hf).elim
    · exact (gh0_own b 0 (e 0)).elim
  have hh : w'.heap = w.heap ++ w'.heap.extract w.heap.size w'.heap.size := by
    apply Array.ext_getElem?
    intro i
    by_cases hi : i < w.heap.size
    · rw [Array.getElem?_append_left hi, hb i hi]
    · rw [Array.getElem?_append_right (by omega), Array.getElem?_extract]
      by_cases h3 : i < w'.heap.size
      · rw [if_pos (by omega)]; congr 1; omega
      · rw [if_neg (by omega), Array.getElem?_eq_none (by omega)]
  obtain ⟨p, t, d, s, u⟩ := w
  obtain ⟨p', t', d', s', u'⟩ := w'
  simp only at hd ho h1 h2 hs hh
  subst ho h1 h2
  unfold grow World.drewN
  simp only [World.mk.injEq, true_and, and_true]
  exact ⟨hh, by omega⟩
/-- In any world, at any plain values. -/
theorem Fsp.anyw {P : Program} {f : FuncId} {args : List PV} {r : PV} (h : @Fsp gt0 P f [] 0 args [] 0 r) (w : World) (vs : Array Value) (hs : vs.size = args.length)
    (ha : ∀ (i : Nat) (v : Value) (p : PV), vs[i]? = some v → args[i]? = some p → PRel gh0.h v p) : Calls P f vs w fun e w' => ∃ v g', e = .returned v ∧ Rel g' v r ∧ ∃ q os, w' = grow (w.drewN q) os := by
  letI := gt0
  refine (h.calls gh0 w vs (gh0_inv w) (fun _ _ => rfl) (fun _ _ => rfl) hs (fun i v p h1 h2 => .pure _ _ (ha i v p h1 h2))).mono ?_
  rintro e w' ⟨v, g', rfl, _, hx, _, _, hr⟩
  exact ⟨v, g', rfl, hr, ext_grow hx⟩
end Go.Pv
