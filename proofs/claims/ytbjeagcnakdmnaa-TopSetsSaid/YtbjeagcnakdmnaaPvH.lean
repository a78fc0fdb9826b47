/- Abstract values: literals, made slices, appends, bytes as a text. Nothing of any program. -/
import Derived.Test.YtbjeagcnakdmnaaPvG
set_option linter.unusedSimpArgs false
set_option linter.unusedVariables false
set_option linter.unusedSectionVars false
namespace Go.Pv
variable [GTab]

section
variable {P : Program} {nid : Nat} {o : Oper} {ins : Operand → PV} {S : PS} {ok : Prop}

/-! ### Literals of structs, arrays, slices -/
/-- The parts laid into the cells. -/
def fillPV (place : Nat → Option (Nat × Nat)) (cs : List PV) : List (Nat × PV) → Option (List PV)
  | [] => some cs
  | (i, p) :: rest =>
    match place i with
    | none => none
    | some (off, size) => if p.shaped = true ∧ p.cells.length = size ∧ off + p.cells.length ≤ cs.length then fillPV place (setC cs off p.cells) rest else none

theorem foldl_set (off : Nat) (xs : List Value) : ∀ (j : Nat) (cs : Array Value), off + j + xs.length ≤ cs.size →
    (xs.zipIdx j).foldl (fun cs (x : Value × Nat) => cs.setIfInBounds (off + x.2) x.1) cs = splice cs (off + j) xs := by
  induction xs with
  | nil => intro j cs _; simp [splice]
  | cons x xs ih =>
    intro j cs h
    simp only [List.zipIdx_cons, List.foldl_cons]
    simp only [List.length_cons] at h
    rw [ih (j + 1) _ (by simp; omega)]
    apply Array.ext_getElem?
    intro i
    rw [splice_get (by simp; omega), splice_get (by simp; omega)]
    simp only [List.length_cons]
    by_cases h1 : i = off + j
    · subst h1
      rw [if_neg (by omega), if_pos (by omega)]
      simp [show off + j < cs.size by omega]
    · by_cases h2 : off + (j + 1) ≤ i ∧ i < off + (j + 1) + xs.length
      · rw [if_pos h2, if_pos (by omega), show i - (off + j) = (i - (off + (j + 1))) + 1 by omega, List.getElem?_cons_succ]
      · rw [if_neg h2, if_neg (by omega), Array.getElem?_setIfInBounds, if_neg (by omega)]

theorem fill_rel {g : Gh} {place : Nat → Option (Nat × Nat)} : ∀ (ps : List (Nat × PV)) (vs : List (Nat × Value)) (cs : List PV) (cur : Array Value) (out : List PV),
    ps.length = vs.length → (∀ (i : Nat) (a : Nat × PV) (b : Nat × Value), ps[i]? = some a → vs[i]? = some b → a.1 = b.1 ∧ Rel g b.2 a.2) →
    cur.size = cs.length → (∀ (i : Nat) (v : Value), cur[i]? = some v → v.oneCell' = true) → (∀ (i : Nat) (v : Value) (p : PV), cur[i]? = some v → cs[i]? = some p → Rel g v p) →
    fillPV place cs ps = some out → ∃ r, Instr.fill place cur vs = some r ∧ r.size = out.length ∧ (∀ (i : Nat) (v : Value), r[i]? = some v → v.oneCell' = true) ∧
      ∀ (i : Nat) (v : Value) (p : PV), r[i]? = some v → out[i]? = some p → Rel g v p
  | [], vs, cs, cur, out, hl, _, h1, h2, h3, h => by
    have hv : vs = [] := by cases vs <;> simp_all
    subst hv
    simp [fillPV] at h; subst h
    exact ⟨cur, rfl, h1, h2, h3⟩
  | (i, p) :: ps, [], cs, cur, out, hl, _, h1, h2, h3, h => by simp at hl
  | (i, p) :: ps, (j, v) :: vs, cs, cur, out, hl, hr, h1, h2, h3, h => by
    obtain ⟨e, r⟩ := hr 0 (i, p) (j, v) rfl rfl
    simp at e; subst e
    simp only at r
    unfold fillPV at h
    unfold Instr.fill
    cases hp : place i with
    | none => simp [hp] at h
    | some os =>
      obtain ⟨off, size⟩ := os
      simp only [hp] at h ⊢
      split at h
      · rename_i hc
        obtain ⟨c1, c2, c3⟩ := hc
        obtain ⟨q1, q2, q3⟩ := r.cells c1
        have hz : (v.cells.zipIdx.foldl (fun cs (x : Value × Nat) => cs.setIfInBounds (off + x.2) x.1) cur) = splice cur off v.cells.toList := by
          have := foldl_set off v.cells.toList 0 cur (by simp; omega)
          rw [Nat.add_zero] at this
          rw [← this, ← Array.foldl_toList]
          congr 1
          simp
        have hfit : off + v.cells.toList.length ≤ cur.size := by simp; omega
        rw [if_neg (by simp; omega)]
        have hz' : (v.cells.zipIdx.foldl (fun cs x => match x with | (c, j) => cs.setIfInBounds (off + j) c) cur) = splice cur off v.cells.toList := hz
        rw [hz']
        refine fill_rel ps vs _ _ out (by simpa using hl) (fun k a b ha hb => hr (k + 1) a b (by simpa using ha) (by simpa using hb)) ?_ ?_ ?_ h
        · rw [splice_size hfit, setC_length c3, h1]
        · intro k u hu
          rw [splice_get hfit] at hu
          split at hu
          · exact q2 _ u (by simpa using hu)
          · exact h2 k u hu
        · intro k u q hu hq
          have hlen : v.cells.toList.length = p.cells.length := by simpa using q1
          rw [splice_get hfit, hlen] at hu
          rw [setC_get c3] at hq
          split at hu
          · rename_i e; rw [if_pos e] at hq; exact q3 _ u q (by simpa using hu) hq
          · rename_i e; rw [if_neg e] at hq; exact h3 k u q hu hq
      · cases h

theorem parts_rel {g : Gh} {ρ : Operand → Value} (parts : Array (Nat × Operand)) (hr : ∀ x ∈ (parts.toList.map (·.2)).toArray, Rel g (ρ x) (ins x)) :
    (parts.toList.map fun (i, x) => (i, ins x)).length = (parts.map fun (i, x) => (i, ρ x)).toList.length ∧
    ∀ (i : Nat) (a : Nat × PV) (b : Nat × Value), (parts.toList.map fun (i, x) => (i, ins x))[i]? = some a → (parts.map fun (i, x) => (i, ρ x)).toList[i]? = some b → a.1 = b.1 ∧ Rel g b.2 a.2 := by
  refine ⟨by simp, fun i a b ha hb => ?_⟩
  rw [Array.toList_map, List.getElem?_map] at hb
  rw [List.getElem?_map] at ha
  cases hc : parts.toList[i]? with
  | none => rw [hc] at ha; cases ha
  | some x =>
    rw [hc] at ha hb
    cases ha; cases hb
    exact ⟨rfl, hr x.2 (by simp; exact ⟨x.1, by have := List.mem_of_getElem? hc; simpa using this⟩)⟩

/-- Where a struct's fields lie. -/
def plS (P : Program) (t : TypeId) : Option (List (Nat × Nat)) :=
  match P.underlying t with
  | some (.struct fs) => fs.toList.mapM (fun f => (P.info? f.type).map fun i => (f.offset, i.size))
  | _ => none

theorem build_st {t : Nat} {parts : Array (Nat × Operand)} {zs out : List PV} {pl : List (Nat × Nat)} (ho : o.op = .build t parts) (hz : zc P t = some zs) (hp : plS P t = some pl)
    (hf : fillPV (fun i => pl[i]?) zs (parts.toList.map fun (i, x) => (i, ins x)) = some out) :
    LTrip P nid o ins S { p := .agg out, ok := ok } := by
  refine .still fun g S' ρ w hI hr hb => ?_
  obtain ⟨i, z, hi, hz, hn, ho1, hp1⟩ := zc_spec hz
  obtain ⟨hl, hrel⟩ := parts_rel (ins := ins) (g := g) (ρ := ρ) parts (fun x hx => hr x (by simpa [ho, Op.operands] using hx))
  obtain ⟨r, h1, h2, h3, h4⟩ := fill_rel (g := g) (place := fun i => pl[i]?) _ _ zs z.cells out hl hrel hn ho1 (fun i v p a b => .pure _ _ (hp1 _ i v p a b)) hf
  refine ⟨.agg r, ?_, .agg r out h2 h3 h4⟩
  have hb : P.built t (parts.map fun (i, x) => (i, ρ x)).toList = some r := by
    unfold plS at hp
    split at hp
    · rename_i fs hu
      simp only [Program.built, hi, hu, hz, hp]
      simpa using h1
    · cases hp
  simp [execOp, ho, run_build w t _ r hb]

theorem build_arr {t n e : Nat} {parts : Array (Nat × Operand)} {zs out : List PV} (ho : o.op = .build t parts) (hz : zc P t = some zs) (ht : tk P t = .arr n e) (hpos : 0 < tsz P e)
    (hf : fillPV (fun i => some (i * tsz P e, tsz P e)) zs (parts.toList.map fun (i, x) => (i, ins x)) = some out) :
    LTrip P nid o ins S { p := .agg out, ok := ok } := by
  refine .still fun g S' ρ w hI hr hb => ?_
  obtain ⟨i, z, hi, hz, hn, ho1, hp1⟩ := zc_spec hz
  obtain ⟨hl, hrel⟩ := parts_rel (ins := ins) (g := g) (ρ := ρ) parts (fun x hx => hr x (by simpa [ho, Op.operands] using hx))
  obtain ⟨r, h1, h2, h3, h4⟩ := fill_rel (g := g) (place := fun i => some (i * tsz P e, tsz P e)) _ _ zs z.cells out hl hrel hn ho1 (fun i v p a b => .pure _ _ (hp1 _ i v p a b)) hf
  refine ⟨.agg r, ?_, .agg r out h2 h3 h4⟩
  obtain ⟨m, hm⟩ : ∃ m, tsz P e = m + 1 := ⟨tsz P e - 1, by omega⟩
  obtain ⟨ie, hie, hse⟩ := tsz_info hm
  have hb : P.built t (parts.map fun (i, x) => (i, ρ x)).toList = some r := by
    simp only [Program.built, hi, tk_arr ht, hz, hie, hse]
    rw [hm] at h1
    simpa using h1
  simp [execOp, ho, run_build w t _ r hb]

theorem mkRowOfF {g : Gh} {S' : PS} {w w' : World} (hI : InvW g S' w) (hf : Fresh g nid) {e sz n cap m : Nat} {es : List PV} {vals : Array Value} {fr : Nat × Nat} (hfr : FrOk fr vals.size) (hp : Pushed w w' (.cells vals e fr))
    (hn : n = es.length) (hc : n ≤ cap) (hm : cap ≤ maxLen) (hsz : ∀ p ∈ es, p.cells.length = sz) (hmn : m = n * sz) (hcs : vals.size = cap * sz)
    (ho : ∀ (i : Nat) (v : Value), vals[i]? = some v → v.oneCell' = true) (hr : ∀ (i : Nat) (v : Value) (p : PV), vals[i]? = some v → (es.flatMap PV.cells)[i]? = some p → PRel g.h v p)
    {δ : Dl} (hwr : δ.wr = []) (htk : ∃ old, δ.tk = (nid, true) :: old ∧ ∀ x ∈ old, x.2 = false) :
    ∃ g', InvW g' (S'.app δ) w' ∧ Ext g S' w g' (S'.app δ) w' ∧ (∀ j, j ≠ nid → Fresh g j → Fresh g' j) ∧ Rel g' (.slice (some ⟨w.heap.size, 0, none⟩) n cap) (.slt sz es nid) ∧ ∃ m, g'.ty w.heap.size = some (e, m) := by
  have hle : n * sz ≤ cap * sz := Nat.mul_le_mul_right _ hc
  obtain ⟨h1, h2, h3, h4, h5⟩ := mkRowF hI hf hfr hp (m := m) ho (by omega) hwr htk
  refine ⟨_, h1, h2, h3, mkRow_rel hn hc hm hsz hmn hcs h4 ?_ ho (fun i v p a b => (hr i v p a b).mono h2.le.h), _, h5⟩
  show (if nid = nid then _ else _) = _
  rw [if_pos rfl]

theorem mkRowOf {g : Gh} {S' : PS} {w w' : World} (hI : InvW g S' w) (hf : Fresh g nid) {e sz n cap m : Nat} {es : List PV} {vals : Array Value} (hp : Pushed w w' (.cells vals e (0, 0)))
    (hn : n = es.length) (hc : n ≤ cap) (hm : cap ≤ maxLen) (hsz : ∀ p ∈ es, p.cells.length = sz) (hmn : m = n * sz) (hcs : vals.size = cap * sz)
    (ho : ∀ (i : Nat) (v : Value), vals[i]? = some v → v.oneCell' = true) (hr : ∀ (i : Nat) (v : Value) (p : PV), vals[i]? = some v → (es.flatMap PV.cells)[i]? = some p → PRel g.h v p)
    {δ : Dl} (hwr : δ.wr = []) (htk : ∃ old, δ.tk = (nid, true) :: old ∧ ∀ x ∈ old, x.2 = false) :
    ∃ g', InvW g' (S'.app δ) w' ∧ Ext g S' w g' (S'.app δ) w' ∧ (∀ j, j ≠ nid → Fresh g j → Fresh g' j) ∧ Rel g' (.slice (some ⟨w.heap.size, 0, none⟩) n cap) (.slt sz es nid) ∧ ∃ m, g'.ty w.heap.size = some (e, m) :=
  mkRowOfF hI hf (FrOk.zero _) hp hn hc hm hsz hmn hcs ho hr hwr htk

/-- What a closure has captured, as far as it stays. -/
def PV.cap : PV → PV
  | .loc l => .loc l
  | .int k n => .int k n
  | .str s => .str s
  | .bool b => .bool b
  | _ => .any
theorem Rel.cap {g : Gh} {v : Value} {p : PV} (r : Rel g v p) : PRel g.h v p.cap := by
  cases p <;> first | exact .any _ | skip
  · rw [r.bool_inv]; exact .bool _
  · rw [r.int_inv]; exact .int _ _
  · rw [r.str_inv]; exact .str _
  · exact r.loc_inv
/-- A token is left behind; what speaks of boxes is forgotten. -/
def PV.weak : PV → PV
  | .slt sz es _ => .sl sz es
  | .bsl _ es _ => .sl 1 es
  | .nbp _ _ | .box _ _ | .slb _ _ _ _ | .slg _ _ _ | .mref _ | .iref _ | .yld _ | .given _ _ | .tup _ | .agg _ => .any
  | .fn f (p :: ps) => .fn f ((p :: ps).map PV.cap)
  | p => p
/-- .. in each cell: what may lie where it stays. -/
def PV.el : PV → PV
  | .agg ps => .agg (ps.map PV.weak)
  | p => p.weak

theorem Rel.weak {g : Gh} {v : Value} {p : PV} (r : Rel g v p) : PRel g.h v p.weak := by
  cases r with
  | pure v p h =>
    cases h <;> first | exact .any _ | (constructor; done) | skip
    case sl b off n cap sz es vals hn hc hm hsz hh ho hp' => exact .sl b off n cap sz es vals hn hc hm hsz hh ho hp'
    case sln b off n cap sz es hr => exact .sln b off n cap sz es hr
    case slj b off n cap m hj hc hm ho => exact .slj b off n cap m hj hc hm ho
    case loc b off ps vals hh ho hp' => exact .loc b off ps vals hh ho hp'
    case fn f vs ps hn hp' =>
      cases ps with
      | nil => exact .fn f vs [] hn hp'
      | cons p ps =>
        refine .fn f vs _ (by simpa using hn) (fun i v q hv hq => ?_)
        rw [List.getElem?_map] at hq
        obtain ⟨x, hx, rfl⟩ := Option.map_eq_some_iff.1 hq
        exact Rel.cap (.pure _ _ (hp' i v x hv hx))
    case ifc t v p hp' => exact .ifc t v p hp'
    case mpure b ents c es es' hh hw hp hn hd hk hv => exact .mpure b ents c es es' hh hw hp hn hd hk hv
  | slt v sz es k h ht => exact h
  | box => exact .any _
  | slb => exact .any _
  | slg => exact .any _
  | agg vs ps => exact .any _
  | tup => exact .any _
  | fn f vs ps hn hp' =>
    cases ps with
    | nil => exact .fn f vs [] hn (fun i v p _ h => by simp at h)
    | cons p ps =>
      refine .fn f vs _ (by simpa using hn) (fun i v q hv hq => ?_)
      rw [List.getElem?_map] at hq
      obtain ⟨x, hx, rfl⟩ := Option.map_eq_some_iff.1 hq
      exact (hp' i v x hv hx).cap
  | mref => exact .any _
  | iref => exact .any _
  | yld => exact .any _
  | given => exact .any _
  | nbp => exact .any _
  | bsl v e es k h => exact h

theorem Rel.el {g : Gh} {v : Value} {p : PV} (r : Rel g v p) : PRel g.h v p.el := by
  by_cases h : ∃ ps, p = .agg ps
  · obtain ⟨ps, rfl⟩ := h
    obtain ⟨vs, rfl, hn, ho, hp⟩ := r.agg_inv
    refine .agg vs _ (by simp [hn]) ho ?_
    intro i v q hv hq
    rw [List.getElem?_map] at hq
    cases hx : ps[i]? with
    | none => rw [hx] at hq; cases hq
    | some x => rw [hx] at hq; cases hq; exact (hp i v x hv hx).weak
  · have hn : ∀ ps, p ≠ .agg ps := fun ps e => h ⟨ps, e⟩
    have := r.weak
    cases p <;> first | exact this | exact absurd rfl (hn _)

theorem el_shaped {p : PV} (h : p.shaped = true) : p.el.cells.length = p.cells.length ∧ (p.el.cells = p.cells.map PV.weak) := by
  cases p <;> simp [PV.shaped, PV.one] at h <;> simp [PV.el, PV.cells, PV.weak]
  rename_i f l; cases l <;> exact ⟨rfl, rfl⟩

/-- A row's cells out of its elements' values. -/
theorem rows_rel {g : Gh} {sz : Nat} : ∀ (vs : List Value) (ps : List PV), vs.length = ps.length → (∀ (i : Nat) (v : Value) (p : PV), vs[i]? = some v → ps[i]? = some p → Rel g v p ∧ p.shaped = true ∧ p.cells.length = sz) →
    (∀ p ∈ ps.map PV.el, p.cells.length = sz) ∧ (vs.flatMap fun v => v.cells.toList).length = ps.length * sz ∧ (∀ v ∈ (vs.flatMap fun v => v.cells.toList), v.oneCell' = true) ∧
    ∀ (i : Nat) (v : Value) (p : PV), (vs.flatMap fun v => v.cells.toList)[i]? = some v → ((ps.map PV.el).flatMap PV.cells)[i]? = some p → PRel g.h v p
  | [], [], _, _ => by simp
  | [], _ :: _, h, _ => by simp at h
  | _ :: _, [], h, _ => by simp at h
  | v :: vs, p :: ps, hl, h => by
    obtain ⟨r, hs, hc⟩ := h 0 v p rfl rfl
    obtain ⟨i1, i2, i3, i4⟩ := rows_rel (sz := sz) (g := g) vs ps (by simpa using hl) (fun i a b ha hb => h (i + 1) a b (by simpa using ha) (by simpa using hb))
    obtain ⟨q1, q2, q3⟩ := r.cells hs
    obtain ⟨e1, e2⟩ := el_shaped hs
    have hlen : v.cells.toList.length = sz := by simp [q1, hc]
    refine ⟨?_, ?_, ?_, ?_⟩
    · intro q hq
      rw [List.map_cons, List.mem_cons] at hq
      rcases hq with rfl | hq
      · rw [e1, hc]
      · exact i1 q hq
    · rw [List.flatMap_cons, List.length_append, hlen, i2, List.length_cons, Nat.add_mul]; omega
    · intro u hu
      rw [List.flatMap_cons, List.mem_append] at hu
      rcases hu with hu | hu
      · obtain ⟨i, hi⟩ := List.mem_iff_getElem?.1 hu
        exact q2 i u (by simpa using hi)
      · exact i3 u hu
    · intro i u q hu hq
      rw [List.flatMap_cons] at hu
      rw [List.map_cons, List.flatMap_cons] at hq
      by_cases hi : i < sz
      · rw [List.getElem?_append_left (by omega)] at hu
        rw [List.getElem?_append_left (by rw [e1, hc]; exact hi), e2, List.getElem?_map] at hq
        cases hx : p.cells[i]? with
        | none => rw [hx] at hq; cases hq
        | some x => rw [hx] at hq; cases hq; exact (q3 i u x (by simpa using hu) hx).weak
      · rw [List.getElem?_append_right (by omega), hlen] at hu
        rw [List.getElem?_append_right (by rw [e1, hc]; omega), e1, hc] at hq
        exact i4 (i - sz) u q hu hq

/-- Parts laid one behind the other. -/
theorem fill_order {sz : Nat} : ∀ (vs : List Value) (j : Nat) (cur : Array Value), (∀ v ∈ vs, v.cells.size = sz) → j * sz + vs.length * sz ≤ cur.size →
    Instr.fill (fun i => some (i * sz, sz)) cur ((vs.zipIdx j).map fun (v, i) => (i, v)) = some (splice cur (j * sz) (vs.flatMap fun v => v.cells.toList))
  | [], j, cur, _, _ => by simp [Instr.fill, splice]
  | v :: vs, j, cur, h, hl => by
    have hv := h v (List.mem_cons_self ..)
    simp only [List.length_cons, Nat.add_mul] at hl
    simp only [List.zipIdx_cons, List.map_cons, Instr.fill]
    rw [if_neg (by simp [hv]; omega)]
    have hz : (v.cells.zipIdx.foldl (fun cs x => match x with | (c, i) => cs.setIfInBounds (j * sz + i) c) cur) = splice cur (j * sz) v.cells.toList := by
      have := foldl_set (j * sz) v.cells.toList 0 cur (by simp [hv]; omega)
      rw [Nat.add_zero] at this
      rw [← this, ← Array.foldl_toList]
      congr 1
      simp
    rw [hz, fill_order vs (j + 1) _ (fun v hv => h v (List.mem_cons_of_mem _ hv)) (by rw [splice_size (by simp [hv]; omega), Nat.add_mul]; omega)]
    congr 1
    have hvl : v.cells.toList.length = sz := by simp [hv]
    have hfl : ∀ ws : List Value, (∀ v ∈ ws, v.cells.size = sz) → (ws.flatMap fun v => v.cells.toList).length = ws.length * sz := by
      intro ws
      induction ws with
      | nil => simp
      | cons x xs ih => intro hx; simp only [List.flatMap_cons, List.length_append, ih (fun v hv => hx v (List.mem_cons_of_mem _ hv)), List.length_cons, Nat.add_mul]; have := hx x (List.mem_cons_self ..); simp [this]; omega
    have hr := hfl vs (fun v hv => h v (List.mem_cons_of_mem _ hv))
    apply Array.ext_getElem?
    intro i
    have b1 : j * sz + v.cells.toList.length ≤ cur.size := by rw [hvl]; omega
    rw [splice_get (by rw [splice_size b1, hr, Nat.add_mul]; omega), splice_get b1, splice_get (by rw [List.flatMap_cons, List.length_append, hr, hvl]; omega)]
    rw [List.flatMap_cons, List.length_append, hr, hvl, Nat.add_mul]
    by_cases c1 : j * sz ≤ i ∧ i < j * sz + sz
    · rw [if_neg (by omega), if_pos c1, if_pos (by omega), List.getElem?_append_left (by omega)]
    · by_cases c2 : j * sz + sz ≤ i ∧ i < j * sz + sz + vs.length * sz
      · rw [if_pos (by omega), if_pos (by omega), List.getElem?_append_right (by omega), hvl]
        congr 1; omega
      · rw [if_neg (by omega), if_neg c1, if_neg (by omega)]

theorem zip_parts {ρ : Operand → Value} : ∀ (l : List (Nat × Operand)) (j : Nat), (l.map (·.1)) = (List.range' j l.length) →
    (l.map fun (i, x) => (i, ρ x)) = ((l.map fun x => ρ x.2).zipIdx j).map fun (v, i) => (i, v)
  | [], _, _ => rfl
  | (i, x) :: l, j, h => by
    simp only [List.map_cons, List.length_cons, List.range'_succ, List.cons.injEq] at h
    obtain ⟨rfl, h⟩ := h
    simp only [List.map_cons, List.zipIdx_cons]
    rw [zip_parts l (i + 1) h]

theorem buildSlice_ok {t e sz len : Nat} {parts : Array (Nat × Operand)} {zs : List PV} {ps : List PV} (ho : o.op = .buildSlice t len parts) (ht : tk P t = .sl e) (hsz : tsz P e = sz) (hpos : 0 < sz)
    (hz : zc P e = some zs) (hzl : zs.length = sz) (hord : (parts.toList.map (·.1)) = List.range' 0 parts.toList.length) (hlen : parts.toList.length = len) (hps : ps = parts.toList.map fun x => ins x.2)
    (hshape : ∀ p ∈ ps, p.shaped = true ∧ p.cells.length = sz) (hbig : len * sz ≤ 16777216) :
    LTrip P nid o ins S { p := .slt sz (ps.map PV.el) nid, tk := [(nid, true)], ok := ok } := by
  refine .of_run fun g S' ρ w hI hr _ _ hf => ?_
  obtain ⟨i, z, hi, hz', hn, ho1, hp1⟩ := zc_spec hz
  have hpl : ps.length = len := by rw [hps, List.length_map, hlen]
  have hrows := rows_rel (g := g) (sz := sz) (parts.toList.map fun x => ρ x.2) ps (by rw [hps]; simp) (by
    intro i v p hv hp
    refine ⟨?_, hshape p (List.mem_of_getElem? hp)⟩
    rw [hps, List.getElem?_map] at hp
    rw [List.getElem?_map] at hv
    cases hx : parts.toList[i]? with
    | none => rw [hx] at hp; cases hp
    | some x =>
      rw [hx] at hp hv; cases hp; cases hv
      have hm := List.mem_of_getElem? hx
      exact hr x.2 (by simp only [ho, Op.operands]; simp; exact ⟨x.1, by simpa using hm⟩))
  obtain ⟨r1, r2, r3, r4⟩ := hrows
  have hvl : ∀ v ∈ (parts.toList.map fun x => ρ x.2), v.cells.size = sz := by
    intro v hv
    rw [List.mem_map] at hv
    obtain ⟨x, hx, rfl⟩ := hv
    have hp : ins x.2 ∈ ps := by rw [hps]; exact List.mem_map_of_mem hx
    obtain ⟨s1, s2⟩ := hshape _ hp
    have hm : x.2 ∈ o.op.operands := by simp only [ho, Op.operands]; simp; exact ⟨x.1, by simpa using hx⟩
    have := ((hr _ hm).cells s1).1
    rw [this, s2]
  have hfl : (List.flatMap (fun v => v.cells.toList) (parts.toList.map fun x => ρ x.2)).length = len * sz := by rw [r2, hpl]
  let vals : Array Value := (List.flatMap (fun v => v.cells.toList) (parts.toList.map fun x => ρ x.2)).toArray
  have hvs : vals.size = len * sz := by
    show (List.flatMap (fun v => v.cells.toList) (parts.toList.map fun x => ρ x.2)).toArray.size = _
    rw [List.size_toArray, hfl]
  obtain ⟨g', h1, h2, h3, h4, -⟩ := mkRowOf (nid := nid) (e := e) (sz := sz) (n := len) (cap := len) (m := len * sz) (es := ps.map PV.el) (vals := vals) hI hf (Pushed.alloc w (.cells vals e (0, 0))) (by rw [List.length_map, hpl]) (Nat.le_refl _)
    (by unfold maxLen; have : len * 1 ≤ len * sz := Nat.mul_le_mul_left _ hpos; omega) r1 rfl (by simp [vals, hfl]) (fun i v hv => r3 v (List.mem_of_getElem? (by simpa [vals] using hv))) (fun i v p hv hp => r4 i v p (by simpa [vals] using hv) hp)
    (δ := { p := .slt sz (ps.map PV.el) nid, tk := [(nid, true)], ok := ok }) rfl ⟨[], rfl, by simp⟩
  refine ⟨_, g', _, .inl ?_, h1, h2, h3, h4⟩
  obtain ⟨m, hm⟩ : ∃ m, tsz P e = m + 1 := ⟨tsz P e - 1, by omega⟩
  have hbig' : ¬ (len * (m + 1) > 2 ^ 24) := by rw [← hm, hsz]; omega
  have hfill : Instr.fill (fun i => some (i * (m + 1), m + 1)) ((Array.range (len * (m + 1))).map (z.cells[· % z.cells.size]!)) (parts.map fun (i, x) => (i, ρ x)).toList = some vals := by
    rw [← hm, hsz, Array.toList_map, zip_parts parts.toList 0 hord]
    rw [fill_order _ 0 _ hvl (by simp [hlen])]
    congr 1
    apply Array.ext_getElem?
    intro i
    rw [splice_get (by simp [hfl]), Nat.zero_mul, hfl]
    by_cases hi' : i < len * sz
    · rw [if_pos (by omega)]; simp [vals]
    · rw [if_neg (by omega), Array.getElem?_eq_none (by simp; omega), Array.getElem?_eq_none (by rw [hvs]; omega)]
  have hzv : (zeroValue e).run P w = .ok z w := by simp [zeroValue, typeInfo, hi, hz']
  by_cases hl0 : len * (m + 1) = 0
  · simp only [execOp, ho, Instr.buildSlice, Sem.run_bind, run_underlying (tk_sl ht), Result.andThen_ok, run_sizeOf w hm, if_neg hbig', if_pos hl0, Sem.run_pure]
    have hl0' : len = 0 := by rcases Nat.mul_eq_zero.1 hl0 with h | h <;> omega
    have hfill' : Instr.fill (fun i => some (i * (m + 1), m + 1)) ((Array.range (len * (m + 1))).map ((#[] : Array Value)[· % (#[] : Array Value).size]!)) (parts.map fun (i, x) => (i, ρ x)).toList = some vals := by
      rw [← hfill]; congr 1
      subst hl0'; simp
    simp only [hfill', Go.newRow, Sem.run_bind, run_newObj, Result.andThen_ok, Sem.run_pure]
    rfl
  · simp only [execOp, ho, Instr.buildSlice, Sem.run_bind, run_underlying (tk_sl ht), Result.andThen_ok, run_sizeOf w hm, if_neg hbig', if_neg hl0, hzv, Sem.run_pure]
    simp only [hfill, Go.newRow, Sem.run_bind, run_newObj, Result.andThen_ok, Sem.run_pure]
    rfl

end
end Go.Pv
