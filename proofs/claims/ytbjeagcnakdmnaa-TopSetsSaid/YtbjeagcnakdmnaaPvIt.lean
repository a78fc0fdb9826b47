/- Abstract values: ranges over maps; slices of which only the length is known. Nothing of any program. -/
import Derived.Test.YtbjeagcnakdmnaaPvMp
set_option linter.unusedSimpArgs false
set_option linter.unusedVariables false
set_option linter.unusedSectionVars false
namespace Go.Pv
open Go.MapKept
open Go.ChangeMaps (setBlock)
variable [GTab]

/-! ### Blocks of which nothing is known -/
theorem storeJunk {g : Gh} {S : PS} {w w' : World} (hI : InvW g S w) {b m : Nat} (hj : g.h.j b = some m) {cur new : Array Value} {T : TypeId} {fr : Nat × Nat} (r : Rowed w w' b cur new T fr) (hs : new.size = cur.size)
    (ho : ∀ (i : Nat) (v : Value), new[i]? = some v → v.oneCell' = true) : InvW g S w' ∧ Ext g S w g S w' := by
  obtain ⟨⟨vals, T', fr', q1, q2, q3, q4⟩, q5, q6, q7⟩ := hI.jnk b m hj
  rw [r.old] at q1; cases q1
  refine ⟨⟨?_, ?_, hI.inj, ?_, hI.tokd, ?_, r.tys hs hI, hI.gl⟩, ⟨Gh.le_refl _, fun _ _ _ h => .inl h, fun _ _ _ h => h, by rw [r.size]; exact Nat.le_refl _, ?_, r.os, r.tape, r.output⟩⟩
  · intro b' o v h
    rw [r.cell_other (fun e => by subst e; rw [q5] at h; cases h)]
    exact hI.hw b' o v h
  · intro i qs hq
    obtain ⟨b2, h1, h2, h6⟩ := hI.objs i qs hq
    exact ⟨b2, h1, by rw [r.other b2 (fun e => q6 i (by simp [hq]) (by rw [← e]; exact h1))]; exact h2, h6⟩
  · intro k hk
    obtain ⟨b2, lo, hi, h1, h2⟩ := hI.toks k hk
    refine ⟨b2, lo, hi, h1, fun hl => ?_⟩
    obtain ⟨⟨vs, T', fr', h3, h4⟩, h5, h6⟩ := h2 hl
    refine ⟨⟨vs, T', fr', ?_, h4⟩, h5, h6⟩
    rw [r.other b2 (fun e => by have := q7 k lo hi hk (by rw [← e]; exact h1); omega)]
    exact h3
  · intro b' m' h
    obtain ⟨h1, h2⟩ := hI.jnk b' m' h
    refine ⟨?_, h2⟩
    by_cases e : b' = b
    · subst e
      rw [hj] at h; cases h
      exact ⟨new, T, fr, r.new, by rw [hs]; exact q2, by rw [hs]; exact q3, ho⟩
    · rw [r.other b' e]; exact h1
  · intro b2 _
    by_cases e : b2 = b
    · subst e
      exact .inr (.inr fun o => .inr (.inr (by rw [hj]; simp)))
    · rw [r.other b2 e]; exact .refl _ _

def Gh.jnk (g : Gh) (b m : Nat) : Gh := { g with h := { c := g.h.c, j := fun b' => if b' = b then some m else g.h.j b' } }

theorem newJunk {g : Gh} {S : PS} {w w' : World} (hI : InvW g S w) {vals : Array Value} {T : TypeId} {fr : Nat × Nat} (hfr : FrOk fr vals.size) (hp : Pushed w w' (.cells vals T fr))
    (ho : ∀ (i : Nat) (v : Value), vals[i]? = some v → v.oneCell' = true) : let g' := g.jnk w.heap.size vals.size; InvW g' S w' ∧ Ext g S w g' S w' ∧ g'.h.j w.heap.size = some vals.size := by
  intro g'
  have hjj : ∀ b, g'.h.j b = if b = w.heap.size then some vals.size else g.h.j b := fun _ => rfl
  have hle : g.le g' := ⟨⟨fun _ _ _ h => h, fun b m h => by rw [hjj, if_neg (fun e => by have := hI.jnk_lt h; omega)]; exact h⟩, fun _ _ h => h, fun _ _ h => h, fun _ _ h => h⟩
  refine ⟨⟨fun b o v h => cell_push hp.heap (hI.hw b o v h), ?_, hI.inj, ?_, hI.tokd, ?_, hI.tys_push hp.heap, hI.glm hle.h⟩, ⟨hle, fun _ _ _ h => .inl h, ?_, ?_, ?_, hp.os, hp.tape, hp.output⟩, by rw [hjj, if_pos rfl]⟩
  · intro i qs hq
    obtain ⟨b2, h1, h2, h6⟩ := hI.objs i qs hq
    exact ⟨b2, h1, by rw [heap_push_lt hp.heap h2.lt]; exact h2.mono hle, h6⟩
  · intro k hk
    obtain ⟨b2, lo, hi, h1, h2⟩ := hI.toks k hk
    refine ⟨b2, lo, hi, h1, fun hl => ?_⟩
    obtain ⟨⟨vs, T', fr', h3, h4⟩, h5, h6⟩ := h2 hl
    exact ⟨⟨vs, T', fr', by rw [heap_push_lt hp.heap (lt_of_heap h3)]; exact h3, h4⟩, h5, h6⟩
  · intro b m h
    rw [hjj] at h
    split at h
    · rename_i e; subst e; cases h
      refine ⟨⟨vals, T, fr, heap_push_eq hp.heap, hfr, rfl, ho⟩, fun o => ?_, fun id hid hb => ?_, fun k lo hi hk ht => ?_⟩
      · cases hx : g.h w.heap.size o with
        | none => exact hx
        | some v => have := hI.h_lt hx; omega
      · have := hI.obj_lt hid hb; omega
      · rcases Nat.eq_zero_or_pos hi with e | e
        · exact e
        · have := hI.tok_lt hk ht e; omega
    · obtain ⟨h1, h2⟩ := hI.jnk b m h
      exact ⟨by rw [heap_push_lt hp.heap (hI.jnk_lt h)]; exact h1, h2⟩
  · intro b o hb h
    rcases h with h | h | h
    · exact .inl h
    · exact .inr (.inl h)
    · refine .inr (.inr ?_)
      rw [hjj, if_neg (by omega)] at h
      exact h
  · rw [hp.heap]; simp
  · intro b hb; rw [heap_push_lt hp.heap hb]; exact .refl _ _

section
variable {P : Program} {nid : Nat} {o : Oper} {ins : Operand → PV} {S : PS} {ok : Prop}

/-- What stands in a slice of which only the length is known. -/
theorem slj_src {g : Gh} {S' : PS} {w : World} (hI : InvW g S' w) {v : Value} {n : Nat} (r : PRel g.h v (.slj n)) {xT e : Nat} (ht : tk P xT = .sl e) : ∃ news, Src P w xT 1 v n news := by
  have hu : P.underlying xT = some .string ∨ ∃ e, P.underlying xT = some (.slice e) := .inr ⟨_, tk_sl ht⟩
  cases r with
  | sljn => exact ⟨[], fun w' => by simp [Builtin.lenOf], fun w' _ => by simp [Builtin.firstCells], hu, by simp, by simp⟩
  | sljx a => exact ⟨[], fun w' => by simp [Builtin.lenOf], fun w' _ => by simp [Builtin.firstCells, loadCells, loadCellsFrom], hu, by simp, by simp⟩
  | slj b off n cap m hj hc hm ho =>
    obtain ⟨⟨vals, T, fr, q1, q2, q3, q4⟩, _⟩ := hI.jnk b m hj
    have hat : ∀ j, j < n → vals[off + j]? = some (vals.getD (off + j) undef) := by
      intro j hj
      have : off + j < vals.size := by omega
      rw [Array.getD_eq_getD_getElem?, Array.getElem?_eq_getElem this]; rfl
    refine ⟨(List.range n).map fun j => vals.getD (off + j) undef, fun w' => by simp [Builtin.lenOf], fun w' hw' => ?_, hu, by simp, ?_⟩
    · have := run_loadCells (P := P) w' ⟨b, off, none⟩ n (fun j => vals.getD (off + j) undef) (fun j hj => by
        rw [Addr.add_lit]
        have h1 : w'.heap[b]? = some (.cells vals T fr) := by rw [hw']; exact q1
        unfold World.cell?
        simp only [h1]
        exact hat j hj)
      simpa [Builtin.firstCells] using this
    · intro v hv
      rw [List.mem_map] at hv
      obtain ⟨j, hj, rfl⟩ := hv
      exact q4 _ _ (hat j (by simpa using hj))

/-- An append to such a slice, of whatever. -/
theorem append_junk {t xT e n m : Nat} {x y : Operand} {zs : List PV} (ho : o.op = .call { callee := .builtin .append, args := #[x, y], argTypes := #[t, xT] })
    (hx : ins x = .slj n ∨ (ins x = .sl0 1 ∧ n = 0)) (hy : ∀ (g : Gh) (S' : PS) (w : World) (v : Value), InvW g S' w → Rel g v (ins y) → ∃ news, Src P w xT 1 v m news) (ht : tk P t = .sl e) (hs : tsz P e = 1) (hz : zc P e = some zs) (hzl : zs.length = 1)
    (hlen : n + m ≤ maxLen) (hby : (n + m) * tby P e ≤ 140737488355328) : LTrip P nid o ins S { p := .slj (n + m), ok := ok } := by
  refine .of_run fun g S' ρ w hI hr _ hrt hf => ?_
  have e0 := hr x (by simp [ho, Op.operands, Call.operands])
  have e1 := hr y (by simp [ho, Op.operands, Call.operands])
  have hvr : PRel g.h (ρ x) (.slj n) := by
    rcases hx with hx | ⟨hx, hn0⟩
    · rw [hx] at e0; exact e0.slj_inv
    · rw [hx] at e0
      obtain ⟨b, off, hv⟩ := e0.sl0_inv
      rw [hv]
      subst hn0
      exact .sljx _
  obtain ⟨news, hsrc⟩ := hy g S' w (ρ y) hI e1
  obtain ⟨olds, hosrc⟩ := slj_src (P := P) hI hvr ht
  obtain ⟨a, cap, hv, hcap, hmax, hnone, hj⟩ := hvr.slj_view
  obtain ⟨zi, z, hi, hz', hn, ho1, hp1⟩ := zc_spec hz
  have hbi : tby P e = zi.bytes := by simp [tby, hi]
  have hzc : z.cells.size = 1 := by rw [hn, hzl]
  have hexec : ∀ r w', (Builtin.append_ #[t, xT] o.type #[ρ x, ρ y]).run P w = .ok r w' → (execOp ρ o).run P w = .ok (.value r) w' := by
    intro r w' h
    simp [execOp, ho, resolve, invoke, builtin, h]
  have hS : S'.app { p := .slj (n + m), ok := ok } = S' := by simp [PS.app]
  rw [hS]
  by_cases hroom : n + m ≤ cap
  · by_cases hm : m = 0
    · subst hm
      have hnn : news = [] := List.eq_nil_of_length_eq_zero (by simpa using hsrc.len)
      subst hnn
      refine ⟨_, g, w, .inl (hexec (ρ x) w ?_), hI, Ext.refl _ _ _, fun _ _ h => h, .pure _ _ hvr⟩
      by_cases hc0 : cap = 0
      · subst hc0
        have hn0 : n = 0 := by omega
        subst hn0
        rw [hv]
        cases a with
        | none => exact run_append_nil0 w ht hs (by decide) hsrc (Nat.le_refl _)
        | some a => exact run_append_x0 w ht hs (by decide) hsrc
      · obtain ⟨b, off, mm, rfl, _⟩ := hj hc0
        rw [hv]
        have hrun := run_append_room' (P := P) (ty := o.type) w ht hs (by decide) hsrc (g := b) (off := off) (n := n) (cap := cap) (cur := #[]) (T := 0) (fr := (0, 0)) (.inl rfl) hroom
        simpa using hrun
    · obtain ⟨b, off, mm, rfl, hjb, hle⟩ := hj (by omega)
      obtain ⟨⟨cur, T, fr, q1, q2, q3, q4⟩, _⟩ := hI.jnk b mm hjb
      have hnl := hsrc.len
      have hfit : off + n * 1 + news.length ≤ cur.size := by omega
      have hrun := run_append_room' (P := P) (ty := o.type) w ht hs (by decide) hsrc (g := b) (off := off) (n := n) (cap := cap) (cur := cur) (T := T) (.inr ⟨q1, q2, hfit⟩) hroom
      rw [if_neg hm] at hrun
      obtain ⟨h1, h2⟩ := storeJunk hI hjb (Rowed.setRow w q1) (splice_size hfit) (fun i v hv' => by
        rw [splice_get hfit] at hv'
        split at hv'
        · exact hsrc.one _ (List.mem_of_getElem? hv')
        · exact q4 i v hv')
      exact ⟨_, g, _, .inl (hexec _ _ (by rw [hv]; exact hrun)), h1, h2, fun _ _ h => h, .pure _ _ (.slj b off (n + m) cap mm hjb hroom hmax hle)⟩
  · have hgr := run_append_grow' (P := P) (ty := o.type) w ht hs (by decide) hsrc hi hz' (a := a) (n := n) (cap := cap) (olds := olds) (fun w' hw' => by have := hosrc.hf w' hw'; rw [hv] at this; exact this) (by omega) hlen (by rw [← hbi]; exact hby)
    have hge := grownCap_ge w (n + m) cap e
    have hsize : (olds.toArray ++ news.toArray ++ Builtin.zeroCells z.cells (grownCap w (n + m) cap e - (n + m))).size = grownCap w (n + m) cap e := by
      have h1 := hosrc.len
      have h2 := hsrc.len
      simp only [Array.size_append, List.size_toArray, zeroCells_size, h1, h2, hzc]
      omega
    obtain ⟨h1, h2, h3⟩ := newJunk hI (FrOk.zero _) (Pushed.drew_alloc w (.cells (olds.toArray ++ news.toArray ++ Builtin.zeroCells z.cells (grownCap w (n + m) cap e - (n + m))) e)) (fun i v hv' => by
      rw [Array.getElem?_append] at hv'
      split at hv'
      · rw [List.append_toArray, List.getElem?_toArray] at hv'
        exact (List.mem_append.1 (List.mem_of_getElem? hv')).elim (hosrc.one v) (hsrc.one v)
      · exact zeroCells_one ho1 _ _ v hv')
    refine ⟨_, _, _, .inl (hexec _ _ (by rw [hv]; exact hgr)), h1, h2, fun j hj h => h, .pure _ _ ?_⟩
    refine .slj _ 0 (n + m) _ _ h3 hge (grownCap_le_maxLen w _ _ e hlen) ?_
    rw [hsize]; omega

theorem src_apd {xT sz : Nat} {q : PV} {fs : List PV} (hy : q.apd sz = some fs) (hT : apdT P xT q) (g : Gh) (S' : PS) (w : World) (v : Value) (hI : InvW g S' w) (r : Rel g v q) : ∃ news, Src P w xT sz v fs.length news := by
  obtain ⟨⟨news, hsrc, _⟩, _⟩ := apd_src (P := P) hI r hy hT
  exact ⟨news, hsrc⟩
theorem src_slj {xT e n : Nat} {q : PV} (hq : q = .slj n) (ht : tk P xT = .sl e) (g : Gh) (S' : PS) (w : World) (v : Value) (hI : InvW g S' w) (r : Rel g v q) : ∃ news, Src P w xT 1 v n news := by
  rw [hq] at r
  exact slj_src hI r.slj_inv ht

/-! ### Ranges over maps -/
/-- What may be ranged over: a map that stays; none. -/
def rngPV : PV → Option (List (PV × PV))
  | .nilm => some []
  | .mpure es => some es
  | _ => none
theorem leftOf_nil (ents : Array MapEntry) : leftOf ents #[] = ents := by
  unfold leftOf
  rw [Array.filter_eq_self]
  intro a _
  simp
theorem range_ok {t kt et : TypeId} {x : Operand} {es : List (PV × PV)} (h : o.op = .range t x) (ht : tk P t = .map kt et) (hx : rngPV (ins x) = some es) :
    LTrip P nid o ins S { p := .iref nid, wr := [(nid, some [.tup [], .mobj es])], ok := ok } := by
  refine .of_run fun g S' ρ w hI hr _ _ hf => ?_
  have e0 := hr x (by simp [h, Op.operands])
  have hu := tk_map ht
  have fin : ∀ (it : Obj), (Instr.range t (ρ x)).run P w = .ok (.pointer (some ⟨w.heap.size, 0, none⟩)) (w.alloc it) → IsIter g.h (some it) [.tup [], .mobj es] →
      ∃ v g' w', ((execOp ρ o).run P w = .ok (.value v) w' ∨ ((execOp ρ o).run P w = .ok .skip w' ∧ v = undef)) ∧ InvW g' (S'.app { p := .iref nid, wr := [(nid, some [.tup [], .mobj es])], ok := ok }) w' ∧
        Ext g S' w g' (S'.app { p := .iref nid, wr := [(nid, some [.tup [], .mobj es])], ok := ok }) w' ∧ (∀ j, j ≠ nid → Fresh g j → Fresh g' j) ∧ Rel g' v (.iref nid) := by
    intro it hrun hit
    obtain ⟨h1, h2, h3, h4⟩ := newObjBox hI hf (Pushed.alloc w it) (.inr hit) (δ := { p := .iref nid, wr := [(nid, some [.tup [], .mobj es])], ok := ok }) rfl rfl
    exact ⟨_, _, _, .inl (by simp [execOp, h, hrun]), h1, h2, h3, .iref nid _ h4⟩
  cases hq : ins x <;> rw [hq] at hx e0 <;> simp only [rngPV] at hx <;> try (cases hx; done)
  · cases hx
    rw [e0.nilm_inv] at fin
    exact fin (.mapIter none 0 #[] 0) (by simp [Instr.range, run_underlying hu]) ⟨[], [], _, _, rfl, .inl rfl, .inl rfl, .inl ⟨rfl, rfl, rfl⟩⟩
  · cases hx
    obtain ⟨b, ents, c, hv, hh, hm, hhb⟩ := hI.pureAt e0.mpure_inv
    rw [hv] at fin
    refine fin (.mapIter (some b) c #[] c) (by simp [Instr.range, run_underlying hu, MapKept.run_getObj_map hh]) ⟨[], es, _, _, rfl, .inl rfl, .inl rfl, .inr ⟨b, ents, c, #[], rfl, hhb, hm.1, ?_, .inl rfl⟩⟩
    rw [leftOf_nil]; exact hm.ent

theorem InvW.iterAt {g : Gh} {S : PS} {w : World} (hI : InvW g S w) {id b : Nat} {cur : List PV} {es : List (PV × PV)} (ho : S.obj id = some [.tup cur, .mobj es]) (hb : g.blk id = some b) : IterAt g.h w.heap[b]? cur es := by
  obtain ⟨b', h1, h2, _⟩ := hI.objs id _ ho
  rw [hb] at h1; cases h1
  exact iterAt_of h2
theorem InvW.iterAt' {g : Gh} {S : PS} {w : World} (hI : InvW g S w) {id b : Nat} {p : PV} {es : List (PV × PV)} (ho : S.obj id = some [p, .mobj es]) (hb : g.blk id = some b) : ∃ cur, IterAt g.h w.heap[b]? cur es := by
  obtain ⟨b', h1, h2, _⟩ := hI.objs id _ ho
  rw [hb] at h1; cases h1
  rcases h2 with ⟨vals, T, fr, a, _, c, d, e⟩ | ⟨es', ents, c, h4, h5, h6⟩ | ⟨cur', es', p0, p1, h, h1, h2, h3⟩
  · have hlt : 1 < vals.size := by have := c; simp at this; omega
    exact (e 1 vals[1] (.mobj es) (by simp [hlt]) rfl).mobj_inv.elim
  · rcases h4 with h4 | h4 <;> cases h4
  · cases h
    rcases h2 with h2 | h2 <;> cases h2
    exact ⟨cur', h3⟩

/-- The key and the value that came last. -/
theorem entry_ok {it : Operand} {id : Nat} {k v : PV} {es : List (PV × PV)} (h : o.op = .entry it) (hx : ins it = .iref id) (hob : S.obj id = some [.tup [k, v], .mobj es]) :
    LTrip P nid o ins S { p := .tup [k, v], rdB := [id], ok := ok } := by
  refine .still fun g S' ρ w hI hr hb => ?_
  have e0 := hr it (by simp [h, Op.operands])
  rw [hx] at e0
  obtain ⟨b, hb1, hv⟩ := e0.iref_inv
  have hi := hI.iterAt ((hb id (by simp)).trans hob) hb1
  rcases hi with ⟨_, h1, _⟩ | ⟨bm, ents, c, seen, h1, h2, h3, h4, h5⟩
  · cases h1
  · rcases h5 with h5 | ⟨e, k', v', h5, h6, h7, h8, h9⟩
    · cases h5
    · cases h5
      obtain ⟨seen', rfl⟩ := Array.back?_eq_some_iff.1 h6
      have hrun := run_entry_at (P := P) w b bm c seen' ents c e h1 (wcell_ents (hI.hw bm 0 _ h2)) h7 h3.2
      refine ⟨_, by simp only [execOp, h, hv]; simp [hrun]; rfl, .tup _ _ rfl fun i u p hu hp => ?_⟩
      match i, hu, hp with
      | 0, hu, hp => cases hu; cases hp; exact .pure _ _ h8
      | 1, hu, hp => cases hu; cases hp; exact .pure _ _ h9
      | i + 2, hu, hp => simp at hp

/-- Nothing is left. -/
theorem next_end {it : Operand} {id : Nat} {p : PV} (h : o.op = .next it false) (hx : ins it = .iref id) (hob : S.obj id = some [p, .mobj []]) :
    LTrip P nid o ins S { p := .tup [.bool false], rdB := [id], ok := ok } := by
  refine .still fun g S' ρ w hI hr hb => ?_
  have e0 := hr it (by simp [h, Op.operands])
  rw [hx] at e0
  obtain ⟨b, hb1, hv⟩ := e0.iref_inv
  obtain ⟨cur, hi⟩ := hI.iterAt' ((hb id (by simp)).trans hob) hb1
  have fin : (Instr.next (.pointer (some ⟨b, 0, none⟩)) false o.type).run P w = .ok (.tuple #[.bool false]) w → ∃ v, (execOp ρ o).run P w = .ok (.value v) w ∧ Rel g v (.tup [.bool false]) := by
    intro hrun
    refine ⟨_, by simp only [execOp, h, hv]; simp [hrun]; rfl, .tup _ _ rfl fun i u p hu hp => ?_⟩
    match i, hu, hp with
    | 0, hu, hp => cases hu; cases hp; exact .pure _ _ (.bool _)
    | i + 1, hu, hp => simp at hp
  rcases hi with ⟨h1, _, _⟩ | ⟨bm, ents, c, seen, h1, h2, h3, ⟨es', h4, h5, _⟩, _⟩
  · exact fin (by simp [Instr.next, getObj, Sem.run, h1])
  · have hl : (leftOf ents seen).size = 0 := by rw [h5, h4.length_eq]; rfl
    rcases run_next_at (P := P) w o.type b bm c c seen ents c h1 (wcell_ents (hI.hw bm 0 _ h2)) h3.1 (Nat.le_refl _) with ⟨_, hrun⟩ | ⟨e, he, _⟩
    · exact fin hrun
    · have : leftOf ents seen = #[] := Array.eq_empty_of_size_eq_zero hl
      rw [this] at he; cases he
/-! What is left of a range behind a step. -/
theorem filter_born_eq : ∀ {l : List MapEntry} {j : Nat} {e : MapEntry}, (l.map (·.born)).Nodup → l[j]? = some e → l.filter (fun x => x.born != e.born) = l.eraseIdx j
  | [], _, _, _, h => by simp at h
  | a :: l, 0, e, hn, h => by
    cases h
    rw [List.map_cons, List.nodup_cons] at hn
    rw [List.filter_cons, if_neg (by simp), List.eraseIdx_cons_zero, List.filter_eq_self]
    intro x hx
    have : x.born ≠ a.born := fun e => hn.1 (by rw [← e]; exact List.mem_map.2 ⟨x, hx, rfl⟩)
    simpa using this
  | a :: l, j + 1, e, hn, h => by
    rw [List.map_cons, List.nodup_cons] at hn
    have he : l[j]? = some e := by simpa using h
    have : a.born ≠ e.born := fun e' => hn.1 (by rw [e']; exact List.mem_map.2 ⟨e, List.mem_of_getElem? he, rfl⟩)
    rw [List.filter_cons, if_pos (by simpa using this), List.eraseIdx_cons_succ, filter_born_eq hn.2 he]
theorem leftOf_push (ents : Array MapEntry) (seen : Array Nat) (b : Nat) : (leftOf ents (seen.push b)).toList = (leftOf ents seen).toList.filter (fun x => x.born != b) := by
  unfold leftOf
  rw [Array.toList_filter, Array.toList_filter, List.filter_filter]
  congr 1
  funext x
  rw [Array.contains_push]
  cases h : seen.contains x.born <;> cases h2 : (x.born == b) <;> simp_all
theorem left_ent {h : HMap} {ents : Array MapEntry} {c : Nat} (hw : WB ents c) {seen : Array Nat} {es : List (PV × PV)} (hr : EntRel h (leftOf ents seen) es) {e : MapEntry} (he : e ∈ (leftOf ents seen).toList) :
    ∃ k v rest, es.Perm ((k, v) :: rest) ∧ PRel h e.key k ∧ PRel h e.val v ∧ EntRel h (leftOf ents (seen.push e.born)) rest := by
  obtain ⟨es', h1, h2, h3, h4⟩ := hr
  obtain ⟨j, hj⟩ := List.mem_iff_getElem?.1 he
  have hjlt := (List.getElem?_eq_some_iff.1 hj).1
  have hjl : j < es'.length := by rw [← h2]; simpa using hjlt
  have hq : es'[j]? = some es'[j] := List.getElem?_eq_getElem hjl
  have hj' : (leftOf ents seen)[j]? = some e := by rw [← Array.getElem?_toList]; exact hj
  have hn : ((leftOf ents seen).toList.map (·.born)).Nodup := by
    unfold leftOf
    rw [Array.toList_filter]
    exact (List.filter_sublist.map _).nodup hw.2
  have hp := leftOf_push ents seen e.born
  rw [filter_born_eq hn hj] at hp
  refine ⟨es'[j].1, es'[j].2, es'.eraseIdx j, h1.symm.trans ?_, h3 j e _ hj' hq, h4 j e _ hj' hq, es'.eraseIdx j, List.Perm.refl _, ?_, ?_, ?_⟩
  · rw [List.eraseIdx_eq_take_drop_succ]
    have := split_at hq
    conv => lhs; rw [this]
    exact List.perm_middle
  · have := congrArg List.length hp
    rw [Array.length_toList, List.length_eraseIdx, if_pos hjlt, Array.length_toList, h2] at this
    rw [this, List.length_eraseIdx, if_pos hjl]
  · intro i x q hx hq'
    rw [← Array.getElem?_toList, hp, List.getElem?_eraseIdx] at hx
    rw [List.getElem?_eraseIdx] at hq'
    split at hx
    · rename_i hij; rw [if_pos hij] at hq'; exact h3 i x q (by rw [← Array.getElem?_toList]; exact hx) hq'
    · rename_i hij; rw [if_neg hij] at hq'; exact h3 _ x q (by rw [← Array.getElem?_toList]; exact hx) hq'
  · intro i x q hx hq'
    rw [← Array.getElem?_toList, hp, List.getElem?_eraseIdx] at hx
    rw [List.getElem?_eraseIdx] at hq'
    split at hx
    · rename_i hij; rw [if_pos hij] at hq'; exact h4 i x q (by rw [← Array.getElem?_toList]; exact hx) hq'
    · rename_i hij; rw [if_neg hij] at hq'; exact h4 _ x q (by rw [← Array.getElem?_toList]; exact hx) hq'

theorem next_step {g : Gh} {S : PS} {w : World} (hI : InvW g S w) {id b : Nat} {p0 : PV} {es : List (PV × PV)} (hob : S.obj id = some [p0, .mobj es]) (hb : g.blk id = some b) (ty : TypeId) :
    (es = [] ∧ (Instr.next (.pointer (some ⟨b, 0, none⟩)) false ty).run P w = .ok (.tuple #[.bool false]) w) ∨
    ∃ k v rest kv vv w', es.Perm ((k, v) :: rest) ∧ (Instr.next (.pointer (some ⟨b, 0, none⟩)) false ty).run P w = .ok (.tuple #[.bool true, kv, vv]) w' ∧ PRel g.h kv k ∧ PRel g.h vv v ∧
      ∀ δ : Dl, δ.wr = [(id, some [.tup [k, v], .mobj rest])] → δ.tk = [] → InvW g (S.app δ) w' ∧ Ext g S w g (S.app δ) w' := by
  obtain ⟨cur, hi⟩ := hI.iterAt' hob hb
  rcases hi with ⟨h1, _, h2⟩ | ⟨bm, ents, c, seen, h1, h2, h3, h4, _⟩
  · exact .inl ⟨h2, by simp [Instr.next, getObj, Sem.run, h1]⟩
  · rcases run_next_at (P := P) w ty b bm c c seen ents c h1 (wcell_ents (hI.hw bm 0 _ h2)) h3.1 (Nat.le_refl _) with ⟨hl, hrun⟩ | ⟨e, he, w1, hw1, hrun⟩
    · refine .inl ⟨?_, hrun⟩
      obtain ⟨es', h5, h6, _⟩ := h4
      rw [hl] at h6
      have : es' = [] := List.eq_nil_of_length_eq_zero h6.symm
      subst this
      exact h5.symm.eq_nil
    · obtain ⟨k, v, rest, q1, q2, q3, q4⟩ := left_ent h3 h4 he
      refine .inr ⟨k, v, rest, e.key, e.val, _, q1, hrun, q2, q3, fun δ hwr htk => ?_⟩
      have hmem := (mem_left he).1
      have hit : IsIter g.h (some (.mapIter (some bm) c (seen.push e.born) c)) [.tup [k, v], .mobj rest] :=
        ⟨[k, v], rest, _, _, rfl, .inl rfl, .inl rfl, .inr ⟨bm, ents, c, seen.push e.born, rfl, h2, h3, q4, .inr ⟨e, k, v, rfl, by simp, hmem, q2, q3⟩⟩⟩
      have hh : (setBlock w1 b (.mapIter (some bm) c (seen.push e.born) c)).heap = w.heap.setIfInBounds b (.mapIter (some bm) c (seen.push e.born) c) := by rcases hw1 with rfl | rfl <;> rfl
      exact storeObj hI (fun _ _ _ e => by cases e) hob hb h1 hh (by rcases hw1 with rfl | rfl <;> rfl) (by rcases hw1 with rfl | rfl <;> rfl) (by rcases hw1 with rfl | rfl <;> first | exact ⟨rfl, Nat.le_refl _⟩ | exact ⟨rfl, Nat.le_succ _⟩) (.inr hit) hwr htk
end
end Go.Pv
