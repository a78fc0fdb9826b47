/- Abstract values: maps. Nothing of any program. -/
import Derived.Test.YtbjeagcnakdmnaaPvNe
import Derived.MapKept
import Derived.DeepKeys3
set_option linter.unusedSimpArgs false
set_option linter.unusedVariables false
set_option linter.unusedSectionVars false
namespace Go.Pv
open Go.MapKept
variable [GTab]

/-! Keys, and what a map of abstract values holds. -/
def keyIs1 : PV → PV → Bool
  | .int k a, .int k' b => decide (k = k') && decide (a = b)
  | .str a, .str b => decide (a = b)
  | .bool a, .bool b => a == b
  | _, _ => false
def keysIs : List PV → List PV → Bool
  | [], [] => true
  | p :: ps, q :: qs => keyIs1 p q && keysIs ps qs
  | _, _ => false
def keyIs : PV → PV → Bool
  | .agg ps, .agg qs => keysIs ps qs
  | p, q => keyIs1 p q
/-- The value of a key. -/
def toVk : PV → Value
  | .agg ps => .agg (ps.map toV).toArray
  | p => toV p
def keyd : PV → Bool
  | .agg ps => scals ps
  | p => scal p

theorem keyIs1_iff {p q : PV} (hp : scal p = true) : keyIs1 p q = true ↔ p = q := by
  cases p <;> first | exact (Bool.false_ne_true hp).elim | skip
  · cases q <;> first | (exact ⟨fun h => (Bool.false_ne_true h).elim, fun h => by cases h⟩) | skip
    rename_i a b
    show (a == b) = true ↔ _
    simp
  · cases q <;> first | (exact ⟨fun h => (Bool.false_ne_true h).elim, fun h => by cases h⟩) | skip
    rename_i k a k' b
    show (decide (k = k') && decide (a = b)) = true ↔ _
    simp
  · cases q <;> first | (exact ⟨fun h => (Bool.false_ne_true h).elim, fun h => by cases h⟩) | skip
    rename_i a b
    show decide (a = b) = true ↔ _
    simp
theorem keysIs_iff : ∀ {ps qs : List PV}, scals ps = true → (keysIs ps qs = true ↔ ps = qs)
  | [], [], _ => by simp [keysIs]
  | [], _ :: _, _ => by simp [keysIs]
  | _ :: _, [], _ => by simp [keysIs]
  | p :: ps, q :: qs, h => by
    simp only [scals, Bool.and_eq_true] at h
    simp [keysIs, keyIs1_iff h.1, keysIs_iff h.2]
theorem keyIs_iff {p q : PV} (hp : keyd p = true) : keyIs p q = true ↔ p = q := by
  unfold keyIs
  split
  · simp [keysIs_iff (show scals _ = true from hp)]
  · rename_i h
    cases p with
    | agg ps => cases q <;> first | exact (h _ _ rfl rfl).elim | simp [keyIs1]
    | _ => exact keyIs1_iff hp
theorem toV_inj {p q : PV} (hp : scal p = true) (hq : scal q = true) (h : toV p = toV q) : p = q := by
  cases p <;> first | exact (Bool.false_ne_true hp).elim | skip
  all_goals
    cases q <;> first | exact (Bool.false_ne_true hq).elim | skip
  · have h : Value.bool _ = Value.bool _ := h
    cases h; rfl
  · cases (show Value.bool _ = Value.int _ _ from h)
  · cases (show Value.bool _ = Value.string _ from h)
  · cases (show Value.int _ _ = Value.bool _ from h)
  · have h : Value.int _ _ = Value.int _ _ := h
    cases h; rfl
  · cases (show Value.int _ _ = Value.string _ from h)
  · cases (show Value.string _ = Value.bool _ from h)
  · cases (show Value.string _ = Value.int _ _ from h)
  · have h : Value.string _ = Value.string _ := h
    cases h; rfl
theorem toVs_inj : ∀ {ps qs : List PV}, scals ps = true → scals qs = true → ps.map toV = qs.map toV → ps = qs
  | [], [], _, _, _ => rfl
  | [], _ :: _, _, _, h => by simp at h
  | _ :: _, [], _, _, h => by simp at h
  | p :: ps, q :: qs, h1, h2, h => by
    simp only [scals, Bool.and_eq_true] at h1 h2
    simp only [List.map_cons, List.cons.injEq] at h
    rw [toV_inj h1.1 h2.1 h.1, toVs_inj h1.2 h2.2 h.2]
theorem toVk_inj {p q : PV} (hp : keyd p = true) (hq : keyd q = true) (h : toVk p = toVk q) : p = q := by
  have hs : ∀ {p : PV} {ps : List PV}, scal p = true → toV p ≠ .agg (ps.map toV).toArray := by
    intro p ps h1 h2
    cases p <;> first | exact (Bool.false_ne_true h1).elim | skip
    · cases (show Value.bool _ = Value.agg _ from h2)
    · cases (show Value.int _ _ = Value.agg _ from h2)
    · cases (show Value.string _ = Value.agg _ from h2)
  by_cases ha : ∃ ps, p = .agg ps <;> by_cases hb : ∃ qs, q = .agg qs
  · obtain ⟨ps, rfl⟩ := ha
    obtain ⟨qs, rfl⟩ := hb
    simp only [toVk, Value.agg.injEq, List.toArray_inj] at h
    rw [toVs_inj hp hq (by simpa using h)]
  · obtain ⟨ps, rfl⟩ := ha
    have e : toVk q = toV q := by cases q <;> first | rfl | exact absurd ⟨_, rfl⟩ hb
    have e2 : keyd q = scal q := by cases q <;> first | rfl | exact absurd ⟨_, rfl⟩ hb
    rw [e] at h; rw [e2] at hq
    exact absurd h.symm (hs hq)
  · obtain ⟨qs, rfl⟩ := hb
    have e : toVk p = toV p := by cases p <;> first | rfl | exact absurd ⟨_, rfl⟩ ha
    have e2 : keyd p = scal p := by cases p <;> first | rfl | exact absurd ⟨_, rfl⟩ ha
    rw [e] at h; rw [e2] at hp
    exact absurd h (hs hp)
  · have e : ∀ {q : PV}, (¬ ∃ qs, q = .agg qs) → toVk q = toV q ∧ keyd q = scal q := fun {q} hb => by cases q <;> first | exact ⟨rfl, rfl⟩ | exact absurd ⟨_, rfl⟩ hb
    rw [(e ha).1, (e hb).1] at h
    rw [(e ha).2] at hp; rw [(e hb).2] at hq
    exact toV_inj hp hq h
theorem key_rel {g : Gh} {v : Value} {p : PV} (r : Rel g v p) (h : keyd p = true) : v = toVk p := by
  by_cases ha : ∃ ps, p = .agg ps
  · obtain ⟨ps, rfl⟩ := ha
    exact aggs_rel r h
  · have e : ∀ {q : PV}, (¬ ∃ qs, q = .agg qs) → toVk q = toV q ∧ keyd q = scal q := fun {q} hb => by cases q <;> first | exact ⟨rfl, rfl⟩ | exact absurd ⟨_, rfl⟩ hb
    rw [(e ha).1]; rw [(e ha).2] at h
    exact scal_rel r h

theorem scal_weak {p : PV} (h : scal p = true) : p.weak = p := by
  cases p <;> first | exact (Bool.false_ne_true h).elim | rfl
theorem scals_weak : ∀ {ps : List PV}, scals ps = true → ps.map PV.weak = ps
  | [], _ => rfl
  | p :: ps, h => by
    simp only [scals, Bool.and_eq_true] at h
    rw [List.map_cons, scal_weak h.1, scals_weak h.2]
theorem key_el {p : PV} (h : keyd p = true) : p.el = p := by
  by_cases ha : ∃ ps, p = .agg ps
  · obtain ⟨ps, rfl⟩ := ha
    show PV.agg (ps.map PV.weak) = _
    rw [scals_weak h]
  · have e : p.el = p.weak ∧ keyd p = scal p := by cases p <;> first | exact ⟨rfl, rfl⟩ | exact absurd ⟨_, rfl⟩ ha
    rw [e.2] at h
    rw [e.1, scal_weak h]
def mget : List (PV × PV) → PV → Option PV
  | [], _ => none
  | q :: es, k => match keyIs k q.1 with | true => some q.2 | false => mget es k
def mgetD (es : List (PV × PV)) (k d : PV) : PV := match mget es k with | some q => q | none => d
def mhas (es : List (PV × PV)) (k : PV) : Bool := (mget es k).isSome
def mdel (es : List (PV × PV)) (k : PV) : List (PV × PV) := es.filter fun q => !keyIs k q.1
def mset (es : List (PV × PV)) (k v : PV) : List (PV × PV) := (k, v) :: mdel es k

theorem mget_none {es : List (PV × PV)} {k : PV} (hk : keyd k = true) (h : ∀ q ∈ es, q.1 ≠ k) : mget es k = none := by
  induction es with
  | nil => rfl
  | cons q es ih =>
    have : keyIs k q.1 = false := by
      cases hh : keyIs k q.1 with
      | false => rfl
      | true => exact absurd ((keyIs_iff hk).1 hh).symm (h q (List.mem_cons_self ..))
    simp only [mget, this]
    exact ih fun q hq => h q (List.mem_cons_of_mem _ hq)
theorem mget_some {es : List (PV × PV)} {k v : PV} (hk : keyd k = true) (hn : (es.map Prod.fst).Nodup) (h : (k, v) ∈ es) : mget es k = some v := by
  induction es with
  | nil => cases h
  | cons q es ih =>
    rw [List.map_cons, List.nodup_cons] at hn
    rcases List.mem_cons.1 h with rfl | h
    · have : keyIs k k = true := (keyIs_iff hk).2 rfl
      simp only [mget, this]
    · have : keyIs k q.1 = false := by
        cases hh : keyIs k q.1 with
        | false => rfl
        | true => exact absurd (by rw [← (keyIs_iff hk).1 hh]; exact List.mem_map.2 ⟨_, h, rfl⟩) hn.1
      simp only [mget, this]
      exact ih hn.2 h
theorem mdel_none {es : List (PV × PV)} {k : PV} (hk : keyd k = true) (h : ∀ q ∈ es, q.1 ≠ k) : mdel es k = es := by
  unfold mdel
  rw [List.filter_eq_self]
  intro q hq
  cases hh : keyIs k q.1 with
  | false => rfl
  | true => exact absurd ((keyIs_iff hk).1 hh).symm (h q hq)
theorem split_at {α : Type} {l : List α} {i : Nat} {x : α} (h : l[i]? = some x) : l = l.take i ++ x :: l.drop (i + 1) := by
  have hi := (List.getElem?_eq_some_iff.1 h).1
  have e : l[i] = x := (List.getElem?_eq_some_iff.1 h).2
  rw [← e, List.getElem_cons_drop, List.take_append_drop]
theorem mdel_at {es : List (PV × PV)} {k v : PV} {i : Nat} (hk : keyd k = true) (hn : (es.map Prod.fst).Nodup) (h : es[i]? = some (k, v)) : mdel es k = es.take i ++ es.drop (i + 1) := by
  have hs := split_at h
  have hn' := hn
  rw [hs, List.map_append, List.map_cons, List.nodup_append] at hn'
  obtain ⟨h1, h2, h3⟩ := hn'
  rw [List.nodup_cons] at h2
  have hkk : keyIs k k = true := (keyIs_iff hk).2 rfl
  have hT : ∀ q ∈ es.take i, q.1 ≠ k := fun q hq e => h3 q.1 (List.mem_map.2 ⟨q, hq, rfl⟩) k (List.mem_cons_self ..) e
  have hD : ∀ q ∈ es.drop (i + 1), q.1 ≠ k := fun q hq e => h2.1 (by rw [← e]; exact List.mem_map.2 ⟨q, hq, rfl⟩)
  have e1 := mdel_none hk hT
  have e2 := mdel_none hk hD
  unfold mdel at e1 e2 ⊢
  conv => lhs; rw [hs]
  rw [List.filter_append, List.filter_cons, hkk]
  simp only [Bool.not_true, Bool.false_eq_true, if_false]
  rw [e1, e2]
theorem mdel_nodup {es : List (PV × PV)} (k : PV) (hn : (es.map Prod.fst).Nodup) : ((mdel es k).map Prod.fst).Nodup :=
  (List.filter_sublist.map _).nodup hn
theorem mset_nodup {es : List (PV × PV)} {k : PV} (v : PV) (hk : keyd k = true) (hn : (es.map Prod.fst).Nodup) : ((mset es k v).map Prod.fst).Nodup := by
  rw [mset, List.map_cons, List.nodup_cons]
  refine ⟨fun h => ?_, mdel_nodup k hn⟩
  obtain ⟨q, hq, e⟩ := List.mem_map.1 h
  have := (List.mem_filter.1 hq).2
  have hkk : keyIs k q.1 = true := (keyIs_iff hk).2 e.symm
  rw [hkk] at this; cases this
/-! The types of keys. -/
structure KLaw (P : Program) (k : TypeId) (okk : PV → Prop) : Prop where
  keyd : ∀ p, okk p → keyd p = true
  check : ∀ (w : World) (em : Bool) p, okk p → (Instr.checkKey em 10000 k (toVk p)).run P w = .ok () w
  find : ∀ (w : World) p, okk p → ∀ es : List MapEntry, (∀ e ∈ es, ∃ q, okk q ∧ e.key = toVk q) →
    ((Instr.findKey k (toVk p) es).run P w = .ok none w ∧ ∀ e ∈ es, e.key ≠ toVk p) ∨ ∃ j e, (Instr.findKey k (toVk p) es).run P w = .ok (some (j, e.val)) w ∧ es[j]? = some e ∧ e.key = toVk p
  stays : ∀ (w : World) p, okk p → (Instr.keyThatStays (toVk p) (toVk p)).run P w = .ok (toVk p) w

/-- A struct that is a key of that type. -/
def kOkS (P : Program) (k : TypeId) (ps : List PV) : Bool := scals ps && (keyOf P k (toVk (.agg ps))).isSome
def kTyS (P : Program) (k : TypeId) : Bool := P.keyTypeAt 12 k && P.tiled 12 k
/-- A key of that type. -/
def kOk (P : Program) (k : TypeId) (p : PV) : Bool :=
  match tk P k, p with
  | .st, .agg ps => kOkS P k ps
  | .int kd, .int kd' _ => decide (kd' = kd)
  | .str, .str _ => true
  | .bool, .bool _ => true
  | _, _ => false
/-- .. a type of such keys. -/
def kTy (P : Program) (k : TypeId) : Bool :=
  match tk P k with
  | .int _ | .str | .bool => true
  | .st => kTyS P k
  | _ => false

theorem scalar_law {P : Program} {k : TypeId} {d : TypeDesc} (hd : P.underlying k = some d) {okk : PV → Prop} (h1 : ∀ p, okk p → keyd p = true) (h2 : ∀ p, okk p → IsKey d (toVk p)) : KLaw P k okk where
  keyd := h1
  check := fun w em p hp => run_checkKey hd (h2 p hp) em 9999
  find := fun w p hp es hes => by
    rcases findNow_spec (h2 p hp) es 0 (fun x hx => by obtain ⟨q, hq, e⟩ := hes x hx; rw [e]; exact h2 q hq) with ⟨a, b⟩ | ⟨j, e, a, b, c⟩
    · exact .inl ⟨run_findKey hd a, b⟩
    · exact .inr ⟨j, e, by simpa using run_findKey (w := w) hd a, b, c⟩
  stays := fun w p hp => run_keyThatStays (d := d) (h2 p hp)

theorem tk_st' {P : Program} {k : TypeId} (h : tk P k = .st) : ∃ fs, P.underlying k = some (.struct fs) := by
  unfold tk at h
  split at h <;> try (cases h; done)
  rename_i fs e
  exact ⟨fs, e⟩
theorem struct_law {P : Program} {k : TypeId} (hk : tk P k = .st) (h : kTyS P k = true) {okk : PV → Prop} (h1 : ∀ p, okk p → ∃ ps, p = .agg ps ∧ kOkS P k ps = true) : KLaw P k okk := by
  obtain ⟨fs, hu⟩ := tk_st' hk
  rw [kTyS, Bool.and_eq_true] at h
  have K : WideMaps.KeyLaw P k := deep_law (m := 12) (by decide) h.1 h.2 (by rw [hu])
  have hky : ∀ p, okk p → keyd p = true ∧ ∃ l, keyOf P k (toVk p) = some l := by
    intro p hp
    obtain ⟨ps, rfl, h2⟩ := h1 p hp
    rw [kOkS, Bool.and_eq_true] at h2
    exact ⟨h2.1, Option.isSome_iff_exists.1 h2.2⟩
  exact {
    keyd := fun p hp => (hky p hp).1
    check := fun w em p hp => by obtain ⟨l, hl⟩ := (hky p hp).2; exact K.check w em hl
    find := fun w p hp es hes => by
      obtain ⟨l, hl⟩ := (hky p hp).2
      exact K.find w hl es (fun e he => by obtain ⟨q, hq, e1⟩ := hes e he; rw [e1]; exact (hky q hq).2)
    stays := fun w p hp => by obtain ⟨l, hl⟩ := (hky p hp).2; exact K.stays w hl }
theorem kOk_law {P : Program} {k : TypeId} (h : kTy P k = true) : KLaw P k (fun p => kOk P k p = true) := by
  unfold kTy at h
  cases hk : tk P k <;> rw [hk] at h <;> try (cases h; done)
  rotate_right
  · refine struct_law hk h (fun p hp => ?_)
    simp only [kOk, hk] at hp
    cases p <;> first | exact ⟨_, rfl, hp⟩ | exact (Bool.false_ne_true hp).elim
  · refine scalar_law (tk_bool hk) (fun p hp => ?_) (fun p hp => ?_) <;> simp only [kOk, hk] at hp <;> cases p <;> first | exact (Bool.false_ne_true hp).elim | rfl | trivial
  · refine scalar_law (tk_int hk) (fun p hp => ?_) (fun p hp => ?_) <;> simp only [kOk, hk] at hp <;> cases p <;> first | exact (Bool.false_ne_true hp).elim | rfl | exact (show _ = _ from of_decide_eq_true hp)
  · refine scalar_law (tk_str hk) (fun p hp => ?_) (fun p hp => ?_) <;> simp only [kOk, hk] at hp <;> cases p <;> first | exact (Bool.false_ne_true hp).elim | rfl | trivial

/-! What lies in the world. -/

theorem mapAt_of {g : Gh} {x : Option Obj} {es : List (PV × PV)} (h : ObjAt g x [.mobj es]) : ∃ ents c, x = some (.map ents c) ∧ MapRel g.h ents c es := by
  rcases h with ⟨vals, T, fr, a, _, c, d, e⟩ | ⟨es', ents, c, h4, h5, h6⟩ | ⟨cur, es', p0, p1, h, _⟩
  · have hlt : 0 < vals.size := by have := c; simp at this; omega
    exact (e 0 vals[0] (.mobj es) (by simp [hlt]) rfl).mobj_inv.elim
  · rcases h4 with h4 | h4 <;> cases h4
    exact ⟨ents, c, h5, h6⟩
  · cases h
theorem iterAt_of {g : Gh} {x : Option Obj} {cur : List PV} {es : List (PV × PV)} (h : ObjAt g x [.tup cur, .mobj es]) : IterAt g.h x cur es := by
  rcases h with ⟨vals, T, fr, a, _, c, d, e⟩ | ⟨es', ents, c, h4, h5, h6⟩ | ⟨cur', es', p0, p1, h, h1, h2, h3⟩
  · have hlt : 1 < vals.size := by have := c; simp at this; omega
    exact (e 1 vals[1] (.mobj es) (by simp [hlt]) rfl).mobj_inv.elim
  · rcases h4 with h4 | h4 <;> cases h4
  · cases h
    rcases h1 with h1 | h1 <;> cases h1
    rcases h2 with h2 | h2 <;> cases h2
    exact h3
theorem InvW.mapAt {g : Gh} {S : PS} {w : World} (hI : InvW g S w) {id b : Nat} {es : List (PV × PV)} (ho : S.obj id = some [.mobj es]) (hb : g.blk id = some b) :
    ∃ ents c, w.heap[b]? = some (.map ents c) ∧ MapRel g.h ents c es ∧ ∀ o, g.h b o = none := by
  obtain ⟨b', h1, h2, h3⟩ := hI.objs id _ ho
  rw [hb] at h1; cases h1
  obtain ⟨ents, c, h4, h5⟩ := mapAt_of h2
  exact ⟨ents, c, h4, h5, h3⟩
theorem InvW.pureAt {g : Gh} {S : PS} {w : World} (hI : InvW g S w) {v : Value} {es : List (PV × PV)} (r : PRel g.h v (.mpure es)) :
    ∃ b ents c, v = .map (some b) ∧ w.heap[b]? = some (.map ents c) ∧ MapRel g.h ents c es ∧ g.h b 0 = some (encM ents c) := by
  cases r with
  | mpure b ents c es es' hh hw hp hn hd hk hv => exact ⟨b, ents, c, rfl, wcell_ents (hI.hw b 0 _ hh), ⟨hw, es', hp, hn, hd, hk, hv⟩, hh⟩

/-- A map's contents change; an iterator's place. -/
theorem storeObj {g S w w'} (hI : InvW g S w) {id b : Nat} {qs0 qs1 : List PV} {x y : Obj} (hxc : ∀ vals T fr, x ≠ .cells vals T fr) (hob : S.obj id = some qs0) (hb : g.blk id = some b) (hold : w.heap[b]? = some x)
    (hh : w'.heap = w.heap.setIfInBounds b y) (hos : w'.os = w.os) (htp : w'.tape = w.tape) (hout : OutEq w w') (hm : IsMap g.h (some y) qs1 ∨ IsIter g.h (some y) qs1) {δ : Dl} (hwr : δ.wr = [(id, some qs1)]) (htk : δ.tk = []) :
    InvW g (S.app δ) w' ∧ Ext g S w g (S.app δ) w' := by
  have hset := heap_set (w := w) (o' := y) hold
  have hnew : w'.heap[b]? = some y := by rw [hh]; exact hset.1
  have hoth : ∀ k, k ≠ b → w'.heap[k]? = w.heap[k]? := fun k hk => by rw [hh]; exact hset.2 k hk
  have hobj : ∀ i, (S.app δ).obj i = if id = i then some qs1 else S.obj i := by
    intro i; simp only [PS.obj, PS.app, hwr, List.cons_append, List.nil_append, lkp_cons]
  have hobn : ∀ i, (S.app δ).obj i ≠ none ↔ S.obj i ≠ none := by
    intro i; rw [hobj]; split
    · rename_i e; subst e; simp [hob]
    · rfl
  have hlv : ∀ k, (S.app δ).lv k = S.lv k := by intro k; simp [PS.lv, PS.app, htk]
  have hown : ∀ b o, Own g (S.app δ) b o ↔ Own g S b o := by
    intro b o
    simp only [Own, hobn, hlv]
  have k2 : ∀ o, g.h b o = none := by
    obtain ⟨b', q1, _, q3⟩ := hI.objs id _ hob
    rw [hb] at q1; cases q1; exact q3
  refine ⟨⟨?_, ?_, ?_, ?_, ?_, hI.jnk_of (fun _ _ h => h) (fun k m h => hoth k (fun e => by subst e; exact hI.jnk_obj (by simp [hob]) hb h)) (fun k m o h => (hI.jnk k m h).2.1 o) (fun i k m _ hid hbk => ⟨(hobn i).1 hid, hbk⟩) (fun k d m lo hi _ hk ht _ => ⟨by rw [← hlv]; exact hk, ht⟩), ?_, hI.gl⟩, ⟨Gh.le_refl _, fun b o v h => .inl h, fun b o _ h => (hown b o).1 h, by rw [hh]; simp, ?_, hos, htp, hout⟩⟩
  · intro b' o v h
    rw [wcell_of_block (hoth b' (fun e => by subst e; rw [k2] at h; cases h))]
    exact hI.hw b' o v h
  · intro i qs hq
    rw [hobj] at hq
    split at hq
    · rename_i e; subst e; cases hq
      exact ⟨b, hb, by rw [hnew]; exact .inr hm, k2⟩
    · rename_i e
      obtain ⟨b2, h1, h2, h6⟩ := hI.objs i qs hq
      refine ⟨b2, h1, ?_, h6⟩
      rw [hoth b2 (fun e2 => e (hI.inj id i b (by simp [hob]) (by simp [hq]) hb (by rw [← e2]; exact h1)))]
      exact h2
  · intro i i' b2 h1 h2 h3 h4
    exact hI.inj i i' b2 ((hobn i).1 h1) ((hobn i').1 h2) h3 h4
  · intro k hk
    rw [hlv] at hk
    obtain ⟨b2, lo, hi, h1, h2⟩ := hI.toks k hk
    refine ⟨b2, lo, hi, h1, fun hl => ?_⟩
    obtain ⟨⟨vs, T', fr', h3, h4⟩, h5, h6⟩ := h2 hl
    refine ⟨⟨vs, T', fr', ?_, h4⟩, h5, fun i hid => h6 i ((hobn i).1 hid)⟩
    rw [hoth b2 (fun e => h6 id (by simp [hob]) (by rw [e]; exact hb))]
    exact h3
  · intro k k' b2 lo hi lo' hi' h1 h2 h3 h4 h5
    rw [hlv] at h1 h2
    exact hI.tokd k k' b2 lo hi lo' hi' h1 h2 h3 h4 h5
  · intro b' T m h
    obtain ⟨vs, fr, h1, h2⟩ := hI.tys b' T m h
    by_cases e : b' = b
    · subst e; rw [hold] at h1; cases h1; exact absurd rfl (hxc _ _ _)
    · exact ⟨vs, fr, by rw [hoth b' e]; exact h1, h2⟩
  · intro b2 hb2
    by_cases e : b2 = b
    · subst e
      exact .inr (.inr fun o => .inl ⟨id, by simp [hob], hb⟩)
    · rw [hoth b2 e]; exact .refl _ _

/-- A map's contents change. -/
theorem storeMap {g S w w'} (hI : InvW g S w) {id b : Nat} {es es' : List (PV × PV)} {ents ents' : Array MapEntry} {c c' : Nat} (hob : S.obj id = some [.mobj es]) (hb : g.blk id = some b) (hold : w.heap[b]? = some (.map ents c))
    (hh : w'.heap = w.heap.setIfInBounds b (.map ents' c')) (hos : w'.os = w.os) (htp : w'.tape = w.tape) (hout : OutEq w w') (hm : MapRel g.h ents' c' es') {δ : Dl} (hwr : δ.wr = [(id, some [.mobj es'])]) (htk : δ.tk = []) :
    InvW g (S.app δ) w' ∧ Ext g S w g (S.app δ) w' :=
  storeObj hI (fun _ _ _ e => by cases e) hob hb hold hh hos htp hout (.inl ⟨es', ents', c', .inl rfl, rfl, hm⟩) hwr htk

/-- Keys of a type, all of them. -/
def kAll (P : Program) (k : TypeId) : List (PV × PV) → Bool
  | [] => true
  | q :: es => kOk P k q.1 && kAll P k es
theorem kAll_mem {P : Program} {k : TypeId} : ∀ {es : List (PV × PV)}, kAll P k es = true → ∀ q ∈ es, kOk P k q.1 = true
  | [], _, q, h => by cases h
  | x :: es, hs, q, h => by
    simp only [kAll, Bool.and_eq_true] at hs
    rcases List.mem_cons.1 h with rfl | h
    · exact hs.1
    · exact kAll_mem hs.2 q h

/-- What is found at a key. -/
theorem find_rel {P : Program} {k : TypeId} {h : HMap} {w : World} {ents : Array MapEntry} {es : List (PV × PV)} {p : PV} (hk : kTy P k = true) {cl : Nat} (hm : MapRel h ents cl es) (ha : kAll P k es = true) (hp : kOk P k p = true) :
    ∃ es' : List (PV × PV), es'.Perm es ∧ ents.size = es'.length ∧ (es'.map Prod.fst).Nodup ∧ (∀ (i : Nat) (e : MapEntry) (q : PV × PV), ents[i]? = some e → es'[i]? = some q → PRel h e.key q.1) ∧ (∀ (i : Nat) (e : MapEntry) (q : PV × PV), ents[i]? = some e → es'[i]? = some q → PRel h e.val q.2) ∧
    (((Instr.findKey k (toVk p) ents.toList).run P w = .ok none w ∧ (∀ q ∈ es', q.1 ≠ p) ∧ mget es p = none) ∨
      ∃ j e v, (Instr.findKey k (toVk p) ents.toList).run P w = .ok (some (j, e.val)) w ∧ ents[j]? = some e ∧ e.key = toVk p ∧ es'[j]? = some (p, v) ∧ mget es p = some v) := by
  obtain ⟨-, es', h1, h2, h3, h4, h5⟩ := hm
  have K := kOk_law hk
  have hkd : ∀ q ∈ es', kOk P k q.1 = true := fun q hq => kAll_mem ha q (h1.mem_iff.1 hq)
  have hn' : (es'.map Prod.fst).Nodup := (h1.map _).nodup_iff.2 h3
  have hat : ∀ (i : Nat) (e : MapEntry), ents[i]? = some e → ∃ q, es'[i]? = some q ∧ e.key = toVk q.1 := by
    intro i e he
    have hi : i < es'.length := by rw [← h2]; exact (Array.getElem?_eq_some_iff.1 he).1
    have hq : es'[i]? = some es'[i] := by simp [hi]
    exact ⟨es'[i], hq, key_rel (g := { h := h, blk := fun _ => none, tok := fun _ => none, ty := fun _ => none }) (.pure _ _ (h4 i e _ he hq)) (K.keyd _ (hkd _ (List.mem_of_getElem? hq)))⟩
  refine ⟨es', h1, h2, hn', h4, h5, ?_⟩
  rcases K.find w p hp ents.toList (fun e he => by
    obtain ⟨i, hi⟩ := List.mem_iff_getElem?.1 he
    obtain ⟨q, hq, e1⟩ := hat i e (by simpa using hi)
    exact ⟨q.1, hkd q (List.mem_of_getElem? hq), e1⟩) with ⟨a, b⟩ | ⟨j, e, a, b, c⟩
  · have hne : ∀ q ∈ es', q.1 ≠ p := by
      intro q hq e
      obtain ⟨i, hi⟩ := List.mem_iff_getElem?.1 hq
      have hlt : i < ents.size := by rw [h2]; exact (List.getElem?_eq_some_iff.1 hi).1
      obtain ⟨q', hq', e1⟩ := hat i ents[i] (by simp [hlt])
      rw [hi] at hq'; cases hq'
      exact b ents[i] (by simp) (by rw [e1, e])
    exact .inl ⟨a, hne, mget_none (K.keyd p hp) (fun q hq => hne q (h1.mem_iff.2 hq))⟩
  · have b' : ents[j]? = some e := by simpa using b
    obtain ⟨q, hq, e1⟩ := hat j e b'
    have hqp : q.1 = p := toVk_inj (K.keyd _ (hkd q (List.mem_of_getElem? hq))) (K.keyd p hp) (by rw [← e1, c])
    obtain ⟨q1, q2⟩ := q
    simp only at hqp; subst hqp
    exact .inr ⟨j, e, q2, a, b', c, hq, mget_some (K.keyd _ hp) h3 (h1.mem_iff.1 (List.mem_of_getElem? hq))⟩

section
variable {P : Program} {nid : Nat} {o : Oper} {ins : Operand → PV} {S : PS} {ok : Prop}

/-- The map that a value is. -/
def mapPV (S : PS) : PV → Option (List (PV × PV))
  | .nilm => some []
  | .mpure es => some es
  | .mref id => match S.obj id with | some [.mobj es] => some es | _ => none
  | _ => none
def mapRd : PV → List Nat
  | .mref id => [id]
  | _ => []

theorem mapPV_at {g : Gh} {S S' : PS} {w : World} (hI : InvW g S' w) {v : Value} {p : PV} {es : List (PV × PV)} (r : Rel g v p) (h : mapPV S p = some es) (hb : ∀ i ∈ mapRd p, S'.obj i = S.obj i) :
    (v = .map none ∧ es = []) ∨ ∃ b ents c, v = .map (some b) ∧ w.heap[b]? = some (.map ents c) ∧ MapRel g.h ents c es := by
  cases p <;> simp only [mapPV] at h <;> try (cases h; done)
  · exact .inl ⟨r.nilm_inv, (Option.some.inj h).symm⟩
  · rename_i id
    split at h
    · rename_i es' ho
      cases h
      obtain ⟨b, hb1, hv⟩ := r.mref_inv
      obtain ⟨ents, c, k1, k2, _⟩ := hI.mapAt ((hb id (by simp [mapRd])).trans ho) hb1
      exact .inr ⟨b, ents, c, hv, k1, k2⟩
    · cases h
  · cases h
    obtain ⟨b, ents, c, h1, h2, h3, _⟩ := hI.pureAt r.mpure_inv
    exact .inr ⟨b, ents, c, h1, h2, h3⟩

/-- A type's zero value. -/
def zvO (P : Program) (t : TypeId) : Option PV := ((P.info? t).bind (·.zero)).map ofC
theorem zvO_spec {t : TypeId} {z : PV} (h : zvO P t = some z) : ∃ v, (∀ w : World, (zeroValue t).run P w = .ok v w) ∧ ∀ hm, PRel hm v z := by
  unfold zvO at h
  cases hi : P.info? t with
  | none => rw [hi] at h; cases h
  | some i =>
    cases hz : i.zero with
    | none => simp [hi, hz] at h
    | some v =>
      simp [hi, hz] at h
      exact ⟨v, fun w => by simp [zeroValue, typeInfo, hi, hz], fun hm => by rw [← h]; exact ofC_rel hm v⟩

/-- What a map of slices tells where nothing lies: an empty one, of the same kind. -/
def jall : List (PV × PV) → Bool
  | [] => true
  | (_, .slj _) :: es => jall es
  | _ => false
def zdef (es : List (PV × PV)) : PV → PV
  | .nilsl => match jall es with | true => .slj 0 | false => .nilsl
  | z => z
theorem zdef_rel {h : HMap} {v : Value} {z : PV} (es : List (PV × PV)) (r : PRel h v z) : PRel h v (zdef es z) := by
  unfold zdef
  split
  · split
    · cases r; exact .sljn
    · exact r
  · exact r
theorem lookup_ok {t kt et : TypeId} {x y : Operand} {cok : Bool} {es : List (PV × PV)} {z : PV} (h : o.op = .lookup t x y cok) (ht : tk P t = .map kt et) (hx : mapPV S (ins x) = some es) (hk : kTy P kt = true) (ha : kAll P kt es = true)
    (hy : kOk P kt (ins y) = true) (hz : zvO P et = some z) :
    LTrip P nid o ins S { p := if cok = true then .tup [mgetD es (ins y) (zdef es z), .bool (mhas es (ins y))] else mgetD es (ins y) (zdef es z), rdB := mapRd (ins x), ok := ok } := by
  refine .still fun g S' ρ w hI hr hb => ?_
  have e1 := hr x (by simp [h, Op.operands])
  have e2 := hr y (by simp [h, Op.operands])
  have K := kOk_law hk
  have hky := key_rel e2 (K.keyd _ hy)
  obtain ⟨zv, hzr, hzp⟩ := zvO_spec hz
  have hu := tk_map ht
  have key : ∀ (ents : Array MapEntry) (cl : Nat) (m : Option Nat), MapRel g.h ents cl es → ρ x = .map m → (∀ b, m = some b → ∃ c, w.heap[b]? = some (.map ents c)) → (m = none → ents = #[]) →
      ∃ v, (execOp ρ o).run P w = .ok (.value v) w ∧ Rel g v (if cok = true then .tup [mgetD es (ins y) (zdef es z), .bool (mhas es (ins y))] else mgetD es (ins y) (zdef es z)) := by
    intro ents cl m hm hv hs hn
    have hlk : ∀ (v : Value) (bb : Bool), (∃ r, (Instr.findKey kt (toVk (ins y)) ents.toList).run P w = .ok r w ∧ (match r with | some (_, v) => (v, true) | none => (zv, false)) = (v, bb)) →
        (Instr.lookup t (.map m) (toVk (ins y)) cok).run P w = .ok (if cok = true then .tuple #[v, .bool bb] else v) w := by
      rintro v bb ⟨r, h1, h2⟩
      have hchk := K.check w ents.isEmpty _ hy
      cases m with
      | none =>
        have := hn rfl; subst this
        have hc' := K.check w true _ hy
        have h1' : (Instr.findKey kt (toVk (ins y)) []).run P w = .ok r w := h1
        cases r with
        | none => simp at h2; obtain ⟨rfl, rfl⟩ := h2; cases cok <;> simp [Instr.lookup, run_underlying hu, hc', h1', hzr]
        | some r => obtain ⟨r1, r2⟩ := r; simp at h2; obtain ⟨rfl, rfl⟩ := h2; cases cok <;> simp [Instr.lookup, run_underlying hu, hc', h1', hzr]
      | some b =>
        obtain ⟨c, hc⟩ := hs b rfl
        cases r with
        | none => simp at h2; obtain ⟨rfl, rfl⟩ := h2; cases cok <;> simp [Instr.lookup, run_underlying hu, MapKept.run_getObj_map hc, hchk, h1, hzr]
        | some r => obtain ⟨r1, r2⟩ := r; simp at h2; obtain ⟨rfl, rfl⟩ := h2; cases cok <;> simp [Instr.lookup, run_underlying hu, MapKept.run_getObj_map hc, hchk, h1, hzr]
    have fin : ∀ (v : Value) (q : PV) (bb : Bool), (Instr.lookup t (.map m) (toVk (ins y)) cok).run P w = .ok (if cok = true then .tuple #[v, .bool bb] else v) w → Rel g v q →
        ∃ v, (execOp ρ o).run P w = .ok (.value v) w ∧ Rel g v (if cok = true then .tup [q, .bool bb] else q) := by
      intro v q bb hl hq
      refine ⟨_, by simp only [execOp, h, hv, hky]; simp [hl]; rfl, ?_⟩
      cases cok with
      | false => exact hq
      | true =>
        refine .tup _ _ rfl fun i u p hu hp => ?_
        match i, hu, hp with
        | 0, hu, hp => cases hu; cases hp; exact hq
        | 1, hu, hp => cases hu; cases hp; exact .pure _ _ (.bool _)
        | i + 2, hu, hp => simp at hp
    obtain ⟨es', h1, h2, h3, h4, h5, h6⟩ := find_rel (w := w) hk hm ha hy
    rcases h6 with ⟨a, _, b⟩ | ⟨j, e, v, a, b, _, d, f⟩
    · have := fin zv (zdef es z) false (hlk zv false ⟨none, a, rfl⟩) (.pure _ _ (zdef_rel es (hzp _)))
      simp only [mgetD, mhas, b]; exact this
    · have := fin e.val v true (hlk e.val true ⟨some (j, e.val), a, rfl⟩) (.pure _ _ (h5 j e _ b d))
      simp only [mgetD, mhas, f]; exact this
  rcases mapPV_at hI e1 hx hb with ⟨hv, rfl⟩ | ⟨b, ents, c, hv, hh, hm⟩
  · exact key #[] 0 none ⟨WB.nil _, [], List.Perm.refl _, rfl, List.nodup_nil, by simp, by simp⟩ hv (by simp) (fun _ => rfl)
  · exact key ents c (some b) hm hv (fun b' e => by cases e; exact ⟨c, hh⟩) (by simp)

theorem set_perm {α : Type} {l : List α} {j : Nat} {x y : α} (h : l[j]? = some x) : (l.set j y).Perm (y :: (l.take j ++ l.drop (j + 1))) := by
  have hj := (List.getElem?_eq_some_iff.1 h).1
  rw [List.set_eq_take_append_cons_drop, if_pos hj]
  exact List.perm_middle
theorem msetPush {h : HMap} {ents : Array MapEntry} {es es' : List (PV × PV)} {p v : PV} {key val : Value} {c : Nat} (hw : WB ents c) (hk : keyd p = true) (h1 : es'.Perm es) (h2 : ents.size = es'.length) (h3 : (es'.map Prod.fst).Nodup)
    (h4 : ∀ (i : Nat) (e : MapEntry) (q : PV × PV), ents[i]? = some e → es'[i]? = some q → PRel h e.key q.1) (h5 : ∀ (i : Nat) (e : MapEntry) (q : PV × PV), ents[i]? = some e → es'[i]? = some q → PRel h e.val q.2)
    (hno : ∀ q ∈ es', q.1 ≠ p) (hkr : PRel h key p) (hvr : PRel h val v) : MapRel h (ents.push { key := key, val := val, born := c }) (c + 1) (mset es p v) := by
  have hd : mdel es p = es := mdel_none hk (fun q hq => hno q (h1.mem_iff.2 hq))
  have hp : (es' ++ [(p, v)]).Perm (mset es p v) := by
    rw [mset, hd]
    exact (List.perm_append_singleton _ _).trans (h1.cons _)
  refine ⟨hw.push _ _, es' ++ [(p, v)], hp, by simp [h2], mset_nodup v hk ((h1.map _).nodup_iff.1 h3), ?_, ?_⟩ <;> intro i e q he hq <;> rw [Array.getElem?_push] at he <;> split at he
  · rename_i hi
    cases he
    rw [List.getElem?_append_right (by omega), hi, h2] at hq
    simp at hq; subst hq; exact hkr
  · rename_i hi
    have hlt : i < ents.size := (Array.getElem?_eq_some_iff.1 he).1
    rw [List.getElem?_append_left (by omega)] at hq
    exact h4 i e q he hq
  · rename_i hi
    cases he
    rw [List.getElem?_append_right (by omega), hi, h2] at hq
    simp at hq; subst hq; exact hvr
  · rename_i hi
    have hlt : i < ents.size := (Array.getElem?_eq_some_iff.1 he).1
    rw [List.getElem?_append_left (by omega)] at hq
    exact h5 i e q he hq
theorem msetAt {h : HMap} {ents : Array MapEntry} {es es' : List (PV × PV)} {p v v0 : PV} {key val : Value} {c j : Nat} (hw : WB ents c) (hk : keyd p = true) (h1 : es'.Perm es) (h2 : ents.size = es'.length) (h3 : (es'.map Prod.fst).Nodup)
    (h4 : ∀ (i : Nat) (e : MapEntry) (q : PV × PV), ents[i]? = some e → es'[i]? = some q → PRel h e.key q.1) (h5 : ∀ (i : Nat) (e : MapEntry) (q : PV × PV), ents[i]? = some e → es'[i]? = some q → PRel h e.val q.2)
    (hj : es'[j]? = some (p, v0)) (hkr : PRel h key p) (hvr : PRel h val v) : MapRel h (ents.modify j fun e => { e with key := key, val := val }) c (mset es p v) := by
  have hlt := (List.getElem?_eq_some_iff.1 hj).1
  have hp : (es'.set j (p, v)).Perm (mset es p v) := by
    refine (set_perm hj).trans ?_
    rw [mset, ← mdel_at hk h3 hj]
    exact (h1.filter _).cons _
  refine ⟨hw.modify _ _ _, es'.set j (p, v), hp, by simp [h2], mset_nodup v hk ((h1.map _).nodup_iff.1 h3), ?_, ?_⟩ <;> intro i e q he hq <;> rw [Array.getElem?_modify] at he <;> rw [List.getElem?_set] at hq <;> by_cases hij : j = i
  · rw [if_pos hij] at he
    rw [if_pos hij, if_pos hlt] at hq
    cases hq
    cases hx : ents[i]? with
    | none => rw [hx] at he; cases he
    | some x => rw [hx] at he; cases he; exact hkr
  · rw [if_neg hij] at he
    rw [if_neg hij] at hq
    exact h4 i e q he hq
  · rw [if_pos hij] at he
    rw [if_pos hij, if_pos hlt] at hq
    cases hq
    cases hx : ents[i]? with
    | none => rw [hx] at he; cases he
    | some x => rw [hx] at he; cases he; exact hvr
  · rw [if_neg hij] at he
    rw [if_neg hij] at hq
    exact h5 i e q he hq
theorem mdelAt {h : HMap} {ents : Array MapEntry} {es es' : List (PV × PV)} {p v0 : PV} {c j : Nat} (hw : WB ents c) (hk : keyd p = true) (h1 : es'.Perm es) (h2 : ents.size = es'.length) (h3 : (es'.map Prod.fst).Nodup)
    (h4 : ∀ (i : Nat) (e : MapEntry) (q : PV × PV), ents[i]? = some e → es'[i]? = some q → PRel h e.key q.1) (h5 : ∀ (i : Nat) (e : MapEntry) (q : PV × PV), ents[i]? = some e → es'[i]? = some q → PRel h e.val q.2)
    (hj : es'[j]? = some (p, v0)) : MapRel h (ents.eraseIdxIfInBounds j) c (mdel es p) := by
  have hlt := (List.getElem?_eq_some_iff.1 hj).1
  have hlt' : j < ents.size := by omega
  have hp : (es'.eraseIdx j).Perm (mdel es p) := by
    rw [List.eraseIdx_eq_take_drop_succ, ← mdel_at hk h3 hj]
    exact h1.filter _
  have hat : ∀ i, (ents.eraseIdxIfInBounds j)[i]? = if i < j then ents[i]? else ents[i + 1]? := by
    intro i
    unfold Array.eraseIdxIfInBounds
    rw [dif_pos hlt', ← Array.getElem?_toList, Array.toList_eraseIdx, List.getElem?_eraseIdx]
    simp
  refine ⟨hw.erase _, es'.eraseIdx j, hp, by simp [Array.eraseIdxIfInBounds, hlt', List.length_eraseIdx, hlt, h2], mdel_nodup p ((h1.map _).nodup_iff.1 h3), ?_, ?_⟩ <;> intro i e q he hq <;> rw [hat] at he <;> rw [List.getElem?_eraseIdx] at hq <;> split at he
  · rename_i hij; rw [if_pos hij] at hq; exact h4 i e q he hq
  · rename_i hij; rw [if_neg hij] at hq; exact h4 _ e q he hq
  · rename_i hij; rw [if_pos hij] at hq; exact h5 i e q he hq
  · rename_i hij; rw [if_neg hij] at hq; exact h5 _ e q he hq

theorem mupd_ok {t kt et : TypeId} {m k x : Operand} {id : Nat} {es : List (PV × PV)} (h : o.op = .mapUpdate t m k x ∨ o.op = .insert t m k x) (ht : tk P t = .map kt et) (hm : ins m = .mref id) (hob : S.obj id = some [.mobj es]) (hk : kTy P kt = true) (ha : kAll P kt es = true)
    (hy : kOk P kt (ins k) = true) : LTrip P nid o ins S { p := .any, wr := [(id, some [.mobj (mset es (ins k) (ins x).el)])], rdB := [id], ok := ok } := by
  refine .of_run fun g S' ρ w hI hr hb _ _ => ?_
  have hops : ∀ y, y = m ∨ y = k ∨ y = x → y ∈ o.op.operands := by
    intro y hy
    rcases h with h | h <;> rw [h] <;> rcases hy with rfl | rfl | rfl <;> simp [Op.operands]
  have e1 := hr m (hops m (.inl rfl))
  have e2 := hr k (hops k (.inr (.inl rfl)))
  have e3 := hr x (hops x (.inr (.inr rfl)))
  rw [hm] at e1
  obtain ⟨b, hb1, hv⟩ := e1.mref_inv
  have hob' : S'.obj id = some [.mobj es] := (hb id (by simp)).trans hob
  obtain ⟨ents, c, hh, hmr, _⟩ := hI.mapAt hob' hb1
  have K := kOk_law hk
  have hky := key_rel e2 (K.keyd _ hy)
  have hkr : PRel g.h (toVk (ins k)) (ins k) := by
    rw [← hky]
    have := e2.el
    have e : (ins k).el = ins k := key_el (K.keyd _ hy)
    rw [e] at this; exact this
  have hu := tk_map ht
  obtain ⟨es', h1, h2, h3, h4, h5, h6⟩ := find_rel (w := w) hk hmr ha hy
  have hchk := K.check w false _ hy
  have hex : ∀ w', (Instr.mapUpdate t (.map (some b)) (toVk (ins k)) (ρ x)).run P w = .ok () w' → (execOp ρ o).run P w = .ok .skip w' := by
    intro w' hw'
    rcases h with h | h <;> (simp only [execOp, h, hv, hky]; simp [hw'])
  rcases h6 with ⟨a, hno, _⟩ | ⟨j, e, v0, a, bb, ce, d, _⟩
  · have hrel := storeMap hI hob' hb1 hh (w' := { w with heap := w.heap.setIfInBounds b (.map (ents.push { key := toVk (ins k), val := ρ x, born := c }) (c + 1)) }) rfl rfl rfl ⟨rfl, Nat.le_refl _⟩
      (msetPush (c := c) hmr.1 (K.keyd _ hy) h1 h2 h3 h4 h5 hno hkr e3.el) (δ := { p := .any, wr := [(id, some [.mobj (mset es (ins k) (ins x).el)])], rdB := [id], ok := ok }) rfl rfl
    refine ⟨undef, g, _, .inr ⟨hex _ ?_, rfl⟩, hrel.1, hrel.2, fun _ _ h => h, .pure _ _ (.any _)⟩
    simp [Instr.mapUpdate, run_underlying hu, MapKept.run_getObj_map hh, hchk, a, MapKept.run_setObj_map _ hh, Result.andThen]
  · have hrel := storeMap hI hob' hb1 hh (w' := { w with heap := w.heap.setIfInBounds b (.map (ents.modify j fun e => { e with key := toVk (ins k), val := ρ x }) c) }) rfl rfl rfl ⟨rfl, Nat.le_refl _⟩
      (msetAt hmr.1 (K.keyd _ hy) h1 h2 h3 h4 h5 d hkr e3.el) (δ := { p := .any, wr := [(id, some [.mobj (mset es (ins k) (ins x).el)])], rdB := [id], ok := ok }) rfl rfl
    refine ⟨undef, g, _, .inr ⟨hex _ ?_, rfl⟩, hrel.1, hrel.2, fun _ _ h => h, .pure _ _ (.any _)⟩
    have hst := K.stays w _ hy
    simp [Instr.mapUpdate, run_underlying hu, MapKept.run_getObj_map hh, hchk, a, bb, ce, hst, MapKept.run_setObj_map _ hh, Result.andThen]

theorem mdel_ok {t kt et kT : TypeId} {m k : Operand} {id : Nat} {es : List (PV × PV)} (h : o.op = .call { callee := .builtin .delete, args := #[m, k], argTypes := #[t, kT] }) (ht : tk P t = .map kt et) (hm : ins m = .mref id) (hob : S.obj id = some [.mobj es]) (hk : kTy P kt = true) (ha : kAll P kt es = true)
    (hy : kOk P kt (ins k) = true) : LTrip P nid o ins S { p := .any, wr := [(id, some [.mobj (mdel es (ins k))])], rdB := [id], ok := ok } := by
  refine .of_run fun g S' ρ w hI hr hb _ _ => ?_
  have e1 := hr m (by simp [h, Op.operands, Call.operands])
  have e2 := hr k (by simp [h, Op.operands, Call.operands])
  rw [hm] at e1
  obtain ⟨b, hb1, hv⟩ := e1.mref_inv
  have hob' : S'.obj id = some [.mobj es] := (hb id (by simp)).trans hob
  obtain ⟨ents, c, hh, hmr, _⟩ := hI.mapAt hob' hb1
  have K := kOk_law hk
  have hky := key_rel e2 (K.keyd _ hy)
  have hu := tk_map ht
  obtain ⟨es', h1, h2, h3, h4, h5, h6⟩ := find_rel (w := w) hk hmr ha hy
  have hchk := K.check w ents.isEmpty _ hy
  rcases h6 with ⟨a, hno, _⟩ | ⟨j, e, v0, a, bb, ce, d, _⟩
  · have hd : mdel es (ins k) = es := mdel_none (K.keyd _ hy) (fun q hq => hno q (h1.mem_iff.2 hq))
    rw [hd]
    have hrel := storeMap hI hob' hb1 hh (w' := { w with heap := w.heap.setIfInBounds b (.map ents c) }) rfl rfl rfl ⟨rfl, Nat.le_refl _⟩ hmr (δ := { p := .any, wr := [(id, some [.mobj es])], rdB := [id], ok := ok }) rfl rfl
    refine ⟨.tuple #[], g, _, .inl ?_, hrel.1, hrel.2, fun _ _ h => h, .pure _ _ (.any _)⟩
    simp [execOp, h, resolve, invoke, builtin, hv, hky, Builtin.delete_, run_underlying hu, MapKept.run_getObj_map hh, hchk, a, MapKept.run_setObj_map _ hh, Result.andThen]
  · have hrel := storeMap hI hob' hb1 hh (w' := { w with heap := w.heap.setIfInBounds b (.map (ents.eraseIdxIfInBounds j) c) }) rfl rfl rfl ⟨rfl, Nat.le_refl _⟩
      (mdelAt hmr.1 (K.keyd _ hy) h1 h2 h3 h4 h5 d) (δ := { p := .any, wr := [(id, some [.mobj (mdel es (ins k))])], rdB := [id], ok := ok }) rfl rfl
    refine ⟨.tuple #[], g, _, .inl ?_, hrel.1, hrel.2, fun _ _ h => h, .pure _ _ (.any _)⟩
    simp [execOp, h, resolve, invoke, builtin, hv, hky, Builtin.delete_, run_underlying hu, MapKept.run_getObj_map hh, hchk, a, MapKept.run_setObj_map _ hh, Result.andThen]

theorem mmake_ok {t : TypeId} {r : Option Operand} (h : o.op = .makeMap t r) (hr' : ∀ x, r = some x → ∃ kt et k n, tk P t = .map kt et ∧ ins x = .int k n) :
    LTrip P nid o ins S { p := .mref nid, wr := [(nid, some [.mobj []])], ok := ok } := by
  refine .of_run fun g S' ρ w hI hr _ _ hf => ?_
  obtain ⟨h1, h2, h3, h4⟩ := newMapBox (es := []) hI hf (Pushed.alloc w (.map #[] 0)) ⟨WB.nil _, [], List.Perm.refl _, rfl, List.nodup_nil, by simp, by simp⟩ (δ := { p := .mref nid, wr := [(nid, some [.mobj []])], ok := ok }) rfl rfl
  refine ⟨_, _, _, .inl ?_, h1, h2, h3, h4⟩
  cases r with
  | none => simp [execOp, h, Instr.makeMap]
  | some x =>
    obtain ⟨kt, et, k, n, ht, hx⟩ := hr' x rfl
    have e := hr x (by simp [h, Op.operands])
    rw [hx] at e
    simp [execOp, h, Instr.makeMap, run_underlying (tk_map ht), e.int_inv, asInt, asIntOf]

theorem mlen_ok {t kt et : TypeId} {x : Operand} {es : List (PV × PV)} (h : o.op = .call { callee := .builtin .len, args := #[x], argTypes := #[t] }) (ht : tk P t = .map kt et) (hx : mapPV S (ins x) = some es) :
    LTrip P nid o ins S { p := .int .i64 es.length, rdB := mapRd (ins x), ok := ok } := by
  refine .still fun g S' ρ w hI hr hb => ?_
  have e1 := hr x (by simp [h, Op.operands, Call.operands])
  refine ⟨.int .i64 es.length, ?_, .pure _ _ (.int _ _)⟩
  rcases mapPV_at hI e1 hx hb with ⟨hv, rfl⟩ | ⟨b, ents, c, hv, hh, _, es', h1, h2, _⟩
  · simp [execOp, h, resolve, invoke, builtin, hv, Builtin.len_, Builtin.lenOf, run_underlying (tk_map ht), goInt]
  · have e : ents.size = es.length := h2.trans h1.length_eq
    simp [execOp, h, resolve, invoke, builtin, hv, Builtin.len_, Builtin.lenOf, run_underlying (tk_map ht), goInt, MapKept.run_getObj_map hh, e]

def nilB (op : BinOp) (b : Bool) : PV :=
  match op with
  | .eql => .bool b
  | _ => .bool (!b)
/-- Whether a map is nil, where that is known. -/
def nilMp : PV → Option Bool
  | .nilm => some true
  | .mref _ => some false
  | .mpure _ => some false
  | _ => none
theorem nilMp_val {g : Gh} {v : Value} {p : PV} {b : Bool} (r : Rel g v p) (h : nilMp p = some b) : ∃ m, v = .map m ∧ m.isNone = b := by
  cases p <;> simp only [nilMp] at h <;> try (cases h; done)
  · cases h; exact ⟨none, r.nilm_inv, rfl⟩
  · cases h; obtain ⟨b, _, e⟩ := r.mref_inv; exact ⟨some b, e, rfl⟩
  · cases h
    have := r.mpure_inv
    cases this
    exact ⟨_, rfl, rfl⟩
theorem run_equalIn_mnil {P : Program} (w : World) (d : Nat) (t k e : TypeId) (p : Option Nat) (h : P.underlying t = some (.map k e)) :
    (Op.equalIn (d + 1) t (.map p) (.map none)).run P w = .ok p.isNone w := by
  cases p <;> simp [Op.equalIn, run_underlying h]
theorem mnil_sound {op : BinOp} {t k e yt : TypeId} {x y : Operand} {b : Bool} (h : o.op = .binOp op t x y yt) (hx : nilMp (ins x) = some b) (hy : ins y = .nilm)
    (ht : tk P t = .map k e) (hop : op = .eql ∨ op = .neq) : LTrip P nid o ins S { p := nilB op b, ok := ok } := by
  refine .still fun g S' ρ w _ ho _ => ?_
  have h1 := ho x (by simp [h, Op.operands])
  have h2 := ho y (by simp [h, Op.operands])
  rw [hy] at h2
  obtain ⟨m, e1, hb⟩ := nilMp_val h1 hx
  have e2 := h2.nilm_inv
  have hu := tk_map ht
  have hg : (eqGuard op t x y (.map m) (.map none)).run P w = .ok () w := by
    unfold eqGuard; simp
  have he : (Op.equal t (.map m) (.map none)).run P w = .ok m.isNone w := by
    simp only [show Op.equal t (.map m) (.map none) = Op.equalIn (9999 + 1) t (.map m) (.map none) from rfl, run_equalIn_mnil w 9999 t k e m hu]
  rcases hop with rfl | rfl
  · refine ⟨.bool b, ?_, .pure _ _ (.bool b)⟩
    simp only [execOp, h, e1, e2]
    simp [hg, binOp, he, hb]
  · refine ⟨.bool (!b), ?_, .pure _ _ (.bool _)⟩
    simp only [execOp, h, e1, e2]
    simp [hg, binOp, he, hb]
/-- Whether a function value is nil, where that is known. -/
def nilFn : PV → Option Bool
  | .nilfn => some true
  | .fn _ _ => some false
  | .yld _ => some false
  | _ => none
theorem nilFn_val {g : Gh} {v : Value} {p : PV} {b : Bool} (r : Rel g v p) (h : nilFn p = some b) : (v = .nilFunc ∧ b = true) ∨ (∃ f a c, v = .func f a c ∧ b = false) := by
  cases p <;> simp only [nilFn] at h <;> try (cases h; done)
  · cases h; obtain ⟨vs, e, _⟩ := r.fn_inv; exact .inr ⟨_, _, _, e, rfl⟩
  · cases h; exact .inl ⟨r.nilfn_inv, rfl⟩
  · cases h; obtain ⟨b, _, e⟩ := r.yld_inv; exact .inr ⟨_, _, _, e, rfl⟩
theorem tk_fn {P : Program} {t : TypeId} (h : tk P t = .fn) : ∃ a b c, P.underlying t = some (.func a b c) := by unfold tk at h; split at h <;> simp_all
theorem run_equalIn_fnil {P : Program} (w : World) (d : Nat) (t : TypeId) (h : ∃ a b c, P.underlying t = some (.func a b c)) :
    (Op.equalIn (d + 1) t .nilFunc .nilFunc).run P w = .ok true w := by
  obtain ⟨a, b, c, h⟩ := h
  simp [Op.equalIn, run_underlying h]
theorem run_equalIn_fnil' {P : Program} (w : World) (d : Nat) (t : TypeId) (h : ∃ a b c, P.underlying t = some (.func a b c)) (f : Fn) (x y : Array Value) :
    (Op.equalIn (d + 1) t (.func f x y) .nilFunc).run P w = .ok false w := by
  obtain ⟨a, b, c, h⟩ := h
  simp [Op.equalIn, run_underlying h]
theorem fnil_sound {op : BinOp} {t yt : TypeId} {x y : Operand} {b : Bool} (h : o.op = .binOp op t x y yt) (hx : nilFn (ins x) = some b) (hy : ins y = .nilfn)
    (ht : tk P t = .fn) (hop : op = .eql ∨ op = .neq) : LTrip P nid o ins S { p := nilB op b, ok := ok } := by
  refine .still fun g S' ρ w _ ho _ => ?_
  have h1 := ho x (by simp [h, Op.operands])
  have h2 := ho y (by simp [h, Op.operands])
  rw [hy] at h2
  have e2 := h2.nilfn_inv
  have hu := tk_fn ht
  rcases nilFn_val h1 hx with ⟨e1, rfl⟩ | ⟨f, fa, fc, e1, rfl⟩
  · have hg : (eqGuard op t x y .nilFunc .nilFunc).run P w = .ok () w := by
      unfold eqGuard; simp
    have he : (Op.equal t .nilFunc .nilFunc).run P w = .ok true w := by
      simp only [show Op.equal t .nilFunc .nilFunc = Op.equalIn (9999 + 1) t .nilFunc .nilFunc from rfl, run_equalIn_fnil w 9999 t hu]
    rcases hop with rfl | rfl
    · refine ⟨.bool true, ?_, .pure _ _ (.bool true)⟩
      simp only [execOp, h, e1, e2]
      simp [hg, binOp, he]
    · refine ⟨.bool false, ?_, .pure _ _ (.bool _)⟩
      simp only [execOp, h, e1, e2]
      simp [hg, binOp, he]
  · have hg : (eqGuard op t x y (.func f fa fc) .nilFunc).run P w = .ok () w := by
      unfold eqGuard; simp
    have he : (Op.equal t (.func f fa fc) .nilFunc).run P w = .ok false w := by
      simp only [show Op.equal t (.func f fa fc) .nilFunc = Op.equalIn (9999 + 1) t (.func f fa fc) .nilFunc from rfl, run_equalIn_fnil' w 9999 t hu]
    rcases hop with rfl | rfl
    · refine ⟨.bool false, ?_, .pure _ _ (.bool false)⟩
      simp only [execOp, h, e1, e2]
      simp [hg, binOp, he]
    · refine ⟨.bool true, ?_, .pure _ _ (.bool _)⟩
      simp only [execOp, h, e1, e2]
      simp [hg, binOp, he]
end
end Go.Pv
