/- Abstract values: slices that grow, over a box. Nothing of any program. -/
import Derived.Test.YtbjeagcnakdmnaaPvJ
set_option linter.unusedSimpArgs false
set_option linter.unusedVariables false
set_option linter.unusedSectionVars false
namespace Go.Pv
variable [GTab]

/-- Boxes given up: the rest stands. -/
theorem InvW.less {g : Gh} {S S2 : PS} {w : World} (hI : InvW g S w) (ho : ∀ i, S2.obj i = S.obj i ∨ S2.obj i = none) (hl : ∀ k, S2.lv k = S.lv k) : InvW g S2 w := by
  have hn : ∀ i, S2.obj i ≠ none → S.obj i ≠ none := fun i h => by
    rcases ho i with e | e
    · rw [← e]; exact h
    · exact absurd e h
  refine ⟨hI.hw, fun i ps h => ?_, fun i i' b h1 h2 => hI.inj i i' b (hn i h1) (hn i' h2), fun k h => ?_, fun k k' b lo hi lo' hi' h1 h2 => hI.tokd k k' b lo hi lo' hi' (by rw [← hl]; exact h1) (by rw [← hl]; exact h2), fun b m h => ?_, hI.tys, hI.gl⟩
  · rcases ho i with e | e
    · rw [e] at h; exact hI.objs i ps h
    · rw [e] at h; cases h
  · obtain ⟨b, lo, hi, h1, h2⟩ := hI.toks k (by rw [← hl]; exact h)
    exact ⟨b, lo, hi, h1, fun h3 => by
      obtain ⟨q1, q2, q3⟩ := h2 h3
      exact ⟨q1, q2, fun i hi' => q3 i (hn i hi')⟩⟩
  · obtain ⟨q1, q2, q3, q4⟩ := hI.jnk b m h
    exact ⟨q1, q2, fun i hi' => q3 i (hn i hi'), fun k lo hi hk => q4 k lo hi (by rw [← hl]; exact hk)⟩
theorem Ext.less {g g' : Gh} {S S1 S2 : PS} {w w' : World} (hE : Ext g S w g' S1 w') (ho : ∀ i, S2.obj i = S1.obj i ∨ S2.obj i = none) (hl : ∀ k, S2.lv k = S1.lv k) : Ext g S w g' S2 w' := by
  refine ⟨hE.le, hE.new, fun b o h1 h2 => hE.own b o h1 ?_, hE.size, hE.keep, hE.os, hE.tape, hE.output⟩
  rcases h2 with ⟨i, hi, hb⟩ | ⟨k, lo, hi, hk, ht⟩ | h
  · refine .inl ⟨i, ?_, hb⟩
    rcases ho i with e | e
    · rw [← e]; exact hi
    · exact absurd e hi
  · exact .inr (.inl ⟨k, lo, hi, by rw [← hl]; exact hk, ht⟩)
  · exact .inr (.inr h)

/-- A box's row gets another number, and other contents. -/
theorem growBox {g S w w'} (hI : InvW g S w) {id nid b : Nat} {ps ps' : List PV} (hob : S.obj id = some ps) (hb : g.blk id = some b) (hf : Fresh g nid) {cur new : Array Value} {T : TypeId} {fr : Nat × Nat} (r : Rowed w w' b cur new T fr) (hfr : FrOk fr cur.size)
    (hn : ps'.length ≤ new.size) (hs : new.size = cur.size) (ho : ∀ (i : Nat) (v : Value), new[i]? = some v → v.oneCell' = true)
    (hr : ∀ (i : Nat) (v : Value) (p : PV), new[i]? = some v → ps'[i]? = some p → Rel g v p) {δ : Dl} (hwr : δ.wr = [(nid, some ps'), (id, none)]) (htk : δ.tk = []) :
    InvW (g.mbox nid b) (S.app δ) w' ∧ Ext g S w (g.mbox nid b) (S.app δ) w' ∧ (∀ j, j ≠ nid → Fresh g j → Fresh (g.mbox nid b) j) ∧ g.le (g.mbox nid b) := by
  have hne : nid ≠ id := fun e => by subst e; rw [hf.1] at hb; cases hb
  have hblk : ∀ i, (g.mbox nid b).blk i = if i = nid then some b else g.blk i := fun _ => rfl
  have hle : g.le (g.mbox nid b) := ⟨HMap.le_refl _, fun i c h => by
    rw [hblk, if_neg (fun e => by subst e; rw [hf.1] at h; cases h)]; exact h, fun _ _ h => h, fun _ _ h => h⟩
  have hobj : ∀ i, (S.app δ).obj i = if nid = i then some ps' else if id = i then none else S.obj i := by
    intro i; simp only [PS.obj, PS.app, hwr, List.cons_append, List.nil_append, lkp_cons]
  have hlv : ∀ k, (S.app δ).lv k = S.lv k := by intro k; simp [PS.lv, PS.app, htk]
  obtain ⟨b', q1, q2, q6⟩ := hI.objs id ps hob
  rw [hb] at q1; cases q1
  -- a box that is kept: the new one, or an elder one with another row
  have kept : ∀ i c, (S.app δ).obj i ≠ none → (g.mbox nid b).blk i = some c → (i = nid ∧ c = b) ∨ (i ≠ nid ∧ i ≠ id ∧ c ≠ b ∧ S.obj i ≠ none ∧ g.blk i = some c) := by
    intro i c h1 h2
    rw [hobj] at h1; rw [hblk] at h2
    by_cases e : i = nid
    · rw [if_pos e] at h2; cases h2; exact .inl ⟨e, rfl⟩
    · rw [if_neg e] at h2; rw [if_neg (Ne.symm e)] at h1
      by_cases e2 : id = i
      · rw [if_pos e2] at h1; exact absurd rfl h1
      · rw [if_neg e2] at h1
        exact .inr ⟨e, Ne.symm e2, fun e3 => e2 (hI.inj id i b (by simp [hob]) h1 hb (by rw [← e3]; exact h2)), h1, h2⟩
  refine ⟨⟨?_, ?_, ?_, ?_, ?_, hI.jnk_of (fun _ _ h => h) (fun c m h => r.other c (fun e => by subst e; exact hI.jnk_obj (by simp [hob]) hb h)) (fun c m o h => (hI.jnk c m h).2.1 o) (fun i c m hj hid hbk => ?_) (fun k c m lo hi _ hk ht _ => ⟨by rw [← hlv]; exact hk, ht⟩), fun c T0 m h => r.tys (g := g) hs hI c T0 m h, hI.glm hle.h⟩, ⟨hle, fun b o v h => .inl h, ?_, by rw [r.size]; exact Nat.le_refl _, ?_, r.os, r.tape, r.output⟩, ?_, hle⟩
  · intro b' o v h
    have h' : g.h.c b' o = some v := h
    rw [r.cell_other (fun e => by subst e; rw [q6] at h'; cases h')]
    exact hI.hw b' o v h'
  · intro i qs hq
    rw [hobj] at hq
    split at hq
    · rename_i e; subst e; cases hq
      exact ⟨b, by rw [hblk, if_pos rfl], .inl ⟨new, T, fr, r.new, by rw [hs]; exact hfr, hn, ho, fun i v p a c => (hr i v p a c).mono hle⟩, q6⟩
    · rename_i e
      split at hq
      · cases hq
      · rename_i e2
        obtain ⟨b2, h1, h2, h6⟩ := hI.objs i qs hq
        refine ⟨b2, by rw [hblk, if_neg (Ne.symm e)]; exact h1, ?_, h6⟩
        rw [r.other b2 (fun e3 => e2 (hI.inj id i b (by simp [hob]) (by simp [hq]) hb (by rw [← e3]; exact h1)))]
        exact h2.mono hle
  · intro i i' b2 h1 h2 h3 h4
    rcases kept i b2 h1 h3 with ⟨e1, e2⟩ | ⟨e1, e2, e3, e4, e5⟩
    · rcases kept i' b2 h2 h4 with ⟨f1, f2⟩ | ⟨f1, f2, f3, f4, f5⟩
      · rw [e1, f1]
      · exact absurd e2 f3
    · rcases kept i' b2 h2 h4 with ⟨f1, f2⟩ | ⟨f1, f2, f3, f4, f5⟩
      · exact absurd f2 e3
      · exact hI.inj i i' b2 e4 f4 e5 f5
  · intro k hk
    rw [hlv] at hk
    obtain ⟨b2, lo, hi, h1, h2⟩ := hI.toks k hk
    refine ⟨b2, lo, hi, h1, fun hl => ?_⟩
    obtain ⟨⟨vs, T', fr', h3, h4⟩, h5, h6⟩ := h2 hl
    have hbb : b2 ≠ b := fun e => h6 id (by simp [hob]) (by rw [e]; exact hb)
    refine ⟨⟨vs, T', fr', ?_, h4⟩, h5, fun i hid hbk => ?_⟩
    · rw [r.other b2 hbb]
      exact h3
    · rcases kept i b2 hid hbk with ⟨e1, e2⟩ | ⟨e1, e2, e3, e4, e5⟩
      · exact hbb e2
      · exact h6 i e4 e5
  · intro k k' b2 lo hi lo' hi' h1 h2 h3 h4 h5
    rw [hlv] at h1 h2
    exact hI.tokd k k' b2 lo hi lo' hi' h1 h2 h3 h4 h5
  · rcases kept i c hid hbk with ⟨e1, e2⟩ | ⟨e1, e2, e3, e4, e5⟩
    · subst e2; exact (hI.jnk_obj (by simp [hob]) hb hj).elim
    · exact ⟨e4, e5⟩
  · intro b2 o _ h
    rcases h with ⟨i, hi, hbk⟩ | ⟨k, lo, hi, hk, ht⟩ | h
    · rcases kept i b2 hi hbk with ⟨e1, e2⟩ | ⟨e1, e2, e3, e4, e5⟩
      · subst e2; exact .inl ⟨id, by simp [hob], hb⟩
      · exact .inl ⟨i, e4, e5⟩
    · exact .inr (.inl ⟨k, lo, hi, by rw [← hlv]; exact hk, ht⟩)
    · exact .inr (.inr h)
  · intro b2 hb2
    by_cases e : b2 = b
    · subst e
      rw [r.old, r.new]
      exact .inr (.inl ⟨cur, new, T, _, _, rfl, rfl, hs, fun o hno => absurd (.inl ⟨id, by simp [hob], hb⟩) hno, .inl rfl⟩)
    · rw [r.other b2 e]; exact .refl _ _
  · intro j hj h
    exact ⟨by rw [hblk, if_neg hj]; exact h.1, h.2⟩

section
variable {P : Program} {nid : Nat} {o : Oper} {ins : Operand → PV} {S : PS} {ok : Prop}

/-- An append to a slice that grows: its row, or a new one; the elder number is given up. -/
theorem append_slg {t xT e sz id n : Nat} {x y : Operand} {ps fs : List PV} {zs : List PV} (ho : o.op = .call { callee := .builtin .append, args := #[x, y], argTypes := #[t, xT] })
    (hx : ins x = .slg id n sz) (hob : S.obj id = some ps) (hnp : n * sz ≤ ps.length) (hy : (ins y).apd sz = some fs) (hT : apdT P xT (ins y)) (ht : tk P t = .sl e) (hs : tsz P e = sz) (hpos : 0 < sz) (hz : zc P e = some zs) (hzl : zs.length = sz)
    (hf0 : 0 < fs.length) (hlen : n + fs.length ≤ maxLen) (hby : (n + fs.length) * tby P e ≤ 140737488355328) :
    LTrip P nid o ins S { p := .slg nid (n + fs.length) sz, wr := [(nid, some (ps.take (n * sz) ++ fs.flatMap PV.cells)), (id, none)], rdB := [id], ok := ok } := by
  refine .of_run fun g S' ρ w hI hr hbb hrt hf => ?_
  have e0 := hr x (by simp [ho, Op.operands, Call.operands])
  have e1 := hr y (by simp [ho, Op.operands, Call.operands])
  rw [hx] at e0
  obtain ⟨b, cap, T, m, hb1, hv, hcap, hmax, hty, hroom⟩ := e0.slg_inv
  have hob' : S'.obj id = some ps := (hbb id (by simp)).trans hob
  obtain ⟨vals, T', fr, h2, hfr, h3, h4, h5, h6⟩ := hI.row hob' hb1 (by rw [hty]; simp)
  obtain ⟨vals2, fr2, k1, k2⟩ := hI.tys b T m hty
  rw [h2] at k1
  cases k1
  obtain ⟨⟨news, hsrc, hnr⟩, hfsz⟩ := apd_src (P := P) hI e1 hy hT
  obtain ⟨zi, z, hi, hz', hn, ho1, hp1⟩ := zc_spec hz
  have hbi : tby P e = zi.bytes := by simp [tby, hi]
  have hzc : z.cells.size = sz := by rw [hn, hzl]
  have hexec : ∀ r w', (Builtin.append_ #[t, xT] o.type #[ρ x, ρ y]).run P w = .ok r w' → (execOp ρ o).run P w = .ok (.value r) w' := by
    intro r w' h
    simp [execOp, ho, resolve, invoke, builtin, h]
  have hff := flat_length hfsz
  have hnl := hsrc.len
  have htl : (ps.take (n * sz)).length = n * sz := by rw [List.length_take]; omega
  have hcs : n * sz ≤ cap * sz := Nat.mul_le_mul_right _ hcap
  have hne : nid ≠ id := fun e => by subst e; rw [hf.1] at hb1; cases hb1
  -- what the new contents are, cell by cell
  have hrel : ∀ (i : Nat) (v : Value) (p : PV), (if n * sz ≤ i ∧ i < n * sz + news.length then news[i - n * sz]? else vals[i]?) = some v → (ps.take (n * sz) ++ fs.flatMap PV.cells)[i]? = some p → Rel g v p := by
    intro i v p hv' hp'
    have hil := (List.getElem?_eq_some_iff.1 hp').1
    rw [List.length_append, htl, hff] at hil
    by_cases hlt : i < n * sz
    · rw [if_neg (by omega)] at hv'
      rw [List.getElem?_append_left (by rw [htl]; exact hlt), List.getElem?_take, if_pos hlt] at hp'
      exact h5 i v p hv' hp'
    · rw [if_pos ⟨by omega, by rw [hnl]; omega⟩] at hv'
      rw [List.getElem?_append_right (by rw [htl]; omega), htl] at hp'
      exact .pure _ _ (hnr _ v p hv' hp')
  by_cases hrm : n + fs.length ≤ cap
  · have hfit : 0 + n * sz + news.length ≤ vals.size := by
      have : (n + fs.length) * sz ≤ cap * sz := Nat.mul_le_mul_right _ hrm
      rw [Nat.add_mul] at this
      omega
    have hrun := run_append_room' (P := P) (ty := o.type) w ht hs hpos hsrc (g := b) (off := 0) (n := n) (cap := cap) (cur := vals) (T := T) (fr := fr) (.inr ⟨h2, hfr, hfit⟩) hrm
    rw [if_neg (by omega), Nat.zero_add] at hrun
    rw [Nat.zero_add] at hfit
    obtain ⟨q1, q2, q3, q4⟩ := growBox (nid := nid) hI hob' hb1 hf (Rowed.setRow w (new := splice vals (n * sz) news) h2) hfr (ps' := ps.take (n * sz) ++ fs.flatMap PV.cells)
      (by rw [splice_size hfit, List.length_append, htl, hff]; omega) (splice_size hfit)
      (fun i v hv' => by
        rw [splice_get hfit] at hv'
        split at hv'
        · exact hsrc.one v (List.mem_of_getElem? hv')
        · exact h4 i v hv')
      (fun i v p hv' hp' => hrel i v p (by rw [← splice_get hfit]; exact hv') hp')
      (δ := { p := .slg nid (n + fs.length) sz, wr := [(nid, some (ps.take (n * sz) ++ fs.flatMap PV.cells)), (id, none)], rdB := [id], ok := ok }) rfl rfl
    refine ⟨_, _, _, .inl (hexec _ _ (by rw [hv]; exact hrun)), q1, q2, q3, .slg nid _ _ cap b T m (by show (if nid = nid then _ else _) = _; rw [if_pos rfl]) hty hrm hmax hroom⟩
  · have hgr := run_append_grow' (P := P) (ty := o.type) w ht hs hpos hsrc hi hz' (a := some ⟨b, 0, none⟩) (n := n) (cap := cap) (olds := vals.toList.take (n * sz)) (fun w' hw' => by
      have hls : (vals.toList.take (n * sz)).length = n * sz := by rw [List.length_take, Array.length_toList]; omega
      have := run_loadCells (P := P) w' ⟨b, 0, none⟩ (n * sz) (fun i => vals[i]?.getD (.bool false)) (fun j hj => by
        have hjv : j < vals.size := by omega
        rw [Addr.add_lit]
        have hc : w'.heap[b]? = some (.cells vals T fr) := by rw [hw']; exact h2
        have h1 := h4 j vals[j] (by simp [hjv])
        simp [World.cell?, hc, hjv, h1])
      have he : (List.range (n * sz)).map (fun i => vals[i]?.getD (.bool false)) = vals.toList.take (n * sz) := by
        apply List.ext_getElem?
        intro i
        rw [List.getElem?_map, List.getElem?_take]
        by_cases hi : i < n * sz
        · have hiv : i < vals.size := by omega
          rw [if_pos hi, List.getElem?_range hi]
          simp [hiv]
        · rw [if_neg hi]
          simp [hi]
      rw [← he]
      simpa [Builtin.firstCells] using this) (by omega) hlen (by rw [← hbi]; exact hby)
    have hgc := grownCap_ge w (n + fs.length) cap e
    have hgm := grownCap_le_maxLen w (n + fs.length) cap e hlen
    generalize grownCap w (n + fs.length) cap e = gc at *
    have hls : (vals.toList.take (n * sz)).length = n * sz := by rw [List.length_take, Array.length_toList]; omega
    have hrs : ((vals.toList.take (n * sz)).toArray ++ news.toArray ++ Builtin.zeroCells z.cells (gc - (n + fs.length))).size = gc * sz := by
      simp only [Array.size_append, List.size_toArray, zeroCells_size, hls, hnl, hzc, ← Nat.add_mul]
      congr 1; omega
    obtain ⟨q1, q2, q3, q4⟩ := newBox (nid := nid) (ps := ps.take (n * sz) ++ fs.flatMap PV.cells) hI hf (Pushed.drew_alloc w (.cells ((vals.toList.take (n * sz)).toArray ++ news.toArray ++ Builtin.zeroCells z.cells (gc - (n + fs.length))) e (0, 0)))
      (by
        rw [hrs, List.length_append, htl, hff, ← Nat.add_mul]
        exact Nat.mul_le_mul_right _ hgc)
      (by
        intro i v hv'
        have hm := Array.mem_of_getElem? hv'
        simp only [Array.mem_append] at hm
        rcases hm with (hm | hm) | hm
        · have h8 : v ∈ vals.toList.take (n * sz) := by simpa using hm
          obtain ⟨j, hj⟩ := List.mem_iff_getElem?.1 (List.mem_of_mem_take h8)
          exact h4 j v (by rw [← Array.getElem?_toList]; exact hj)
        · exact hsrc.one v (by simpa using hm)
        · obtain ⟨j, hj⟩ := Array.mem_iff_getElem?.1 hm
          exact zeroCells_one ho1 _ j v hj)
      (by
        intro i v p hv' hp'
        have hil := (List.getElem?_eq_some_iff.1 hp').1
        rw [List.length_append, htl, hff] at hil
        refine hrel i v p ?_ hp'
        rw [Array.getElem?_append_left (by rw [Array.size_append, List.size_toArray, List.size_toArray, hls, hnl]; omega)] at hv'
        by_cases hlt : i < n * sz
        · rw [if_neg (by omega)]
          rw [Array.getElem?_append_left (by rw [List.size_toArray, hls]; exact hlt), List.getElem?_toArray, List.getElem?_take, if_pos hlt, Array.getElem?_toList] at hv'
          exact hv'
        · rw [if_pos ⟨by omega, by rw [hnl]; omega⟩]
          rw [Array.getElem?_append_right (by rw [List.size_toArray, hls]; omega), List.size_toArray, hls, List.getElem?_toArray] at hv'
          exact hv')
      (δ := { p := .slg nid (n + fs.length) sz, wr := [(nid, some (ps.take (n * sz) ++ fs.flatMap PV.cells))], rdB := [id], ok := ok }) rfl rfl
    have hob2 : ∀ i, (S'.app { p := .slg nid (n + fs.length) sz, wr := [(nid, some (ps.take (n * sz) ++ fs.flatMap PV.cells)), (id, none)], rdB := [id], ok := ok }).obj i = (S'.app { p := .slg nid (n + fs.length) sz, wr := [(nid, some (ps.take (n * sz) ++ fs.flatMap PV.cells))], rdB := [id], ok := ok }).obj i ∨
        (S'.app { p := .slg nid (n + fs.length) sz, wr := [(nid, some (ps.take (n * sz) ++ fs.flatMap PV.cells)), (id, none)], rdB := [id], ok := ok }).obj i = none := by
      intro i
      simp only [PS.obj, PS.app, List.cons_append, List.nil_append, lkp_cons]
      by_cases e1 : nid = i
      · left; rw [if_pos e1, if_pos e1]
      · by_cases e2 : id = i
        · right; rw [if_neg e1, if_pos e2]
        · left; rw [if_neg e1, if_neg e1, if_neg e2]
    refine ⟨_, _, _, .inl (hexec _ _ (by rw [hv]; exact hgr)), q1.less hob2 (fun _ => rfl), q2.less hob2 (fun _ => rfl), q3, .slg nid _ _ gc w.heap.size e (gc * sz) (by show (if nid = nid then _ else _) = _; rw [if_pos rfl]) ?_ hgc hgm (Nat.le_refl _)⟩
    show (if w.heap.size = w.heap.size then _ else _) = _
    rw [if_pos rfl, hrs]
/-- An append to nil, whose row is a box. -/
theorem append_nilg {t xT e sz : Nat} {x y : Operand} {fs : List PV} {zs : List PV} (ho : o.op = .call { callee := .builtin .append, args := #[x, y], argTypes := #[t, xT] })
    (hx : ins x = .nilsl) (hy : (ins y).apd sz = some fs) (hT : apdT P xT (ins y)) (ht : tk P t = .sl e) (hs : tsz P e = sz) (hpos : 0 < sz) (hz : zc P e = some zs) (hzl : zs.length = sz)
    (hf0 : 0 < fs.length) (hlen : fs.length ≤ maxLen) (hby : fs.length * tby P e ≤ 140737488355328) :
    LTrip P nid o ins S { p := .slg nid fs.length sz, wr := [(nid, some (fs.flatMap PV.cells))], ok := ok } := by
  refine .of_run fun g S' ρ w hI hr _ hrt hf => ?_
  have e0 := hr x (by simp [ho, Op.operands, Call.operands])
  have e1 := hr y (by simp [ho, Op.operands, Call.operands])
  rw [hx] at e0
  have hv := e0.nilsl_inv
  obtain ⟨⟨news, hsrc, hnr⟩, hfsz⟩ := apd_src (P := P) hI e1 hy hT
  obtain ⟨zi, z, hi, hz', hn, ho1, hp1⟩ := zc_spec hz
  have hbi : tby P e = zi.bytes := by simp [tby, hi]
  have hzc : z.cells.size = sz := by rw [hn, hzl]
  have hexec : ∀ r w', (Builtin.append_ #[t, xT] o.type #[ρ x, ρ y]).run P w = .ok r w' → (execOp ρ o).run P w = .ok (.value r) w' := by
    intro r w' h
    simp [execOp, ho, resolve, invoke, builtin, h]
  have hgr := run_append_grow' (P := P) (ty := o.type) w ht hs hpos hsrc hi hz' (a := none) (n := 0) (cap := 0) (olds := []) (fun w' hw' => by simp [Builtin.firstCells]) (by omega) (by omega) (by rw [← hbi, Nat.zero_add]; exact hby)
  rw [Nat.zero_add] at hgr
  have hgc := grownCap_ge w fs.length 0 e
  have hgm := grownCap_le_maxLen w fs.length 0 e hlen
  generalize grownCap w fs.length 0 e = gc at *
  have hff := flat_length hfsz
  have hnl := hsrc.len
  have hrs : ((([] : List Value).toArray ++ news.toArray ++ Builtin.zeroCells z.cells (gc - fs.length))).size = gc * sz := by
    simp only [Array.size_append, List.size_toArray, zeroCells_size, List.length_nil, Nat.zero_add, hnl, hzc, ← Nat.add_mul]
    congr 1; omega
  obtain ⟨q1, q2, q3, q4⟩ := newBox (nid := nid) (ps := fs.flatMap PV.cells) hI hf (Pushed.drew_alloc w (.cells (([] : List Value).toArray ++ news.toArray ++ Builtin.zeroCells z.cells (gc - fs.length)) e (0, 0)))
    (by rw [hrs, hff]; exact Nat.mul_le_mul_right _ hgc)
    (by
      intro i v hv'
      have hm := Array.mem_of_getElem? hv'
      simp only [Array.mem_append] at hm
      rcases hm with (hm | hm) | hm
      · simp at hm
      · exact hsrc.one v (by simpa using hm)
      · obtain ⟨j, hj⟩ := Array.mem_iff_getElem?.1 hm
        exact zeroCells_one ho1 _ j v hj)
    (by
      intro i v p hv' hp'
      have hlt : i < news.length := by
        have := (List.getElem?_eq_some_iff.1 hp').1
        rw [hff] at this; omega
      refine .pure _ _ (hnr i v p ?_ hp')
      rw [Array.getElem?_append_left (by simp; omega), Array.getElem?_append_right (by simp)] at hv'
      simpa using hv')
    (δ := { p := .slg nid fs.length sz, wr := [(nid, some (fs.flatMap PV.cells))], ok := ok }) rfl rfl
  refine ⟨_, _, _, .inl (hexec _ _ (by rw [hv]; exact hgr)), q1, q2, q3, .slg nid _ _ gc w.heap.size e (gc * sz) (by show (if nid = nid then _ else _) = _; rw [if_pos rfl]) ?_ hgc hgm (Nat.le_refl _)⟩
  show (if w.heap.size = w.heap.size then _ else _) = _
  rw [if_pos rfl, hrs]
end
end Go.Pv
