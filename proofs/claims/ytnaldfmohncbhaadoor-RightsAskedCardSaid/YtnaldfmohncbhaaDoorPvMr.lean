/- Abstract values: a contract that tells of a new map; slices that may be nil; calls that are not made. Nothing of any program. -/
import Derived.Test.YtnaldfmohncbhaaDoorPvXg
import Derived.Test.YtnaldfmohncbhaaDoorPvZ
set_option linter.unusedSimpArgs false
set_option linter.unusedVariables false
set_option linter.unusedSectionVars false
namespace Go.Pv
variable [GTab]
theorem Fsp.of_map {P : Program} {f : FuncId} {args : List PV} {es : List (PV × PV)} (hfn : ∃ fn, P.funcs[f]? = some fn ∧ fn.body.isSome = true ∧ (fn.name == "runtime.NumGoroutine") = false)
    (h : ∀ (g : Gh) (w : World) (vs : Array Value), InvW g (st0 [] 0) w → vs.size = args.length → (∀ (i : Nat) (v : Value) (p : PV), vs[i]? = some v → args[i]? = some p → Rel g v p) →
      Calls P f vs w (fun e w' => ∃ (ents : Array MapEntry) (c : Nat), e = .returned (.map (some w.heap.size)) ∧ Pushed w w' (.map ents c) ∧ MapRel g.h ents c es)) : Fsp P f [] 0 args [[.mobj es]] 0 (.mref 0) where
  len := Nat.zero_le _
  fn := hfn
  calls := by
    intro g w vs hI hb ht hs ha
    refine (h g w vs hI hs ha).mono ?_
    rintro e w' ⟨ents, c, rfl, hp, hm⟩
    obtain ⟨h1, h2, h3, h4⟩ := newMapBox hI (nid := 0) ⟨hb 0 (Nat.le_refl _), ht 0 (Nat.le_refl _)⟩ hp hm (δ := { p := .any, wr := [(0, some [.mobj es])], ok := True }) rfl rfl
    have e1 : ∀ i, ((st0 [] 0).app { p := .any, wr := [(0, some [.mobj es])], ok := True }).obj i = (st0 [[.mobj es]] 0).obj i := fun i => rfl
    have e2 : ∀ k, ((st0 [] 0).app { p := .any, wr := [(0, some [.mobj es])], ok := True }).lv k = (st0 [[.mobj es]] 0).lv k := fun k => rfl
    refine ⟨_, g.mbox 0 w.heap.size, rfl, h1.of_eq e1 e2, ?_, fun _ h => by simp at h, fun i h1 h2 => ?_, h4⟩
    · exact ⟨h2.le.h, h2.le.ty, fun b o v h => h2.new b o v h, fun b o hb ho => h2.own b o hb (Own.of_eq (fun i => (e1 i).symm) (fun k => (e2 k).symm) ho), h2.size, h2.keep, h2.os, h2.tape, h2.output⟩
    · have : i = 0 := by simp at h2; omega
      subst this
      exact ⟨w.heap.size, (by simp [Gh.mbox]), Nat.le_refl _⟩
/-- A slice that may be nil. -/
theorem of_sl' {P : Program} {f : FuncId} {bs bs' : List (List PV)} {nt nt' : Nat} {sz : Nat} {es : List PV} {args : List PV} {r : PV} (h1 : es = [] → Fsp P f bs nt (.nilsl :: args) bs' nt' r) (h2 : Fsp P f bs nt (.sln sz es :: args) bs' nt' r) :
    Fsp P f bs nt (.sl sz es :: args) bs' nt' r where
  len := h2.len
  fn := h2.fn
  calls := fun g w vs hI hb ht hs ha => by
    obtain ⟨v, hv⟩ : ∃ v, vs[0]? = some v := ⟨vs[0]'(by rw [hs]; simp), by simp⟩
    have hr := (ha 0 v _ hv rfl).sl_inv
    have rest : ∀ (q : PV), Rel g v q → ∀ (i : Nat) (v' : Value) (p : PV), vs[i]? = some v' → (q :: args)[i]? = some p → Rel g v' p := by
      intro q hq i v' p hv' hp
      cases i with
      | zero => rw [hv] at hv'; cases hv'; cases hp; exact hq
      | succ i => exact ha (i + 1) v' p hv' (by simpa using hp)
    cases hr with
    | slnil => exact (h1 rfl).calls g w vs hI hb ht (by simpa using hs) (rest _ (.pure _ _ .nilsl))
    | slx a => exact h2.calls g w vs hI hb ht (by simpa using hs) (rest _ (.pure _ _ (.slnx a sz)))
    | sl b off n cap _ _ vals hn hc hm hsz hh ho hp => exact h2.calls g w vs hI hb ht (by simpa using hs) (rest _ (.pure _ _ (.sln _ _ _ _ _ _ (.sl b off n cap sz es vals hn hc hm hsz hh ho hp))))
/-- A call that is not made, of whatever value. -/
theorem callE_nop' {P : Program} {nid : Nat} {o : Oper} {S : PS} {K : Dl → Prop} (p : PV) (hK : K { p := p, ok := True }) : callE P nid false o S K :=
  ⟨{ p := p, ok := True }, (fun h => by cases h), (by unfold gdOk; cases o.guard <;> rfl), hK⟩

/-! Maps from integers to integers, plainly. -/
def mkM (m : List (Int × Int)) : List (PV × PV) := m.map fun x => (.int .i64 x.1, .int .i64 x.2)
def msetI (m : List (Int × Int)) (k v : Int) : List (Int × Int) := (k, v) :: m.filter fun x => !decide (k = x.1)
def mdelI (m : List (Int × Int)) (k : Int) : List (Int × Int) := m.filter fun x => !decide (k = x.1)
def mgetI : List (Int × Int) → Int → Int → Int
  | [], _, d => d
  | x :: m, k, d => if k = x.1 then x.2 else mgetI m k d
theorem keyIs_i (a b : Int) : keyIs (.int .i64 a) (.int .i64 b) = decide (a = b) := by
  show (decide (IntKind.i64 = IntKind.i64) && decide (a = b)) = _
  simp
theorem mdel_mkM (m : List (Int × Int)) (k : Int) : mdel (mkM m) (.int .i64 k) = mkM (mdelI m k) := by
  unfold mdel mkM mdelI
  rw [List.filter_map]
  have e : (fun x : Int × Int => !decide (k = x.1)) = ((fun q : PV × PV => !keyIs (.int .i64 k) q.1) ∘ fun x : Int × Int => (PV.int .i64 x.1, PV.int .i64 x.2)) := by
    funext x
    simp only [Function.comp, keyIs_i]
  rw [e]
theorem mset_mkM (m : List (Int × Int)) (k v : Int) : mset (mkM m) (.int .i64 k) (.int .i64 v) = mkM (msetI m k v) := by
  rw [mset, mdel_mkM]; rfl
theorem mgetD_mkM (k d : Int) : ∀ m : List (Int × Int), mgetD (mkM m) (.int .i64 k) (.int .i64 d) = .int .i64 (mgetI m k d)
  | [] => rfl
  | x :: m => by
    have ih := mgetD_mkM k d m
    show (match mget ((.int .i64 x.1, .int .i64 x.2) :: mkM m) (.int .i64 k) with | some q => q | none => .int .i64 d) = _
    unfold mgetD at ih
    simp only [mget, keyIs_i, mgetI]
    by_cases h : k = x.1
    · simp [h]
    · simp only [h, decide_false, if_false]; exact ih
theorem kAll_mkM {P : Program} {t : TypeId} (ht : tk P t = .int .i64) : ∀ m : List (Int × Int), kAll P t (mkM m) = true
  | [] => rfl
  | x :: m => by
    show (kOk P t (.int .i64 x.1) && kAll P t (mkM m)) = true
    rw [kAll_mkM ht m]
    simp [kOk, ht]
end Go.Pv

/- Abstract values: a box that is left as it is from a place of the code on. Nothing of any program. -/
set_option linter.unusedSimpArgs false
set_option linter.unusedVariables false
set_option linter.unusedSectionVars false
namespace Go.Pv
variable [GTab]
def frEnv (F : PV → PV) (l : List (Nat × PV)) : List (Nat × PV) := l.map fun x => (x.1, deep3 F x.2)
def frObjs (F : PV → PV) (l : List (Nat × Option (List PV))) : List (Nat × Option (List PV)) := l.map fun x => (x.1, x.2.map (List.map F))
/-- A box's row stays from now on. -/
def PS.frz (S : PS) (id : Nat) (ps : List PV) : PS := { S with env := frEnv (frz1 id ps) S.env, objs := (id, none) :: frObjs (frz1 id ps) S.objs }
theorem lkp_frEnv {F : PV → PV} (h : deep3 F .any = .any) : ∀ (l : List (Nat × PV)) (t : Nat), lkp .any (frEnv F l) t = deep3 F (lkp .any l t)
  | [], t => h.symm
  | (k, x) :: l, t => by
    show (if k = t then deep3 F x else lkp .any (frEnv F l) t) = deep3 F (if k = t then x else lkp .any l t)
    split
    · rfl
    · exact lkp_frEnv h l t
theorem lkp_frObjs {F : PV → PV} : ∀ (l : List (Nat × Option (List PV))) (t : Nat), lkp none (frObjs F l) t = (lkp none l t).map (List.map F)
  | [], t => rfl
  | (k, x) :: l, t => by
    show (if k = t then x.map (List.map F) else lkp none (frObjs F l) t) = (if k = t then x else lkp none l t).map (List.map F)
    split
    · rfl
    · exact lkp_frObjs l t
theorem Wk.frz {m : Nat} {S : PS} {id : Nat} {ps : List PV} (hob : S.obj id = some ps) (hm : m ≤ id) : Wk m S (S.frz id ps) := by
  intro g tmps w hI hF hp
  obtain ⟨b, q1, _, q6⟩ := hI.w.objs _ ps hob
  obtain ⟨h2, hle, hjj, hoth, hin, hrl⟩ : ∃ h2 : HMap, HMap.le g.h h2 ∧ h2.j = g.h.j ∧ (∀ c o, c ≠ b → h2 c o = g.h c o) ∧ (∀ o v, h2 b o = some v → wcell w b o = some v) ∧ ∀ {v : Value} {p : PV}, Rel g v p → Rel { g with h := h2 } v (frz1 id ps p) := by
    by_cases ht : g.ty b = none
    · exact ⟨g.h, HMap.le_refl _, rfl, fun _ _ _ => rfl, fun o v h => (by rw [q6] at h; cases h), fun r => frz1_no ⟨HMap.le_refl _, fun _ _ h => h, fun _ _ h => h, fun _ _ h => h⟩ q1 ht r⟩
    · obtain ⟨vals, T, fr, q2, _, q3, q4, q5, _⟩ := hI.w.row hob q1 ht
      let h2 : HMap := { c := fun c o => if c = b ∧ o < ps.length then vals[o]? else g.h c o, j := g.h.j }
      have hle : HMap.le g.h h2 := by
        refine ⟨fun c o v hv => ?_, fun _ _ h => h⟩
        show (if c = b ∧ o < ps.length then _ else _) = _
        rw [if_neg (fun e => by rw [e.1, q6] at hv; cases hv)]
        exact hv
      have hfz : Frz g { g with h := h2 } id b vals ps := by
        refine ⟨⟨hle, fun _ _ h => h, fun _ _ h => h, fun _ _ h => h⟩, q1, q3, fun o v ho hv => ?_, q4, fun o v p hv hp => (q5 o v p hv hp).weak.mono hle⟩
        show (if b = b ∧ o < ps.length then _ else _) = _
        rw [if_pos ⟨rfl, ho⟩]; exact hv
      refine ⟨h2, hle, rfl, fun c o e => if_neg (fun e' => e e'.1), fun o v hv => ?_, fun r => frz1_rel hfz r⟩
      have hv' : (if b = b ∧ o < ps.length then vals[o]? else g.h b o) = some v := hv
      split at hv'
      · rw [wcell_cells q2]; exact one?_some hv' (q4 o v hv')
      · rw [q6] at hv'; cases hv'
  let g2 : Gh := { g with h := h2 }
  have hle2 : g.le g2 := ⟨hle, fun _ _ h => h, fun _ _ h => h, fun _ _ h => h⟩
  have hto : ∀ i, (S.frz id ps).obj i = if id = i then none else (S.obj i).map (List.map (frz1 id ps)) := by
    intro i
    show (if id = i then none else lkp none (frObjs (frz1 id ps) S.objs) i) = _
    rw [lkp_frObjs]; rfl
  have hobs : ∀ i qs, (S.frz id ps).obj i = some qs → i ≠ id ∧ ∃ rs, S.obj i = some rs ∧ qs = rs.map (frz1 id ps) := by
    intro i qs hi
    rw [hto] at hi
    split at hi
    · cases hi
    · rename_i hne
      cases hx : S.obj i with
      | none => rw [hx] at hi; cases hi
      | some rs => rw [hx] at hi; cases hi; exact ⟨fun e => hne e.symm, rs, rfl, rfl⟩
  have hobn : ∀ i, (S.frz id ps).obj i ≠ none → S.obj i ≠ none ∧ i ≠ id := by
    intro i hi
    cases hx : (S.frz id ps).obj i with
    | none => exact absurd hx hi
    | some qs => obtain ⟨a1, rs, a2, -⟩ := hobs i qs hx; exact ⟨by simp [a2], a1⟩
  have hne : ∀ i, (S.frz id ps).obj i ≠ none → ∀ c, g.blk i = some c → c ≠ b := by
    intro i hi c hc e
    subst e
    obtain ⟨a1, a2⟩ := hobn i hi
    exact a2 (hI.w.inj i id c a1 (by simp [hob]) hc q1)
  have hown : ∀ c o, Own g2 (S.frz id ps) c o → Own g S c o := by
    intro c o ho
    rcases ho with ⟨i, a1, a2⟩ | ⟨k, lo, hi, a1, a2⟩ | hjn
    · exact .inl ⟨i, (hobn i a1).1, a2⟩
    · exact .inr (.inl ⟨k, lo, hi, a1, a2⟩)
    · exact .inr (.inr (by rw [← hjj]; exact hjn))
  refine ⟨g2, ⟨⟨?_, ?_, ?_, ?_, ?_, hI.w.jnk_of (fun c m h => by rw [← hjj]; exact h) (fun _ _ _ => rfl) (fun c m o h => by rw [hoth c o (fun e => hI.w.jnk_obj (by simp [hob]) q1 (by rw [← e]; exact h))]; exact (hI.w.jnk c m h).2.1 o) (fun i c m _ hid hbk => ⟨(hobn i hid).1, hbk⟩) (fun k c m lo hi _ hk ht _ => ⟨hk, ht⟩), hI.w.tys, hI.w.glm hle⟩, ?_, hI.size⟩, fun j hj => hF j hj, ⟨⟨hle, fun _ _ h => h, ?_, fun c o _ ho => hown c o ho, Nat.le_refl _, fun _ _ => .refl _ _, rfl, rfl, rfl⟩, fun _ _ => rfl⟩⟩
  · intro c o v hv
    by_cases e : c = b
    · subst e; exact hin o v hv
    · exact hI.w.hw c o v (by rw [← hoth c o e]; exact hv)
  · intro i qs hi
    obtain ⟨a1, rs, a2, rfl⟩ := hobs i qs hi
    obtain ⟨c, t1, t2, t6⟩ := hI.w.objs i rs a2
    refine ⟨c, t1, ?_, fun o => (hoth c o (hne i (by simp [hi]) c t1)).trans (t6 o)⟩
    rcases t2 with ⟨vals, T, fr, x1, x2, x3, x4, x5⟩ | ⟨es, ents, cc, x1, x2, x3⟩ | ⟨cur, es, p0, p1, x1, x2, x3, x4⟩
    · refine .inl ⟨vals, T, fr, x1, x2, by simpa using x3, x4, fun j v p hv hp => ?_⟩
      rw [List.getElem?_map] at hp
      obtain ⟨q, hq, rfl⟩ := Option.map_eq_some_iff.1 hp
      exact hrl (x5 j v q hv hq)
    · refine .inr (.inl ⟨es, ents, cc, ?_, x2, x3.mono hle⟩)
      rcases x1 with rfl | rfl
      · exact .inl rfl
      · exact .inr rfl
    · subst x1
      refine .inr (.inr ⟨cur, es, frz1 id ps p0, frz1 id ps p1, rfl, ?_, ?_, x4.mono hle⟩)
      · rcases x2 with rfl | rfl
        · exact .inl rfl
        · exact .inr rfl
      · rcases x3 with rfl | rfl
        · exact .inl rfl
        · exact .inr rfl
  · intro i i' c a1 a2 a3 a4
    exact hI.w.inj i i' c (hobn i a1).1 (hobn i' a2).1 a3 a4
  · intro k hk
    obtain ⟨c, lo, hi, t1, t2⟩ := hI.w.toks k hk
    refine ⟨c, lo, hi, t1, fun hl => ?_⟩
    obtain ⟨t3, t4, t5⟩ := t2 hl
    refine ⟨t3, fun o o1 o2 => ?_, fun i hi' => t5 i (hobn i hi').1⟩
    exact (hoth c o (fun e => t5 id (by simp [hob]) (by rw [e]; exact q1))).trans (t4 o o1 o2)
  · intro k k' c lo hi lo' hi' a1 a2
    exact hI.w.tokd k k' c lo hi lo' hi' a1 a2
  · intro t
    show Rel g2 _ (lkp .any (frEnv (frz1 id ps) S.env) t)
    rw [lkp_frEnv rfl]
    exact deep3_rel hrl (hI.env t)
  · intro c o v hv
    by_cases e : c = b
    · exact .inr (.inr (.inl ⟨id, by simp [hob], by rw [e]; exact q1⟩))
    · exact .inl (by rw [← hoth c o e]; exact hv)
theorem Wk.trans {m : Nat} {S T U : PS} (a : Wk m S T) (b : Wk m T U) : Wk m S U := by
  intro g tmps w hI hF hp
  obtain ⟨g1, h1, h2, h3⟩ := a g tmps w hI hF hp
  obtain ⟨g2, k1, k2, k3⟩ := b g1 tmps w h1 h2 (fun i hi => by rw [h3.pin i hi]; exact hp i hi)
  exact ⟨g2, k1, k2, h3.trans k3⟩
end Go.Pv

/- Abstract values: a map's entries in another order. Nothing of any program. -/
set_option linter.unusedSimpArgs false
set_option linter.unusedVariables false
set_option linter.unusedSectionVars false
namespace Go.Pv
variable [GTab]
theorem MapRel.perm {h : HMap} {ents : Array MapEntry} {c : Nat} {es es2 : List (PV × PV)} (r : MapRel h ents c es) (hp : es.Perm es2) : MapRel h ents c es2 := by
  obtain ⟨w, es', a, b, d, e, f⟩ := r
  exact ⟨w, es', a.trans hp, b, (hp.map Prod.fst).nodup_iff.1 d, e, f⟩
/-- A map's entries, said in another order. -/
theorem Wk.perm {m : Nat} {S : PS} (id : Nat) {es : List (PV × PV)} (es2 : List (PV × PV)) (hob : S.obj id = some [.mobj es]) (hp : es.Perm es2) : Wk m S { S with objs := (id, some [.mobj es2]) :: S.objs } := by
  intro g tmps w hI hF hpin
  let T : PS := { S with objs := (id, some [.mobj es2]) :: S.objs }
  have hto : ∀ i, T.obj i = if id = i then some [.mobj es2] else S.obj i := fun i => lkp_cons _ _ _ _ _
  have hnn : ∀ i, T.obj i ≠ none → S.obj i ≠ none := by
    intro i hi
    rw [hto] at hi
    split at hi
    · rename_i e; subst e; rw [hob]; simp
    · exact hi
  have hnn2 : ∀ i, S.obj i ≠ none → T.obj i ≠ none := by
    intro i hi
    rw [hto]
    split
    · simp
    · exact hi
  have hown : ∀ b o, Own g T b o → Own g S b o := by
    rintro b o (⟨i, a1, a2⟩ | h | h)
    · exact .inl ⟨i, hnn i a1, a2⟩
    · exact .inr (.inl h)
    · exact .inr (.inr h)
  refine ⟨g, ⟨⟨hI.w.hw, ?_, ?_, ?_, ?_, ?_, hI.w.tys, hI.w.gl⟩, hI.env, hI.size⟩, hF, ⟨⟨HMap.le_refl _, fun _ _ h => h, fun _ _ _ h => .inl h, fun b o _ h => hown b o h, Nat.le_refl _, fun _ _ => .refl _ _, rfl, rfl, rfl⟩, fun _ _ => rfl⟩⟩
  · intro i ps hi
    rw [hto] at hi
    split at hi
    · rename_i e
      subst e
      cases hi
      obtain ⟨b, h1, h2, h3⟩ := hI.w.objs _ _ hob
      obtain ⟨ents, c, h4, h5⟩ := mapAt_of h2
      exact ⟨b, h1, .inr (.inl ⟨es2, ents, c, .inl rfl, h4, h5.perm hp⟩), h3⟩
    · exact hI.w.objs i ps hi
  · intro i i' b h1 h2 h3 h4
    exact hI.w.inj i i' b (hnn i h1) (hnn i' h2) h3 h4
  · intro k hk
    obtain ⟨b, lo, hi, h1, h2⟩ := hI.w.toks k hk
    exact ⟨b, lo, hi, h1, fun hl => ⟨(h2 hl).1, (h2 hl).2.1, fun i hid => (h2 hl).2.2 i (hnn i hid)⟩⟩
  · exact fun k k' b lo hi lo' hi' h1 h2 => hI.w.tokd k k' b lo hi lo' hi' h1 h2
  · intro b mm h
    obtain ⟨h1, h2, h3, h4⟩ := hI.w.jnk b mm h
    exact ⟨h1, h2, fun i hid => h3 i (hnn i hid), h4⟩
/-- What a map holds that is filled from another one: in the end it is that one. -/
def fin (es d : List (PV × PV)) : List (PV × PV) → List (PV × PV)
  | [] => es
  | _ => d
theorem fin_perm {es d r : List (PV × PV)} (h : (d ++ r).Perm es) : d.Perm (fin es d r) := by
  cases r with
  | nil => rw [List.append_nil] at h; exact h
  | cons x r => exact List.Perm.refl _
/-- A range that copies: what was, and what is left. -/
structure Cp (es : List (PV × PV)) where
  d : List (PV × PV)
  r : List (PV × PV)
  h : (d ++ r).Perm es
theorem cp_next {es d r rest : List (PV × PV)} {k v : PV} (h : (d ++ r).Perm es) (hp : r.Perm ((k, v) :: rest)) : ((k, v) :: d ++ rest).Perm es := by
  refine .trans ?_ h
  refine .trans ?_ (hp.append_left d).symm
  exact (List.perm_middle (a := (k, v)) (l₁ := d) (l₂ := rest)).symm
theorem cp_new {es d r rest : List (PV × PV)} {k v : PV} (hn : (es.map Prod.fst).Nodup) (h : (d ++ r).Perm es) (hp : r.Perm ((k, v) :: rest)) : ∀ q ∈ d, q.1 ≠ k := by
  have := ((cp_next h hp).map Prod.fst).nodup_iff.2 hn
  rw [List.cons_append, List.map_cons, List.nodup_cons] at this
  intro q hq e
  exact this.1 (by rw [← e]; exact List.mem_map.2 ⟨q, List.mem_append_left _ hq, rfl⟩)
theorem cp_mem {es d r rest : List (PV × PV)} {k v : PV} (h : (d ++ r).Perm es) (hp : r.Perm ((k, v) :: rest)) : (k, v) ∈ es := (cp_next h hp).mem_iff.1 (by simp)
theorem cp_set {es d r rest : List (PV × PV)} {k v : PV} (v' : PV) (hk : keyd k = true) (hn : (es.map Prod.fst).Nodup) (h : (d ++ r).Perm es) (hp : r.Perm ((k, v) :: rest)) : mset d k v' = (k, v') :: d := by
  rw [mset, mdel_none hk (cp_new hn h hp)]
end Go.Pv
