/- Abstract values: weaker states; a function's contract out of its code. Nothing of any program. -/
import Derived.Test.YtbjeagcnakdmnaaPvQ
set_option linter.unusedSimpArgs false
set_option linter.unusedVariables false
set_option linter.unusedSectionVars false
namespace Go.Pv
variable [GTab]

/-! ### Weaker states -/
/-- A cell of a box, said more weakly: with the tokens' numbers turned. -/
def wkC (β τ : List (Nat × Nat)) (em : List Nat) (q p : PV) : Prop :=
  match p with
  | .any => True
  | .box i' off =>
    match q with
    | .box i off' => off' = off ∧ lko β i' = some i
    | _ => False
  | .slb i' off n c =>
    match q with
    | .slb i off' n' c' => off' = off ∧ n' = n ∧ c' = c ∧ lko β i' = some i
    | _ => False
  | .slg i' n c =>
    match q with
    | .slg i n' c' => n' = n ∧ c' = c ∧ lko β i' = some i
    | _ => False
  | .slt sz es k' =>
    match q with
    | .slt sz' es' k => sz' = sz ∧ es' = es ∧ lko τ k' = some k
    | .nilsl => es = [] ∧ k' ∈ em
    | _ => False
  | .nbp T i' =>
    match q with
    | .nbp T' i => T' = T ∧ lko β i' = some i
    | _ => False
  | .bsl e es k' =>
    match q with
    | .bsl e' es' k => e' = e ∧ es' = es ∧ lko τ k' = some k
    | _ => False
  | .mref i' =>
    match q with
    | .mref i => lko β i' = some i
    | _ => False
  | p => q.weak = p

def wkL (R : PV → PV → Prop) : List PV → List PV → Prop
  | [], [] => True
  | q :: qs, p :: ps => R q p ∧ wkL R qs ps
  | _, _ => False

theorem wkL_get {R : PV → PV → Prop} : ∀ {qs ps : List PV}, wkL R qs ps → qs.length = ps.length ∧ ∀ (i : Nat) (q p : PV), qs[i]? = some q → ps[i]? = some p → R q p
  | [], [], _ => ⟨rfl, fun i q p h => by simp at h⟩
  | [], _ :: _, h => h.elim
  | _ :: _, [], h => h.elim
  | q :: qs, p :: ps, h => by
    obtain ⟨h1, h2⟩ := h
    obtain ⟨i1, i2⟩ := wkL_get h2
    refine ⟨by simp [i1], fun i q' p' hq hp => ?_⟩
    cases i with
    | zero => simp at hq hp; subst hq; subst hp; exact h1
    | succ i => exact i2 i q' p' (by simpa using hq) (by simpa using hp)

/-- A value, said more weakly: with the boxes' and tokens' numbers turned. -/
def wkV (β τ : List (Nat × Nat)) (em : List Nat) (q p : PV) : Prop :=
  match p with
  | .any => True
  | .slt sz es k' =>
    match q with
    | .slt sz' es' k => sz' = sz ∧ es' = es ∧ lko τ k' = some k
    | .nilsl => es = [] ∧ k' ∈ em
    | _ => False
  | .box i' off =>
    match q with
    | .box i off' => off' = off ∧ lko β i' = some i
    | _ => False
  | .slb i' off n c =>
    match q with
    | .slb i off' n' c' => off' = off ∧ n' = n ∧ c' = c ∧ lko β i' = some i
    | _ => False
  | .slg i' n c =>
    match q with
    | .slg i n' c' => n' = n ∧ c' = c ∧ lko β i' = some i
    | _ => False
  | .mref i' =>
    match q with
    | .mref i => lko β i' = some i
    | _ => False
  | .iref i' =>
    match q with
    | .iref i => lko β i' = some i
    | _ => False
  | .yld i' =>
    match q with
    | .yld i => lko β i' = some i
    | _ => False
  | .fn f ps =>
    match q with
    | .fn f' qs => f' = f ∧ wkL (fun q p => match p with | .box i' off => (match q with | .box i off' => off' = off ∧ lko β i' = some i | _ => False) | p => q.weak = p) qs ps
    | _ => False
  | .agg ps => q.el = .agg ps ∨ ∃ qs, q = .agg qs ∧ wkL (wkC β τ em) qs ps
  | .sl sz es => q.el = .sl sz es ∨ (q = .nilsl ∧ es = [])
  | .tup ps => ∃ qs, q = .tup qs ∧ wkL (fun q p => q.el = p ∨ wkC β τ em q p) qs ps
  | p => q.el = p

def Gh.wk (g : Gh) (β τ : List (Nat × Nat)) (em : List Nat) : Gh :=
  { h := g.h, blk := fun i => (lko β i).bind g.blk, tok := fun i => if i ∈ em then some (0, 0, 0) else (lko τ i).bind g.tok, ty := g.ty }

theorem wkC_rel {g : Gh} {β τ : List (Nat × Nat)} {em : List Nat} (hd : ∀ k, k ∈ em → lko τ k = none) {v : Value} {q p : PV} (r : Rel g v q) (h : wkC β τ em q p) : Rel (g.wk β τ em) v p := by
  unfold wkC at h
  split at h
  · exact .pure _ _ (.any _)
  · rename_i i' off
    split at h
    · rename_i i off'
      obtain ⟨rfl, hi⟩ := h
      have ht := fun b h => r.box_ty (b := b) h
      obtain ⟨b, h1, rfl⟩ := r.box_inv
      exact .box i' off' b (by simp [Gh.wk, hi, h1]) (ht b h1)
    · exact h.elim
  · rename_i i' off n c
    split at h
    · rename_i i off' n' c'
      obtain ⟨rfl, rfl, rfl, hi⟩ := h
      have ht := fun b h => r.slb_ty (b := b) h
      obtain ⟨b, cap, h1, rfl, h2, h3⟩ := r.slb_inv
      exact .slb i' off' n' c' cap b (by simp [Gh.wk, hi, h1]) (ht b h1) h2 h3
    · exact h.elim
  · rename_i i' n c
    split at h
    · rename_i i n' c'
      obtain ⟨rfl, rfl, hi⟩ := h
      obtain ⟨b, cap, T, m, h1, rfl, h2, h3, h4, h5⟩ := r.slg_inv
      exact .slg i' n' c' cap b T m (by simp [Gh.wk, hi, h1]) h4 h2 h3 h5
    · exact h.elim
  · rename_i sz es k'
    split at h
    · rename_i sz' es' k
      obtain ⟨rfl, rfl, hk⟩ := h
      obtain ⟨h1, h2⟩ := r.slt_inv
      refine .slt v sz' es' k' h1 (fun b lo hi hs hl => ?_)
      show (if k' ∈ em then _ else _) = _
      rw [if_neg (fun e => by rw [hd k' e] at hk; cases hk), hk]
      exact h2 b lo hi hs hl
    · obtain ⟨rfl, hk⟩ := h
      rw [r.nilsl_inv]
      exact .slt _ sz [] k' (.slnil sz) (fun b lo hi hs => by simp [spare] at hs)
    · exact h.elim
  · rename_i T i'
    split at h
    · rename_i T' i
      obtain ⟨rfl, hi⟩ := h
      obtain ⟨b, h1, h2, h3⟩ := r.nbp_inv
      exact .nbp v T' i' b (by simp [Gh.wk, hi, h1]) h2 h3
    · exact h.elim
  · rename_i e es k'
    split at h
    · rename_i e' es' k
      obtain ⟨rfl, rfl, hk⟩ := h
      obtain ⟨h1, h2, h3⟩ := r.bsl_inv
      refine .bsl v e' es' k' h1 (fun b lo hi hs hl => ?_) h3
      show (if k' ∈ em then _ else _) = _
      rw [if_neg (fun x => by rw [hd k' x] at hk; cases hk), hk]
      exact h2 b lo hi hs hl
    · exact h.elim
  · rename_i i'
    split at h
    · rename_i i
      obtain ⟨b, h1, rfl⟩ := r.mref_inv
      exact .mref i' b (by simp [Gh.wk, h, h1])
    · exact h.elim
  · rw [← h]
    exact .pure _ _ r.weak

theorem wkV_rel {g : Gh} {β τ : List (Nat × Nat)} {em : List Nat} (hd : ∀ k, k ∈ em → lko τ k = none) {v : Value} {q p : PV} (r : Rel g v q) (h : wkV β τ em q p) : Rel (g.wk β τ em) v p := by
  unfold wkV at h
  split at h
  · exact .pure _ _ (.any _)
  · rename_i sz es k'
    refine wkC_rel hd r (p := .slt sz es k') ?_
    unfold wkC
    exact h
  · rename_i i' off
    split at h
    · rename_i i off'
      obtain ⟨rfl, hi⟩ := h
      have ht := fun b h => r.box_ty (b := b) h
      obtain ⟨b, h1, rfl⟩ := r.box_inv
      exact .box i' off' b (by simp [Gh.wk, hi, h1]) (ht b h1)
    · exact h.elim
  · rename_i i' off n c
    split at h
    · rename_i i off' n' c'
      obtain ⟨rfl, rfl, rfl, hi⟩ := h
      have ht := fun b h => r.slb_ty (b := b) h
      obtain ⟨b, cap, h1, rfl, h2, h3⟩ := r.slb_inv
      exact .slb i' off' n' c' cap b (by simp [Gh.wk, hi, h1]) (ht b h1) h2 h3
    · exact h.elim
  · rename_i i' n c
    split at h
    · rename_i i n' c'
      obtain ⟨rfl, rfl, hi⟩ := h
      obtain ⟨b, cap, T, m, h1, rfl, h2, h3, h4, h5⟩ := r.slg_inv
      exact .slg i' n' c' cap b T m (by simp [Gh.wk, hi, h1]) h4 h2 h3 h5
    · exact h.elim
  · rename_i i'
    split at h
    · rename_i i
      obtain ⟨b, h1, rfl⟩ := r.mref_inv
      exact .mref i' b (by simp [Gh.wk, h, h1])
    · exact h.elim
  · rename_i i'
    split at h
    · rename_i i
      obtain ⟨b, h1, rfl⟩ := r.iref_inv
      exact .iref i' b (by simp [Gh.wk, h, h1])
    · exact h.elim
  · rename_i i'
    split at h
    · rename_i i
      obtain ⟨b, h1, rfl⟩ := r.yld_inv
      exact .yld i' b (by simp [Gh.wk, h, h1])
    · exact h.elim
  · rename_i f ps
    split at h
    · rename_i f' qs
      obtain ⟨rfl, hw⟩ := h
      obtain ⟨hl, hw⟩ := wkL_get hw
      obtain ⟨vs, rfl, hn, hp⟩ := r.fn_inv
      refine .fn f' vs ps (by rw [hn, hl]) ?_
      intro i v p hv hpp
      have hi : i < qs.length := by rw [hl]; exact (List.getElem?_eq_some_iff.1 hpp).1
      have hq : qs[i]? = some qs[i] := by simp [hi]
      have rr := hp i v _ hv hq
      have hh := hw i _ p hq hpp
      split at hh
      · split at hh
        · rename_i heq
          obtain ⟨rfl, hb⟩ := hh
          rw [heq] at rr
          have ht := fun b h => rr.box_ty (b := b) h
          obtain ⟨b, h1, rfl⟩ := rr.box_inv
          exact .box _ _ b (by simp [Gh.wk, hb, h1]) (ht b h1)
        · exact hh.elim
      · rw [← hh]; exact .pure _ _ rr.weak
    · exact h.elim
  · rename_i ps
    rcases h with h | ⟨qs, rfl, hw⟩
    · rw [← h]; exact .pure _ _ r.el
    · obtain ⟨hl, hw⟩ := wkL_get hw
      obtain ⟨vs, rfl, hn, ho, hp⟩ := r.agg_inv
      refine .agg vs ps (by rw [hn, hl]) ho ?_
      intro i v p hv hpp
      have hi : i < qs.length := by rw [hl]; exact (List.getElem?_eq_some_iff.1 hpp).1
      have hq : qs[i]? = some qs[i] := by simp [hi]
      exact wkC_rel hd (hp i v _ hv hq) (hw i _ p hq hpp)
  · rcases h with h | ⟨rfl, rfl⟩
    · rw [← h]; exact .pure _ _ r.el
    · rw [r.nilsl_inv]; exact .pure _ _ (.slnil _)
  · rename_i ps
    obtain ⟨qs, rfl, hw⟩ := h
    obtain ⟨hl, hw⟩ := wkL_get hw
    obtain ⟨vs, rfl, hn, hp⟩ := r.tup_inv
    refine .tup vs ps (by rw [hn, hl]) ?_
    intro i v p hv hpp
    have hi : i < qs.length := by rw [hl]; exact (List.getElem?_eq_some_iff.1 hpp).1
    have hq : qs[i]? = some qs[i] := by simp [hi]
    rcases hw i _ p hq hpp with h | h
    · rw [← h]; exact .pure _ _ (hp i v _ hv hq).el
    · exact wkC_rel hd (hp i v _ hv hq) h
  · rw [← h]; exact .pure _ _ r.el

def nodupB (l : List Nat) : Bool := match l with | [] => true | x :: xs => !xs.contains x && nodupB xs
theorem nodupB_spec : ∀ {l : List Nat}, nodupB l = true → l.Nodup
  | [], _ => List.nodup_nil
  | x :: xs, h => by
    simp only [nodupB, Bool.and_eq_true, Bool.not_eq_true'] at h
    rw [List.nodup_cons]
    exact ⟨by simpa using h.1, nodupB_spec h.2⟩

theorem lko_mem {α : Type} : ∀ {l : List (Nat × α)} {k : Nat} {x : α}, lko l k = some x → (k, x) ∈ l
  | [], k, x, h => by cases h
  | (a, b) :: l, k, x, h => by
    simp only [lko] at h
    split at h
    · rename_i e; subst e; cases h; exact List.mem_cons_self ..
    · exact List.mem_cons_of_mem _ (lko_mem h)

theorem lko_inj {l : List (Nat × Nat)} (hn : (l.map (·.2)).Nodup) {a b x : Nat} (ha : lko l a = some x) (hb : lko l b = some x) : a = b := by
  have h1 := lko_mem ha
  have h2 := lko_mem hb
  clear ha hb
  induction l with
  | nil => cases h1
  | cons y l ih =>
    rw [List.map_cons, List.nodup_cons] at hn
    rcases List.mem_cons.1 h1 with e1 | h1 <;> rcases List.mem_cons.1 h2 with e2 | h2
    · rw [← e1] at e2; cases e2; rfl
    · rw [← e1] at hn; exact absurd (List.mem_map.2 ⟨(b, x), h2, rfl⟩) hn.1
    · rw [← e2] at hn; exact absurd (List.mem_map.2 ⟨(a, x), h1, rfl⟩) hn.1
    · exact ih hn.2 h1 h2

theorem lkp_mem {α : Type} {d : α} : ∀ {l : List (Nat × α)} {t : Nat}, (∃ x, (t, x) ∈ l ∧ lkp d l t = x) ∨ lkp d l t = d
  | [], t => .inr rfl
  | (k, x) :: l, t => by
    simp only [lkp]
    split
    · rename_i e; subst e; exact .inl ⟨x, List.mem_cons_self .., rfl⟩
    · rcases lkp_mem (d := d) (l := l) (t := t) with ⟨y, h1, h2⟩ | h
      · exact .inl ⟨y, List.mem_cons_of_mem _ h1, h2⟩
      · exact .inr h

/-- Whether a state says less, to be reckoned. T's boxes and tokens are named by β and τ (T's number, S's number); those of em are new and own nothing. -/
structure WkOf (m : Nat) (S T : PS) (β τ : List (Nat × Nat)) (em : List Nat) : Prop where
  n : T.n ≤ S.n
  env : ∀ x ∈ T.env, wkV β τ em (S.get x.1) x.2
  objs : ∀ x ∈ T.objs, match x.2 with | none => True | some ps => ∃ i, lko β x.1 = some i ∧ ∃ qs, S.obj i = some qs ∧ (qs = ps ∨ wkL (wkC β τ em) qs ps)
  same : ∀ x ∈ T.objs, match x.2 with | none => True | some ps => ∀ i qs, lko β x.1 = some i → S.obj i = some qs → qs = ps → ∀ q ∈ qs, wkC β τ em q q
  live : ∀ x ∈ T.live, x.2 = true → x.1 ∈ em ∨ ∃ k, lko τ x.1 = some k ∧ S.lv k = true
  bn : nodupB (β.map (·.2)) = true
  tn : nodupB (τ.map (·.2)) = true
  ed : ∀ k ∈ em, lko τ k = none
  bx : ∀ x ∈ β, x.1 < T.nxt
  tx : ∀ x ∈ τ, x.1 < T.nxt
  ex : ∀ k ∈ em, k < T.nxt
  pin : ∀ i, i < m → lko β i = some i

theorem WkOf.wk {m S T β τ em} (h : WkOf m S T β τ em) : Wk m S T := by
  intro g tmps w hI hF hp
  have hTobj : ∀ id ps, T.obj id = some ps → ∃ i qs, lko β id = some i ∧ S.obj i = some qs ∧ qs.length = ps.length ∧ ∀ (j : Nat) (q p : PV), qs[j]? = some q → ps[j]? = some p → wkC β τ em q p := by
    intro id ps hps
    rcases lkp_mem (d := none) (l := T.objs) (t := id) with ⟨x, h1, h2⟩ | h1
    · have e : x = some ps := by rw [← h2]; exact hps
      subst e
      have h3 := h.objs _ h1
      have h4 := h.same _ h1
      simp only at h3 h4
      obtain ⟨i, hi, qs, hq, hw⟩ := h3
      refine ⟨i, qs, hi, hq, ?_⟩
      rcases hw with e | hw
      · subst e
        refine ⟨rfl, fun j q p hq' hp' => ?_⟩
        rw [hq'] at hp'; cases hp'
        exact h4 i qs hi hq rfl q (List.mem_of_getElem? hq')
      · exact wkL_get hw
    · have : T.obj id = none := h1
      rw [this] at hps; cases hps
  have hTlv : ∀ k, T.lv k = true → k ∈ em ∨ ∃ j, lko τ k = some j ∧ S.lv j = true := by
    intro k hk
    rcases lkp_mem (d := false) (l := T.live) (t := k) with ⟨x, h1, h2⟩ | h1
    · have e : x = true := by rw [← h2]; exact hk
      subst e
      exact h.live _ h1 rfl
    · have : T.lv k = false := h1
      rw [this] at hk; cases hk
  have htokE : ∀ k, k ∈ em → (g.wk β τ em).tok k = some (0, 0, 0) := fun k hk => by show (if _ then _ else _) = _; rw [if_pos hk]
  have htokT : ∀ k j, lko τ k = some j → (g.wk β τ em).tok k = g.tok j := fun k j hk => by
    show (if _ then _ else _) = _
    rw [if_neg (fun e => by rw [h.ed k e] at hk; cases hk), hk]; rfl
  have hblk : ∀ i j, lko β i = some j → (g.wk β τ em).blk i = g.blk j := fun i j hi => by show (lko β i).bind g.blk = _; rw [hi]; rfl
  have ownT : ∀ b o, Own (g.wk β τ em) T b o → Own g S b o := by
    intro b o ho
    rcases ho with ⟨id, h1, h2⟩ | ⟨k, lo, hi, h1, h2, h3, h4⟩ | hjn
    rotate_right
    · exact .inr (.inr hjn)
    · cases hx : T.obj id with
      | none => exact absurd hx h1
      | some ps =>
        obtain ⟨i, qs, q1, q2, _⟩ := hTobj id ps hx
        rw [hblk id i q1] at h2
        exact .inl ⟨i, by simp [q2], h2⟩
    · rcases hTlv k h1 with he | ⟨j, q1, q2⟩
      · rw [htokE k he] at h2; cases h2; omega
      · rw [htokT k j q1] at h2; exact .inr (.inl ⟨j, lo, hi, q2, h2, h3, h4⟩)
  refine ⟨g.wk β τ em, ⟨⟨hI.w.hw, ?_, ?_, ?_, ?_, hI.w.jnk_gen (fun _ _ h => h) (fun _ _ _ => rfl) (fun c m o h => (hI.w.jnk c m h).2.1 o) (fun id c m _ hid hbk => by
      cases hx : T.obj id with
      | none => exact absurd hx hid
      | some ps =>
        obtain ⟨i, qs, q1, q2, _⟩ := hTobj id ps hx
        rw [hblk id i q1] at hbk
        exact ⟨i, by simp [q2], hbk⟩) (fun k c m lo hi _ hk hkt hl => by
      rcases hTlv k hk with he | ⟨j, q1, q2⟩
      · rw [htokE k he] at hkt; cases hkt; omega
      · rw [htokT k j q1] at hkt; exact ⟨j, lo, hi, q2, hkt, hl⟩), hI.w.tys, hI.w.gl⟩, ?_, Nat.le_trans h.n hI.size⟩, ?_, ⟨⟨HMap.le_refl _, fun _ _ e => e, fun _ _ _ e => .inl e, fun b o _ e => ownT b o e, Nat.le_refl _, fun _ _ => .refl _ _, rfl, rfl, .rf⟩, ?_⟩⟩
  · intro id ps hps
    obtain ⟨i, qs, q1, q2, q3, q4⟩ := hTobj id ps hps
    obtain ⟨b, r1, ro, r6⟩ := hI.w.objs i qs q2
    refine ⟨b, by rw [hblk id i q1]; exact r1, ?_, r6⟩
    rcases ro with ⟨vals, U, fr, r2, rf, r3, r4, r5⟩ | ⟨es, ents, c, hds, r2, r3⟩ | ⟨cur, es, p0, p1, hds, e1, e2, r3⟩
    rotate_left
    rotate_left
    · subst hds
      obtain ⟨u0, u1, rfl⟩ : ∃ u0 u1, ps = [u0, u1] := by
        match ps, q3 with
        | [u0, u1], _ => exact ⟨u0, u1, rfl⟩
      refine .inr (.inr ⟨cur, es, u0, u1, rfl, ?_, ?_, r3⟩)
      · have := q4 0 _ u0 rfl rfl
        unfold wkC at this
        rcases e1 with rfl | rfl <;> split at this <;> first | exact .inr rfl | exact this.elim | exact .inr (by rw [← this]; rfl)
      · have := q4 1 _ u1 rfl rfl
        unfold wkC at this
        rcases e2 with rfl | rfl <;> split at this <;> first | exact .inr rfl | exact this.elim | exact .inl (by rw [← this]; rfl) | exact .inr (by rw [← this]; rfl)
    rotate_left
    · obtain ⟨p, rfl⟩ : ∃ p, ps = [p] := by
        have : ps.length = 1 := by rw [← q3]; rcases hds with rfl | rfl <;> rfl
        match ps, this with
        | [p], _ => exact ⟨p, rfl⟩
      refine .inr (.inl ⟨es, ents, c, ?_, r2, r3⟩)
      rcases hds with rfl | rfl
      · have := q4 0 _ p rfl rfl
        unfold wkC at this
        split at this <;> first | exact .inr rfl | exact this.elim | exact .inl (by rw [← this]; rfl)
      · have := q4 0 _ p rfl rfl
        unfold wkC at this
        split at this <;> first | exact .inr rfl | exact this.elim | exact .inr (by rw [← this]; rfl)
    refine .inl ⟨vals, U, fr, r2, rf, (by rw [← q3]; exact r3), r4, ?_⟩
    intro j v p hv hpp
    have hj : j < qs.length := by rw [q3]; exact (List.getElem?_eq_some_iff.1 hpp).1
    have hq : qs[j]? = some qs[j] := by simp [hj]
    exact wkC_rel h.ed (r5 j v _ hv hq) (q4 j _ p hq hpp)
  · intro id id' b h1 h2 h3 h4
    cases hx : T.obj id with
    | none => exact absurd hx h1
    | some ps =>
      cases hx' : T.obj id' with
      | none => exact absurd hx' h2
      | some ps' =>
        obtain ⟨i, qs, q1, q2, _⟩ := hTobj id ps hx
        obtain ⟨i', qs', q1', q2', _⟩ := hTobj id' ps' hx'
        rw [hblk id i q1] at h3; rw [hblk id' i' q1'] at h4
        have := hI.w.inj i i' b (by simp [q2]) (by simp [q2']) h3 h4
        subst this
        exact lko_inj (nodupB_spec h.bn) q1 q1'
  · intro k hk
    rcases hTlv k hk with he | ⟨j, q1, q2⟩
    · exact ⟨0, 0, 0, htokE k he, fun hl => by omega⟩
    · obtain ⟨b, lo, hi, r1, r2⟩ := hI.w.toks j q2
      refine ⟨b, lo, hi, by rw [htokT k j q1]; exact r1, fun hl => ?_⟩
      obtain ⟨r3, r4, r5⟩ := r2 hl
      refine ⟨r3, r4, fun id hid => ?_⟩
      cases hx : T.obj id with
      | none => exact absurd hx hid
      | some ps =>
        obtain ⟨i, qs, q1, q2, _⟩ := hTobj id ps hx
        rw [hblk id i q1]
        exact r5 i (by simp [q2])
  · intro k k' b lo hi lo' hi' h1 h2 hne h3 h4
    rcases hTlv k h1 with he | ⟨j, q1, q2⟩ <;> rcases hTlv k' h2 with he' | ⟨j', q1', q2'⟩
    · rw [htokE k he] at h3; cases h3; exact .inl rfl
    · rw [htokE k he] at h3; cases h3; exact .inl rfl
    · rw [htokE k' he'] at h4; cases h4; exact .inr rfl
    · rw [htokT k j q1] at h3; rw [htokT k' j' q1'] at h4
      exact hI.w.tokd j j' b lo hi lo' hi' q2 q2' (fun e => hne (lko_inj (nodupB_spec h.tn) q1 (e ▸ q1'))) h3 h4
  · intro t
    rcases lkp_mem (d := PV.any) (l := T.env) (t := t) with ⟨x, h1, h2⟩ | h1
    · have := h.env _ h1
      rw [show T.get t = x from h2]
      exact wkV_rel h.ed (hI.env t) this
    · rw [show T.get t = .any from h1]; exact .pure _ _ (.any _)
  · intro j hj
    have hb : lko β j = none := by
      cases hx : lko β j with
      | none => rfl
      | some i => have := h.bx _ (lko_mem hx); simp at this; omega
    have ht : lko τ j = none := by
      cases hx : lko τ j with
      | none => rfl
      | some i => have := h.tx _ (lko_mem hx); simp at this; omega
    have he : j ∉ em := fun e => by have := h.ex _ e; omega
    refine ⟨?_, ?_⟩
    · show (lko β j).bind g.blk = none; rw [hb]; rfl
    · show (if j ∈ em then _ else _) = none; rw [if_neg he, ht]; rfl
  · intro i hi
    exact hblk i i (h.pin i hi)

/-! ### A function's contract -/
/-- What the result variables hold. -/
def resPV (P : Program) (S : PS) : List ResultVar → Option (List PV)
  | [] => some []
  | .tmp t :: rs => (resPV P S rs).map fun l => S.get t :: l
  | .cell a t :: rs =>
    match S.get a with
    | .box id off =>
      match S.obj id with
      | some ps => (resPV P S rs).map fun l => ldPV P t (ps.drop off) :: l
      | none => none
    | _ => none

def resOk (P : Program) (S : PS) : List ResultVar → Prop
  | [] => True
  | .tmp _ :: rs => resOk P S rs
  | .cell a t :: rs =>
    (match S.get a with
    | .box id off => (match S.obj id with | some ps => ldOk P t (ps.drop off) | none => False)
    | _ => False) ∧ resOk P S rs

def resOne (tmps : Array Value) : ResultVar → Sem Value
  | .tmp t => pure (tmps.getD t undef)
  | .cell a t => do loadVar t (← asAddr (tmps.getD a undef))

theorem run_results {P : Program} {g : Gh} {S : PS} {tmps : Array Value} {w : World} (hI : Inv g S tmps w) : ∀ {rs : List ResultVar} {l : List PV}, resPV P S rs = some l → resOk P S rs →
    ∃ vs : List Value, ((rs.mapM (resOne tmps)).run P w = .ok vs w) ∧ vs.length = l.length ∧
      ∀ (i : Nat) (v : Value) (p : PV), vs[i]? = some v → l[i]? = some p → Rel g v p
  | [], l, h, _ => by simp [resPV] at h; subst h; exact ⟨[], by simp, rfl, fun i v p hv => by simp at hv⟩
  | .tmp t :: rs, l, h, ho => by
    simp only [resPV] at h
    cases hr : resPV P S rs with
    | none => rw [hr] at h; cases h
    | some l' =>
      rw [hr] at h; cases h
      obtain ⟨vs, h1, h2, h3⟩ := run_results hI hr ho
      refine ⟨tmps.getD t undef :: vs, ?_, by simp [h2], ?_⟩
      · simp only [List.mapM_cons, resOne, Sem.run_bind, Sem.run_pure, Result.andThen_ok, h1]
      · intro i v p hv hp
        cases i with
        | zero => simp at hv hp; subst hv; subst hp; simpa using hI.env t
        | succ i => exact h3 i v p (by simpa using hv) (by simpa using hp)
  | .cell a t :: rs, l, h, ho => by
    simp only [resPV] at h
    simp only [resOk] at ho
    cases hg : S.get a <;> rw [hg] at h ho <;> simp only at h ho <;> try cases h
    rename_i id off
    cases hob : S.obj id with
    | none => rw [hob] at h; cases h
    | some ps =>
      rw [hob] at h ho
      simp only at h ho
      cases hr : resPV P S rs with
      | none => rw [hr] at h; cases h
      | some l' =>
        rw [hr] at h; cases h
        obtain ⟨vs, h1, h2, h3⟩ := run_results hI hr ho.2
        have he := hI.env a
        rw [hg] at he
        obtain ⟨b, hb, hv⟩ := he.box_inv
        have hc := (hI.w.boxCells hob hb (he.box_ty hb)).drop off
        rw [Nat.zero_add] at hc
        obtain ⟨v, q1, q2⟩ := run_load_of (P := P) hc ho.1
        refine ⟨v :: vs, ?_, by simp [h2], ?_⟩
        · have hone : (resOne tmps (.cell a t)).run P w = .ok v w := by
            simp only [resOne, Sem.run_bind, hv, asAddr, Sem.run_pure, Result.andThen_ok, q1]
          simp only [List.mapM_cons, Sem.run_bind, hone, Sem.run_pure, Result.andThen_ok, h1]
        · intro i v' p hv' hp
          cases i with
          | zero => simp at hv' hp; subst hv'; subst hp; exact q2
          | succ i => exact h3 i v' p (by simpa using hv') (by simpa using hp)

/-- One value, or a tuple. -/
def one' : List PV → PV
  | [p] => p
  | l => .tup l

/-- A result's part, as the contract tells it: τ names the tokens, γ the boxes. -/
def res1 (τ γ : List Nat) (q p : PV) : Prop :=
  match p with
  | .slt sz es i =>
    match q with
    | .slt sz' es' k => sz' = sz ∧ es' = es ∧ τ[i]? = some k
    | _ => False
  | .slb i off n sz =>
    match q with
    | .slb j off' n' sz' => off' = off ∧ n' = n ∧ sz' = sz ∧ γ[i]? = some j
    | _ => False
  | .slg i n sz =>
    match q with
    | .slg j n' sz' => n' = n ∧ sz' = sz ∧ γ[i]? = some j
    | _ => False
  | .box i off =>
    match q with
    | .box j off' => off' = off ∧ γ[i]? = some j
    | _ => False
  | .nbp T i =>
    match q with
    | .nbp T' j => T' = T ∧ γ[i]? = some j
    | _ => False
  | .bsl e es i =>
    match q with
    | .bsl e' es' k => e' = e ∧ es' = es ∧ τ[i]? = some k
    | _ => False
  | .mref i =>
    match q with
    | .mref j => γ[i]? = some j
    | _ => False
  | .sl sz es => q.weak = .sl sz es ∨ ((q = .nilsl ∨ q = .sl0 sz) ∧ es = [])
  | p => q.weak = p
def res2 (τ γ : List Nat) (q p : PV) : Prop :=
  match p with
  | .agg ps => q.el = .agg ps ∨ ∃ qs, q = .agg qs ∧ wkL (res1 τ γ) qs ps
  | .fn f ps => q.weak = .fn f ps ∨ ∃ qs, q = .fn f qs ∧ wkL (res1 τ γ) qs ps
  | .sl sz es => q.el = .sl sz es ∨ (q = .nilsl ∧ es = [])
  | p => res1 τ γ q p
def res3 (τ γ : List Nat) (q p : PV) : Prop :=
  match p with
  | .tup ps => ∃ qs, q = .tup qs ∧ wkL (res2 τ γ) qs ps
  | p => res2 τ γ q p

def Gh.res (g : Gh) (τ γ : List Nat) : Gh := { h := g.h, blk := fun i => (γ[i]?).bind g.blk, tok := fun i => (τ[i]?).bind g.tok, ty := g.ty }

theorem res1_rel {g : Gh} {τ γ : List Nat} {v : Value} {q p : PV} (r : Rel g v q) (h : res1 τ γ q p) : Rel (g.res τ γ) v p := by
  unfold res1 at h
  split at h
  · rename_i sz es i
    split at h
    · rename_i sz' es' k
      obtain ⟨rfl, rfl, hk⟩ := h
      obtain ⟨h1, h2⟩ := r.slt_inv
      exact .slt v sz' es' i h1 (fun b lo hi hs hl => by simp [Gh.res, hk, h2 b lo hi hs hl])
    · exact h.elim
  · rename_i i off n sz
    split at h
    · rename_i j off' n' sz'
      obtain ⟨rfl, rfl, rfl, hk⟩ := h
      have ht := fun b h => r.slb_ty (b := b) h
      obtain ⟨b, cap, h1, rfl, h2, h3⟩ := r.slb_inv
      exact .slb i off' n' sz' cap b (by simp [Gh.res, hk, h1]) (ht b h1) h2 h3
    · exact h.elim
  · rename_i i n sz
    split at h
    · rename_i j n' sz'
      obtain ⟨rfl, rfl, hk⟩ := h
      obtain ⟨b, cap, T, m, h1, rfl, h2, h3, h4, h5⟩ := r.slg_inv
      exact .slg i n' sz' cap b T m (by simp [Gh.res, hk, h1]) h4 h2 h3 h5
    · exact h.elim
  · rename_i i off
    split at h
    · rename_i j off'
      obtain ⟨rfl, hk⟩ := h
      have ht := fun b h => r.box_ty (b := b) h
      obtain ⟨b, h1, rfl⟩ := r.box_inv
      exact .box i off' b (by simp [Gh.res, hk, h1]) (ht b h1)
    · exact h.elim
  · rename_i T i
    split at h
    · rename_i T' j
      obtain ⟨rfl, hk⟩ := h
      obtain ⟨b, h1, h2, h3⟩ := r.nbp_inv
      exact .nbp v T' i b (by simp [Gh.res, hk, h1]) h2 h3
    · exact h.elim
  · rename_i e es i
    split at h
    · rename_i e' es' k
      obtain ⟨rfl, rfl, hk⟩ := h
      obtain ⟨h1, h2, h3⟩ := r.bsl_inv
      exact .bsl v e' es' i h1 (fun b lo hi hs hl => by simp [Gh.res, hk, h2 b lo hi hs hl]) h3
    · exact h.elim
  · rename_i i
    split at h
    · rename_i j
      obtain ⟨b, h1, rfl⟩ := r.mref_inv
      exact .mref i b (by simp [Gh.res, h, h1])
    · exact h.elim
  · rcases h with h | ⟨rfl | rfl, rfl⟩
    · rw [← h]; exact .pure _ _ r.weak
    · rw [r.nilsl_inv]; exact .pure _ _ (.slnil _)
    · obtain ⟨b, off, e⟩ := r.sl0_inv
      rw [e]
      exact .pure _ _ (.sl b off 0 0 _ [] (fun _ => undef) rfl (Nat.le_refl _) (Nat.zero_le _) (by simp) (by simp) (by simp) (by simp))
  · rw [← h]; exact .pure _ _ r.weak

theorem res2_rel {g : Gh} {τ γ : List Nat} {v : Value} {q p : PV} (r : Rel g v q) (h : res2 τ γ q p) : Rel (g.res τ γ) v p := by
  unfold res2 at h
  split at h
  · rename_i ps
    rcases h with h | ⟨qs, rfl, hw⟩
    · rw [← h]; exact .pure _ _ r.el
    · obtain ⟨hl, hw⟩ := wkL_get hw
      obtain ⟨vs, rfl, hn, ho, hp⟩ := r.agg_inv
      refine .agg vs ps (by rw [hn, hl]) ho ?_
      intro i v p hv hpp
      have hi : i < qs.length := by rw [hl]; exact (List.getElem?_eq_some_iff.1 hpp).1
      have hq : qs[i]? = some qs[i] := by simp [hi]
      exact res1_rel (hp i v _ hv hq) (hw i _ p hq hpp)
  · rename_i f ps
    rcases h with h | ⟨qs, rfl, hw⟩
    · rw [← h]; exact .pure _ _ r.weak
    · obtain ⟨hl, hw⟩ := wkL_get hw
      obtain ⟨vs, rfl, hn, hp⟩ := r.fn_inv
      refine .fn f vs ps (by rw [hn, hl]) ?_
      intro i v p hv hpp
      have hi : i < qs.length := by rw [hl]; exact (List.getElem?_eq_some_iff.1 hpp).1
      have hq : qs[i]? = some qs[i] := by simp [hi]
      exact res1_rel (hp i v _ hv hq) (hw i _ p hq hpp)
  · rcases h with h | ⟨rfl, rfl⟩
    · rw [← h]; exact .pure _ _ r.el
    · rw [r.nilsl_inv]; exact .pure _ _ (.slnil _)
  · exact res1_rel r h

theorem res3_rel {g : Gh} {τ γ : List Nat} {v : Value} {q p : PV} (r : Rel g v q) (h : res3 τ γ q p) : Rel (g.res τ γ) v p := by
  unfold res3 at h
  split at h
  · rename_i ps
    obtain ⟨qs, rfl, hw⟩ := h
    obtain ⟨hl, hw⟩ := wkL_get hw
    obtain ⟨vs, rfl, hn, hp⟩ := r.tup_inv
    refine .tup vs ps (by rw [hn, hl]) ?_
    intro i v p hv hpp
    have hi : i < qs.length := by rw [hl]; exact (List.getElem?_eq_some_iff.1 hpp).1
    have hq : qs[i]? = some qs[i] := by simp [hi]
    exact res2_rel (hp i v _ hv hq) (hw i _ p hq hpp)
  · exact res2_rel r h

/-- What must hold where the function ends: it was handed m boxes. -/
def endK (P : Program) (m : Nat) (rs : List ResultVar) (bs' : List (List PV)) (nt' : Nat) (r : PV) (S : PS) : Prop :=
  ∃ τ γ : List Nat, τ.length = nt' ∧ nodupB τ = true ∧ (∀ k ∈ τ, S.lv k = true) ∧ γ.length = bs'.length ∧ nodupB γ = true ∧ (∀ i, i < m → γ[i]? = some i) ∧
    resOk P S rs ∧ (∃ l, resPV P S rs = some l ∧ res3 τ γ (one' l) r) ∧
    ∀ (i j : Nat) (ps : List PV), γ[i]? = some j → bs'[i]? = some ps → ∃ qs, S.obj j = some qs ∧ wkL (res1 τ γ) qs ps
def retQ (P : Program) (m : Nat) (rs : List ResultVar) (bs' : List (List PV)) (nt' : Nat) (r : PV) : Post
  | .normal, S => endK P m rs bs' nt' r S
  | .ret, S => endK P m rs bs' nt' r S
  | _, _ => False

theorem tok_bound (g : Gh) : ∀ n : Nat, ∃ o : Nat, ∀ k, k < n → ∀ b lo hi, g.tok k = some (b, lo, hi) → hi ≤ o
  | 0 => ⟨0, fun k h => by omega⟩
  | n + 1 => by
    obtain ⟨o, ho⟩ := tok_bound g n
    cases hx : g.tok n with
    | none =>
      refine ⟨o, fun k hk b lo hi e => ?_⟩
      by_cases h : k = n
      · subst h; rw [hx] at e; cases e
      · exact ho k (by omega) b lo hi e
    | some x =>
      obtain ⟨b0, l0, h0⟩ := x
      refine ⟨max o h0, fun k hk b lo hi e => ?_⟩
      by_cases h : k = n
      · subst h; rw [hx] at e; cases e; exact Nat.le_max_right _ _
      · exact Nat.le_trans (ho k (by omega) b lo hi e) (Nat.le_max_left _ _)

def zargs : Nat → List PV → List (Nat × PV)
  | _, [] => []
  | i, p :: l => (i, p) :: zargs (i + 1) l
theorem zargs_get : ∀ (l : List PV) (i t : Nat), lkp .any (zargs i l) t = if i ≤ t then l.getD (t - i) .any else .any
  | [], i, t => by simp [zargs, lkp]
  | p :: l, i, t => by
    simp only [zargs, lkp]
    split
    · rename_i e; subst e; simp
    · rename_i e
      rw [zargs_get l (i + 1) t]
      by_cases h : i ≤ t
      · rw [if_pos (by omega), if_pos h, show t - i = (t - (i + 1)) + 1 by omega]; simp
      · rw [if_neg (by omega), if_neg h]

def stF (n : Nat) (args : List PV) (bs : List (List PV)) (nt nx : Nat) : PS := { n := n, env := zargs 0 args, objs := zobjs 0 bs, live := ztoks 0 nt, nxt := nx }

/-- A world in which marks have been shut. -/
structure Shut (w : World) (ds : List Deferred) (w' : World) : Prop where
  os : w'.os = w.os
  tape : w'.tape = w.tape
  output : OutEq w w'
  size : w'.heap.size = w.heap.size
  block : ∀ k, (∀ d ∈ ds, d.target ≠ .collected k) → w'.heap[k]? = w.heap[k]?
theorem Shut.refl (w : World) : Shut w [] w := ⟨rfl, rfl, .rf, rfl, fun _ _ => rfl⟩
theorem leaves_marks {P : Program} {fn : Func} {tmps : Array Value} {R : Ending → World → Prop} {n : Nat} : ∀ (ds : List Deferred) (w : World), Df w ds →
    (∀ w', Shut w ds w' → ∃ v, (results fn tmps).run P w' = .ok v w' ∧ R (.returned v) w') → LeavesInM Fence.wide n P fn tmps R ds .returning w
  | [], w, _, h => h w (.refl w)
  | d :: ds, w, hd, h => by
    obtain ⟨hn, hm⟩ := hd
    obtain ⟨D, rfl, hD⟩ := hm d (List.mem_cons_self ..)
    obtain ⟨hn1, hn2⟩ := List.nodup_cons.1 hn
    have hlt : D < w.heap.size := (Array.getElem?_eq_some_iff.1 hD).1
    have hb := grownBy_putObj' w D (.deferred none)
    have hne : ∀ d ∈ ds, ∀ D', d = { target := .collected D', args := #[] } → D' ≠ D := fun d hd D' e e' => by
      subst e'; exact hn1 (e ▸ hd)
    refine ⟨by simp, .inl ⟨D, _, rfl, run_takeDeferred hD, leaves_marks ds _ ⟨hn2, fun d hd => ?_⟩ fun w' hs => h w' ⟨hs.os.trans rfl, hs.tape.trans rfl, hs.output.trans ⟨rfl, Nat.le_refl _⟩, hs.size.trans (by simp), fun k hk => ?_⟩⟩⟩
    · obtain ⟨D', e, hD'⟩ := hm d (List.mem_cons_of_mem _ hd)
      refine ⟨D', e, ?_⟩
      rw [World.putObj_heap_other (fun e' => hne d hd D' e e')]
      exact hD'
    · rw [hs.block k (fun d hd => hk d (List.mem_cons_of_mem _ hd)), World.putObj_heap_other (fun e => hk _ (List.mem_cons_self ..) (by rw [e]))]
theorem Shut.cells {w w' : World} {ds : List Deferred} (h : Shut w ds w') (hd : Df w ds) {k : Nat} {vals : Array Value} {T : TypeId} {fr : Nat × Nat} (hk : w.heap[k]? = some (.cells vals T fr)) : w'.heap[k]? = some (.cells vals T fr) := by
  rw [h.block k]; exact hk
  intro d hd' e
  obtain ⟨D, rfl, hD⟩ := hd.2 d hd'
  cases e
  rw [hD] at hk; cases hk
theorem Shut.inv {g : Gh} {S : PS} {w w' : World} {ds : List Deferred} (h : Shut w ds w') (hd : Df w ds) (hI : InvW g S w) : InvW g S w' where
  gl := hI.gl
  hw := fun b o v e => by
    have := hI.hw b o v e
    rw [wcell_of_block (h.block b fun d hd' e => ?_)]
    · exact this
    · obtain ⟨D, rfl, hD⟩ := hd.2 d hd'
      cases e
      unfold wcell at this
      rw [hD] at this; cases this
  objs := fun id ps e => by
    obtain ⟨b, h1, h2, h3⟩ := hI.objs id ps e
    refine ⟨b, h1, ?_, h3⟩
    rw [h.block b fun d hd' e => ?_]
    · exact h2
    · obtain ⟨D, rfl, hD⟩ := hd.2 d hd'
      cases e
      rcases h2 with ⟨_, _, _, h2, _⟩ | ⟨_, _, _, _, h2, _⟩ | h2
      · rw [hD] at h2; cases h2
      · rw [hD] at h2; cases h2
      · obtain ⟨m, s, c, a, h2⟩ := h2.some
        rw [hD] at h2; cases h2
  inj := hI.inj
  toks := fun k e => by
    obtain ⟨b, lo, hi, h1, h2⟩ := hI.toks k e
    exact ⟨b, lo, hi, h1, fun hl => by
      obtain ⟨⟨vals, T, fr, q1, q2⟩, q3⟩ := h2 hl
      exact ⟨⟨vals, T, fr, h.cells hd q1, q2⟩, q3⟩⟩
  tokd := hI.tokd
  jnk := fun b m e => by
    obtain ⟨⟨vals, T, fr, q1, q2⟩, q3⟩ := hI.jnk b m e
    exact ⟨⟨vals, T, fr, h.cells hd q1, q2⟩, q3⟩
  tys := fun b T m e => by
    obtain ⟨vals, fr, q1, q2⟩ := hI.tys b T m e
    exact ⟨vals, fr, h.cells hd q1, q2⟩
theorem Shut.ext {m : Nat} {g : Gh} {S : PS} {w₀ : World} {g' : Gh} {S' : PS} {w w' : World} {ds : List Deferred} (h : Shut w ds w') (hd : ∀ d ∈ ds, ∃ D, w₀.heap.size ≤ D ∧ d.target = .collected D) (hE : ExtP m g S w₀ g' S' w) : ExtP m g S w₀ g' S' w' :=
  ⟨{ le := hE.e.le, ty := hE.e.ty, new := hE.e.new, own := hE.e.own, size := by rw [h.size]; exact hE.e.size, os := h.os.trans hE.e.os, tape := h.tape.trans hE.e.tape, output := h.output.trans hE.e.output,
     keep := fun b hb => by
      rw [h.block b fun d hd' e => by
        obtain ⟨D, h1, h2⟩ := hd d hd'
        rw [h2] at e; cases e; omega]
      exact hE.e.keep b hb }, hE.pin⟩
theorem Fsp.of' {P : Program} (hm : P.follows .mixedOrders = true) {f : FuncId} {fn : Func} {c : Code} (hf : P.funcs[f]? = some fn) (hb : fn.body = some c) (hname : (fn.name == "runtime.NumGoroutine") = false)
    {bs bs' : List (List PV)} {nt nt' : Nat} {args : List PV} {r : PV} {nx : Nat} (hlen : bs.length ≤ bs'.length) (hn : args.length ≤ fn.ntmps) (hx : bs.length ≤ nx ∧ nt ≤ nx)
    (hpw : PWP P bs.length c (retQ P bs.length fn.results.toList bs' nt' r) (stF fn.ntmps args bs nt nx)) : Fsp P f bs nt args bs' nt' r where
  len := hlen
  fn := ⟨fn, hf, by rw [hb]; rfl, hname⟩
  calls := by
    intro g w vs hI hgb hgt hsz hargs
    refine (callsIn_wide (n := 0)).1 (callsIn_of_wp_marks hf hb trivial (wpIn_wide.2 ?_))
    have hobj : ∀ i, (st0 bs nt).obj i = (stF fn.ntmps args bs nt nx).obj i := fun _ => rfl
    have hlv : ∀ k, (st0 bs nt).lv k = (stF fn.ntmps args bs nt nx).lv k := fun _ => rfl
    have hInv : Inv g (stF fn.ntmps args bs nt nx) (vs ++ Array.replicate (fn.ntmps - vs.size) undef) w := by
      refine ⟨InvW.of_eq hobj hlv hI, fun t => ?_, ?_⟩
      · have hg : (stF fn.ntmps args bs nt nx).get t = args.getD t .any := by
          show lkp .any (zargs 0 args) t = _
          rw [zargs_get]; simp
        rw [hg]
        by_cases ht : t < args.length
        · have hv : t < vs.size := by omega
          have h1 : (vs ++ Array.replicate (fn.ntmps - vs.size) undef).getD t undef = vs[t] := by
            simp [Array.getElem?_append, hv]
          rw [h1, List.getD_eq_getElem?_getD, List.getElem?_eq_getElem ht]
          exact hargs t _ _ (by simp [hv]) (by simp [ht])
        · rw [List.getD_eq_getElem?_getD, List.getElem?_eq_none (Nat.le_of_not_lt ht)]
          exact .pure _ _ (.any _)
      · show fn.ntmps ≤ _
        simp; omega
    have hpin : ∀ i, i < bs.length → g.blk i ≠ none := by
      intro i hi
      obtain ⟨b, h1, _⟩ := hI.objs i bs[i] (by rw [st0_obj]; simp [hi])
      rw [h1]; simp
    have hfr : ∀ j, (stF fn.ntmps args bs nt nx).nxt ≤ j → Fresh g j := fun j hj => ⟨hgb j (Nat.le_trans hx.1 hj), hgt j (Nat.le_trans hx.2 hj)⟩
    refine wp_mono (hpw g _ w hInv ⟨by simp, by simp⟩ hfr hpin) ?_
    rintro e a' w1 ⟨g', S', hq, hI1, ⟨hd1, hd2⟩, hF', hE1⟩
    let R : Ending → World → Prop := (fun e w' => ∃ v g', e = .returned v ∧ InvW g' (st0 bs' nt') w' ∧ ExtW g (st0 bs nt) w g' (st0 bs' nt') w' ∧ (∀ i, i < bs.length → g'.blk i = g.blk i) ∧ (∀ i, bs.length ≤ i → i < bs'.length → ∃ b, g'.blk i = some b ∧ w.heap.size ≤ b) ∧ Rel g' v r)
    have fin : endK P bs.length fn.results.toList bs' nt' r S' → ∀ w', Inv g' S' a'.tmps w' → ExtP bs.length g (stF fn.ntmps args bs nt nx) w g' S' w' → ∃ v, (results fn a'.tmps).run P w' = .ok v w' ∧ R (.returned v) w' := by
      intro hend w' hI' hE'
      obtain ⟨τ, γ, h1, h2, h3, g1, g2, g3, h4, ⟨l, h5, h6⟩, h7'⟩ := hend
      obtain ⟨vals, r1, r2, r3⟩ := run_results hI' h5 h4
      have hres : (results fn a'.tmps).run P w' = .ok (if h : vals.toArray.size = 1 then vals.toArray[0] else .tuple vals.toArray) w' := by
        have hmm : (fn.results.mapM (resOne a'.tmps)).run P w' = .ok vals.toArray w' := by
          rw [Array.mapM_eq_mapM_toList]
          have : ∀ {α β : Type} (f : α → β) (m : Sem α) (w : World), (Functor.map f m).run P w = (m.run P w).andThen fun a w' => .ok (f a) w' := by
            intro α β f m w
            have hb : (Functor.map f m) = m >>= fun a => pure (f a) := rfl
            rw [hb, Sem.run_bind]
            rfl
          rw [this, r1]
          rfl
        have hrs : results fn a'.tmps = (do let vs ← fn.results.mapM (resOne a'.tmps); pure (if h : vs.size = 1 then vs[0] else .tuple vs)) := rfl
        rw [hrs, Sem.run_bind, hmm]
        rfl
      have hrel : Rel g' (if h : vals.toArray.size = 1 then vals.toArray[0] else .tuple vals.toArray) (one' l) := by
        by_cases hl1 : vals.length = 1
        · obtain ⟨v, rfl⟩ : ∃ v, vals = [v] := by
            match vals, hl1 with
            | [v], _ => exact ⟨v, rfl⟩
          obtain ⟨p, rfl⟩ : ∃ p, l = [p] := by
            match l, r2 with
            | [p], _ => exact ⟨p, rfl⟩
          exact r3 0 v p rfl rfl
        · rw [dif_neg (by simpa using hl1)]
          have : one' l = .tup l := by
            unfold one'
            split
            · simp at r2; exact absurd r2 hl1
            · rfl
          rw [this]
          exact .tup _ _ (by simp [r2]) (fun i v p hv hp => r3 i v p (by simpa using hv) hp)
      have g2' := nodupB_spec g2
      have hγ : ∀ i, i < bs'.length → ∃ j, γ[i]? = some j := fun i hi => ⟨γ[i]'(by omega), by simp [show i < γ.length by omega]⟩
      have h7 : ∀ (i : Nat) (ps : List PV), bs'[i]? = some ps → ∃ j qs, γ[i]? = some j ∧ S'.obj j = some qs ∧ wkL (res1 τ γ) qs ps := by
        intro i ps hi
        obtain ⟨j, hj⟩ := hγ i (List.getElem?_eq_some_iff.1 hi).1
        obtain ⟨qs, q1, q2⟩ := h7' i j ps hj hi
        exact ⟨j, qs, hj, q1, q2⟩
      have hres1 : ∀ i j, γ[i]? = some j → (g'.res τ γ).blk i = g'.blk j := fun i j h => by simp [Gh.res, h]
      have hfresh : ∀ i j, bs.length ≤ i → γ[i]? = some j → S'.obj j ≠ none → ∀ b, g'.blk j = some b → w.heap.size ≤ b := by
        intro i j hi hj hne b hb
        refine Nat.le_of_not_lt fun hlt => ?_
        obtain ⟨o, ho⟩ := tok_bound g nt
        have hown : Own g (stF fn.ntmps args bs nt nx) b (o + 1) := hE'.e.own b (o + 1) hlt (.inl ⟨j, hne, hb⟩)
        rcases hown with ⟨id, q1, q2⟩ | ⟨k, lo, hi, q1, q2, q3, q4⟩ | hjn
        rotate_right
        · obtain ⟨m, hjn⟩ := Option.ne_none_iff_exists'.1 hjn
          exact hI'.w.jnk_obj hne hb (hE'.e.le.j _ _ hjn)
        · have q1' : (st0 bs nt).obj id ≠ none := q1
          rw [st0_obj] at q1'
          have hid : id < bs.length := by
            refine Nat.lt_of_not_le fun h => q1' ?_
            rw [List.getElem?_eq_none h]
          have hgid := g3 id hid
          obtain ⟨j', qs, t1, t2, _⟩ := h7 id (bs'[id]'(by omega)) (by simp [show id < bs'.length by omega])
          rw [hgid] at t1; cases t1
          have := hI'.w.inj id j b (by simp [t2]) hne ((hE'.pin id hid).trans q2) hb
          subst this
          have := (List.getElem?_inj (List.getElem?_eq_some_iff.1 hgid).1 g2').1 (hgid.trans hj.symm)
          omega
        · have q1' : (st0 bs nt).lv k = true := q1
          rw [st0_lv] at q1'
          have := ho k (by simpa using q1') b lo hi q2
          omega
      have hlvl : ∀ k, (st0 bs' nt').lv k = true → k < τ.length := by intro k hk; rw [st0_lv] at hk; rw [h1]; simpa using hk
      have ownR : ∀ b o, Own (g'.res τ γ) (st0 bs' nt') b o → Own g' S' b o := by
        intro b o ho
        rcases ho with ⟨id, q1, q2⟩ | ⟨k, lo, hi, q1, q2, q3⟩ | hjn
        rotate_right
        · exact .inr (.inr hjn)
        · rw [st0_obj] at q1
          cases hx : bs'[id]? with
          | none => exact absurd hx q1
          | some ps =>
            obtain ⟨j, qs, t0, t1, t2⟩ := h7 id ps hx
            exact .inl ⟨j, by simp [t1], by rw [← hres1 id j t0]; exact q2⟩
        · have hk := hlvl k q1
          simp only [Gh.res, List.getElem?_eq_getElem hk, Option.bind_some] at q2
          exact .inr (.inl ⟨τ[k], lo, hi, h3 _ (List.getElem_mem hk), q2, q3⟩)
      refine ⟨_, hres, _, g'.res τ γ, rfl, ⟨hI'.w.hw, ?_, ?_, ?_, ?_, hI'.w.jnk_gen (fun _ _ h => h) (fun _ _ _ => rfl) (fun c m o h => (hI'.w.jnk c m h).2.1 o) (fun id c m _ hid hbk => by
          rw [st0_obj] at hid
          cases hx : bs'[id]? with
          | none => exact absurd hx hid
          | some ps =>
            obtain ⟨j, qs, t0, t1, _⟩ := h7 id ps hx
            exact ⟨j, by simp [t1], by rw [← hres1 id j t0]; exact hbk⟩) (fun k c m lo hi _ hk hkt hl => by
          have hk := hlvl k hk
          simp only [Gh.res, List.getElem?_eq_getElem hk, Option.bind_some] at hkt
          exact ⟨τ[k], lo, hi, h3 _ (List.getElem_mem hk), hkt, hl⟩), hI'.w.tys, hI'.w.gl⟩, ?_, fun i hi => (hres1 i i (g3 i hi)).trans (hE'.pin i hi), fun i hi1 hi2 => ?_, res3_rel hrel h6⟩
      · intro id ps hps
        rw [st0_obj] at hps
        obtain ⟨jj, qs, t0, t1, t2⟩ := h7 id ps hps
        obtain ⟨b, u1, uo, u6⟩ := hI'.w.objs jj qs t1
        obtain ⟨tl, tw⟩ := wkL_get t2
        refine ⟨b, (hres1 id jj t0).trans u1, ?_, u6⟩
        rcases uo with ⟨vs', U, fr, u2, uf, u3, u4, u5⟩ | ⟨es, ents, c, hds, u2, u3⟩ | ⟨cur, es, p0, p1, hds, e1, e2, u3⟩
        rotate_left
        rotate_left
        · subst hds
          obtain ⟨v0, v1, rfl⟩ : ∃ v0 v1, ps = [v0, v1] := by
            match ps, tl with
            | [v0, v1], _ => exact ⟨v0, v1, rfl⟩
          refine .inr (.inr ⟨cur, es, v0, v1, rfl, ?_, ?_, u3⟩)
          · have := tw 0 _ v0 rfl rfl
            unfold res1 at this
            rcases e1 with rfl | rfl <;> split at this <;> first | exact this.elim | exact .inr (by rw [← this]; rfl) | (rcases this with h | ⟨h | h, _⟩ <;> cases h)
          · have := tw 1 _ v1 rfl rfl
            unfold res1 at this
            rcases e2 with rfl | rfl <;> split at this <;> first | exact this.elim | exact .inl (by rw [← this]; rfl) | exact .inr (by rw [← this]; rfl) | (rcases this with h | ⟨h | h, _⟩ <;> cases h)
        rotate_left
        · obtain ⟨p, rfl⟩ : ∃ p, ps = [p] := by
            have : ps.length = 1 := by rw [← tl]; rcases hds with rfl | rfl <;> rfl
            match ps, this with
            | [p], _ => exact ⟨p, rfl⟩
          refine .inr (.inl ⟨es, ents, c, ?_, u2, u3⟩)
          rcases hds with rfl | rfl
          · have := tw 0 _ p rfl rfl
            unfold res1 at this
            split at this <;> first | exact this.elim | exact .inl (by rw [← this]; rfl) | (rcases this with h | ⟨h | h, _⟩ <;> cases h)
          · have := tw 0 _ p rfl rfl
            unfold res1 at this
            split at this <;> first | exact this.elim | exact .inr (by rw [← this]; rfl) | (rcases this with h | ⟨h | h, _⟩ <;> cases h)
        refine .inl ⟨vs', U, fr, u2, uf, (by rw [← tl]; exact u3), u4, ?_⟩
        intro j v p hv hpp
        have hj : j < qs.length := by rw [tl]; exact (List.getElem?_eq_some_iff.1 hpp).1
        have hqq : qs[j]? = some qs[j] := by simp [hj]
        exact res1_rel (u5 j v _ hv hqq) (tw j _ p hqq hpp)
      · intro id id' b q1 q2 q3 q4
        rw [st0_obj] at q1 q2
        cases hx : bs'[id]? with
        | none => exact absurd hx q1
        | some ps =>
          cases hx' : bs'[id']? with
          | none => exact absurd hx' q2
          | some ps' =>
            obtain ⟨j, qs, t0, t1, _⟩ := h7 id ps hx
            obtain ⟨j', qs', t0', t1', _⟩ := h7 id' ps' hx'
            rw [hres1 id j t0] at q3
            rw [hres1 id' j' t0'] at q4
            have := hI'.w.inj j j' b (by simp [t1]) (by simp [t1']) q3 q4
            subst this
            exact (List.getElem?_inj (List.getElem?_eq_some_iff.1 t0).1 g2').1 (t0.trans t0'.symm)
      · intro k hk
        have hkl := hlvl k hk
        obtain ⟨b, lo, hi, q1, q2⟩ := hI'.w.toks τ[k] (h3 _ (List.getElem_mem hkl))
        refine ⟨b, lo, hi, by simp [Gh.res, hkl, q1], fun hl => ⟨(q2 hl).1, (q2 hl).2.1, fun id hid => ?_⟩⟩
        rw [st0_obj] at hid
        cases hx : bs'[id]? with
        | none => exact absurd hx hid
        | some ps =>
          obtain ⟨j, qs, t0, t1, _⟩ := h7 id ps hx
          rw [hres1 id j t0]
          exact (q2 hl).2.2 j (by simp [t1])
      · intro k k' b lo hi lo' hi' q1 q2 hne q3 q4
        have hk := hlvl k q1
        have hk' := hlvl k' q2
        simp only [Gh.res, List.getElem?_eq_getElem hk, List.getElem?_eq_getElem hk', Option.bind_some] at q3 q4
        refine hI'.w.tokd τ[k] τ[k'] b lo hi lo' hi' (h3 _ (List.getElem_mem hk)) (h3 _ (List.getElem_mem hk')) (fun e => hne ?_) q3 q4
        exact (List.getElem?_inj hk (nodupB_spec h2)).1 (by rw [List.getElem?_eq_getElem hk, List.getElem?_eq_getElem hk', e])
      · exact ⟨hE'.e.le, hE'.e.ty, fun b o v e => (hE'.e.new b o v e).imp id (Or.imp id (Own.of_eq (fun i => (hobj i).symm) (fun k => (hlv k).symm))), fun b o hb e => Own.of_eq (fun i => (hobj i).symm) (fun k => (hlv k).symm) (hE'.e.own b o hb (ownR b o e)),
          hE'.e.size, fun b hb => (hE'.e.keep b hb).mono (fun o e => Own.of_eq (fun i => (hobj i).symm) (fun k => (hlv k).symm) e), hE'.e.os, hE'.e.tape, hE'.e.output⟩
      · obtain ⟨j, qs, t0, t1, _⟩ := h7 i bs'[i] (by simp [hi2])
        obtain ⟨b, u1, _⟩ := hI'.w.objs j qs t1
        exact ⟨b, (hres1 i j t0).trans u1, hfresh i j hi1 t0 (by simp [t1]) b u1⟩
    have out : endK P bs.length fn.results.toList bs' nt' r S' → LeavesInM Fence.wide 0 P fn a'.tmps R a'.defers .returning w1 := fun hk =>
      leaves_marks a'.defers w1 hd1 fun w' hs => fin hk w' ⟨hs.inv hd1 hI1.w, hI1.env, hI1.size⟩ (hs.ext (fun d hd => by
        rcases hd2 d hd with h | h
        · cases h
        · exact h) hE1)
    cases e with
    | normal => exact out hq
    | ret => exact out hq
    | _ => exact hq.elim

theorem Fsp.of {P : Program} (hm : P.follows .mixedOrders = true) {f : FuncId} {fn : Func} {c : Code} (hf : P.funcs[f]? = some fn) (hb : fn.body = some c) (hname : (fn.name == "runtime.NumGoroutine") = false)
    {bs bs' : List (List PV)} {nt nt' : Nat} {args : List PV} {r : PV} {nx : Nat} (hlen : bs.length ≤ bs'.length) (hn : args.length ≤ fn.ntmps) (hx : bs.length ≤ nx ∧ nt ≤ nx)
    (h : VC P bs.length c (retQ P bs.length fn.results.toList bs' nt' r) (stF fn.ntmps args bs nt nx)) : Fsp P f bs nt args bs' nt' r :=
  Fsp.of' hm hf hb hname hlen hn hx (VC_sound hm h)

end Go.Pv
