/- Abstract values: a range over a function whose iterator writes the boxes of the loop that ranges over it. Nothing of any program. -/
import Derived.Test.YtbjeagcnakdmnaaPvRg
set_option linter.unusedSimpArgs false
set_option linter.unusedVariables false
set_option linter.unusedSectionVars false
namespace Go.Pv
variable [GTab]

def isLd : Obj → Bool
  | .loop _ => true
  | .deferred _ => true
  | _ => false
/-- Only records of loops, and blocks of deferred calls, are other ones. -/
structure KeepsLd (w w' : World) : Prop where
  size : w.heap.size ≤ w'.heap.size
  same : ∀ (k : Nat) (o : Obj), w.heap[k]? = some o → isLd o = false → w'.heap[k]? = some o
theorem KeepsLd.alloc (w : World) (o : Obj) : KeepsLd w (w.alloc o) :=
  ⟨by simp, fun k o' hk _ => (Go.RowKit.Below.heap_alloc w o k (Array.getElem?_eq_some_iff.1 hk).1).trans hk⟩
theorem KeepsLd.putObj {w : World} {l : Nat} {o : Obj} (o' : Obj) (h : w.heap[l]? = some o) (ho : isLd o = true) : KeepsLd w (w.putObj l o') :=
  ⟨by simp, fun k x hk hx => by
    by_cases e : k = l
    · subst e; rw [h] at hk; cases hk; rw [ho] at hx; cases hx
    · exact (World.putObj_heap_other e).trans hk⟩
theorem wcell_ld {w w' : World} (hk : KeepsLd w w') {b o : Nat} {v : Value} (h : wcell w b o = some v) : wcell w' b o = some v := by
  have hh := h
  unfold wcell at h
  split at h
  · rename_i e; rw [wcell_of_block ((hk.same b _ e rfl).trans e.symm)]; exact hh
  · rename_i e; rw [wcell_of_block ((hk.same b _ e rfl).trans e.symm)]; exact hh
  · cases h
theorem ObjAt.ld {g : Gh} {x y : Option Obj} {ps : List PV} (hk : ∀ o : Obj, x = Option.some o → isLd o = false → y = Option.some o) (h : ObjAt g x ps) : ObjAt g y ps := by
  obtain ⟨o, ho⟩ := h.some
  have hl : isLd o = false := by
    rcases h with ⟨vals, T, fr, h1, _⟩ | ⟨es, ents, c, _, h1, _⟩ | h
    · rw [ho] at h1; cases h1; rfl
    · rw [ho] at h1; cases h1; rfl
    · obtain ⟨m, s, c, a, h1⟩ := h.some; rw [ho] at h1; cases h1; rfl
  rw [hk o ho hl, ← ho]; exact h
theorem InvW.ld {g : Gh} {S : PS} {w w' : World} (hk : KeepsLd w w') (hI : InvW g S w) : InvW g S w' where
  gl := hI.gl
  hw := fun b o v e => wcell_ld hk (hI.hw b o v e)
  objs := fun id ps e => by
    obtain ⟨b, h1, h2, h3⟩ := hI.objs id ps e
    exact ⟨b, h1, h2.ld (fun o h hl => hk.same b o h hl), h3⟩
  inj := hI.inj
  toks := fun k e => by
    obtain ⟨b, lo, hi, h1, h2⟩ := hI.toks k e
    exact ⟨b, lo, hi, h1, fun hl => by
      obtain ⟨⟨vals, T, fr, q1, q2⟩, q3⟩ := h2 hl
      exact ⟨⟨vals, T, fr, hk.same _ _ q1 rfl, q2⟩, q3⟩⟩
  tokd := hI.tokd
  jnk := fun b m e => by
    obtain ⟨⟨vals, T, fr, q1, q2⟩, h2⟩ := hI.jnk b m e
    exact ⟨⟨vals, T, fr, hk.same _ _ q1 rfl, q2⟩, h2⟩
  tys := fun b T m e => by
    obtain ⟨vals, fr, q1, q2⟩ := hI.tys b T m e
    exact ⟨vals, fr, hk.same _ _ q1 rfl, q2⟩
/-- What is neither a row nor a map lies as it lay. -/
theorem ExtW.ld {g : Gh} {S : PS} {w : World} {g' : Gh} {S' : PS} {w' : World} (hI : InvW g S w) (hE : ExtW g S w g' S' w') {k : Nat} {o : Obj} (hD : w.heap[k]? = some o) (ho : isLd o = true) : w'.heap[k]? = some o := by
  have hlt : k < w.heap.size := (Array.getElem?_eq_some_iff.1 hD).1
  rcases hE.keep k hlt with h | ⟨v, v', T, fr, fr', h1, _⟩ | h
  · rw [h]; exact hD
  · rw [hD] at h1; cases h1; cases ho
  · rcases h 0 with ⟨id, h1, h2⟩ | ⟨k', lo, hi, h1, h2, h3, h4⟩ | hjn
    rotate_right
    · obtain ⟨m, hjn⟩ := Option.ne_none_iff_exists'.1 hjn
      obtain ⟨⟨vals, T, fr, q2, _⟩, _⟩ := hI.jnk k m hjn
      rw [hD] at q2; cases q2; cases ho
    · cases hx : S.obj id with
      | none => exact absurd hx h1
      | some ps =>
        obtain ⟨b, q1, q2, _⟩ := hI.objs id ps hx
        rw [h2] at q1; cases q1
        rcases q2 with ⟨vals, T, fr, q2, _⟩ | ⟨es, ents, c, _, q2, _⟩ | q2
        · rw [hD] at q2; cases q2; cases ho
        · rw [hD] at q2; cases q2; cases ho
        · obtain ⟨m, s, c, a, q2⟩ := q2.some
          rw [hD] at q2; cases q2; cases ho
    · obtain ⟨b, lo', hi', q1, q2⟩ := hI.toks k' h1
      rw [h2] at q1; cases q1
      obtain ⟨⟨vals, T, fr, q3, _⟩, _⟩ := q2 h3
      rw [hD] at q3; cases q3; cases ho
theorem isMark.put {w : World} {l : Nat} {r : Loop} {o' : Obj} (h : w.heap[l]? = some (.loop r)) {d : Deferred} (hm : isMark w d) : isMark (w.putObj l o') d := by
  obtain ⟨D, rfl, hD⟩ := hm
  refine ⟨D, rfl, ?_⟩
  rw [World.putObj_heap_other (fun e => by subst e; rw [h] at hD; cases hD)]
  exact hD
theorem Df.put {w : World} {l : Nat} {r : Loop} {o' : Obj} (h : w.heap[l]? = some (.loop r)) {ds : List Deferred} (hd : Df w ds) : Df (w.putObj l o') ds := ⟨hd.1, fun d hm => (hd.2 d hm).put h⟩

/-! ### What stays of an environment -/
def keepB (k : Nat) : PV → Bool
  | .int _ _ | .bool _ | .str _ | .nilsl | .sl _ _ | .any | .nilptr | .loc _ | .nilfn | .nilif => true
  | .box i _ => Nat.blt i k
  | .yld i => Nat.blt i k
  | .slb i _ _ _ => Nat.blt i k
  | .slg i _ _ => Nat.blt i k
  | _ => false
theorem keepB_ok {k : Nat} {p : PV} (h : keepB k p = true) : keepPV k p := by
  cases p with
  | int => exact keepPV.int
  | bool => exact keepPV.bool
  | str => exact keepPV.str
  | nilsl => exact keepPV.nilsl
  | sl => exact keepPV.sl
  | any => exact keepPV.any
  | nilptr => intro g g' v _ _ _ r; rw [r.nilptr_inv]; exact .pure _ _ .nilptr
  | loc => intro g g' v hh _ _ r; exact .pure _ _ (r.loc_inv.mono hh)
  | nilfn => intro g g' v _ _ _ r; rw [r.nilfn_inv]; exact .pure _ _ .nilfn
  | nilif => intro g g' v _ _ _ r; rw [r.nilif_inv]; exact .pure _ _ .nilif
  | box i off => exact keepPV.box (by unfold keepB at h; rwa [Nat.blt_eq] at h)
  | slb i off n sz => exact keepPV.slb (by unfold keepB at h; rwa [Nat.blt_eq] at h)
  | slg i n sz => exact keepPV.slg (by unfold keepB at h; rwa [Nat.blt_eq] at h)
  | yld i =>
    intro g g' v hh hb ht r
    obtain ⟨b, h1, rfl⟩ := r.yld_inv
    exact .yld i b ((hb i (by unfold keepB at h; rwa [Nat.blt_eq] at h)).trans h1)
  | _ => cases h
def kp1 (k : Nat) (p : PV) : PV := match keepB k p with | true => p | false => (match keepB k p.weak with | true => p.weak | false => .any)
theorem kp1_ok (k : Nat) (p : PV) : keepPV k (kp1 k p) := by
  unfold kp1
  split
  · rename_i h; exact keepB_ok h
  · split
    · rename_i h; exact keepB_ok h
    · exact keepPV.any
theorem kp1_rel {k : Nat} {g : Gh} {v : Value} {p : PV} (r : Rel g v p) : Rel g v (kp1 k p) := by
  unfold kp1
  split
  · exact r
  · split
    · exact .pure _ _ r.weak
    · exact .pure _ _ (.any _)
def kpE (k : Nat) : List (Nat × PV) → List (Nat × PV)
  | [] => []
  | (t, p) :: l => (t, kp1 k p) :: kpE k l
theorem kpE_lkp (k : Nat) : ∀ (l : List (Nat × PV)) (t : Nat), lkp .any (kpE k l) t = kp1 k (lkp .any l t)
  | [], t => rfl
  | (i, p) :: l, t => by
    simp only [kpE, lkp]
    split
    · rfl
    · exact kpE_lkp k l t

/-! ### The loop, as the text has it, and as it runs -/
structure Yc where
  ps : Array Tmp
  assign : Code
  body : Code
  E : List (Nat × PV)
  n : Nat
  k : Nat
  y : Nat
structure Lc where
  l : Nat
  D : Nat
  fn : FuncId
  ac : Array Value
def stOf : Option Code → LoopState
  | none => .ready
  | some _ => .done
def Lc.loop (K : Yc) (L : Lc) (st : LoopState) (pe : Option Code) : Loop := { state := st, pending := pe, fn := L.fn, tmps := L.ac, params := K.ps, assign := K.assign, body := K.body, defers := L.D }

structure YB (K : Yc) (L : Lc) (g0 : Gh) (S0 : PS) (w0 : World) : Prop where
  pin : ∀ i, i < K.k → g0.blk i ≠ none
  hy : g0.blk K.y = some L.l
  yk : K.y < K.k
  low : w0.heap.size ≤ L.l
  ne : L.D ≠ L.l
  env : ∀ t, Rel g0 (L.ac.getD t undef) (lkp .any K.E t)
  keep : ∀ t, keepPV K.k (lkp .any K.E t)
  size : K.n ≤ L.ac.size
/-- Where a walk through the iterator stands. -/
structure YI (K : Yc) (L : Lc) (g0 : Gh) (S0 : PS) (w0 : World) (g : Gh) (S : PS) (nid : Nat) (pe : Option Code) (a : Act) (w : World) : Prop where
  inv : Inv g S a.tmps w
  fresh : ∀ j, nid ≤ j → Fresh g j
  ext : ExtP K.k g0 S0 w0 g S w
  lp : w.heap[L.l]? = some (.loop (L.loop K (stOf pe) pe))
  dd : w.heap[L.D]? = some (.deferred (some []))
  df : a.defers = []
abbrev YPost := Exit → PS → Option Code → Prop
def ypost (K : Yc) (L : Lc) (g0 : Gh) (S0 : PS) (w0 : World) (Q : YPost) : Exit → Act → World → Prop := fun e a' w' => ∃ g' S' pe', Q e S' pe' ∧ YI K L g0 S0 w0 g' S' S'.nxt pe' a' w'

def YWP (P : Program) (K : Yc) (c : Code) (Q : YPost) (S : PS) (pe : Option Code) : Prop :=
  ∀ L g0 S0 w0, YB K L g0 S0 w0 → ∀ g a w, YI K L g0 S0 w0 g S S.nxt pe a w → c.wp P (ypost K L g0 S0 w0 Q) a w

section
variable {P : Program} {K : Yc} {Q : YPost} {S : PS} {pe : Option Code}
theorem YI.pins {L g0 S0 w0 g nid a w} (hB : YB K L g0 S0 w0) (h : YI K L g0 S0 w0 g S nid pe a w) : ∀ i, i < K.k → g.blk i ≠ none := fun i hi => by rw [h.ext.pin i hi]; exact hB.pin i hi
theorem YI.weak {L g0 S0 w0 g a w} (hB : YB K L g0 S0 w0) (h : YI K L g0 S0 w0 g S S.nxt pe a w) {T : PS} (hw : Wk K.k S T) : ∃ g', YI K L g0 S0 w0 g' T T.nxt pe a w := by
  obtain ⟨g', h1, h2, h3⟩ := hw g a.tmps w h.inv h.fresh (h.pins hB)
  exact ⟨g', h1, h2, h.ext.trans h3, h.lp, h.dd, h.df⟩
theorem YWP.mono {c : Code} {Q' : YPost} (h : YWP P K c Q S pe) (hq : ∀ e S' pe', Q e S' pe' → Q' e S' pe') : YWP P K c Q' S pe :=
  fun L g0 S0 w0 hB g a w hY => wp_mono (h L g0 S0 w0 hB g a w hY) (fun e a' w' ⟨g', S', pe', h1, h2⟩ => ⟨g', S', pe', hq _ _ _ h1, h2⟩)
theorem YWP.weak {c : Code} {T : PS} (hw : Wk K.k S T) (h : YWP P K c Q T pe) : YWP P K c Q S pe := by
  intro L g0 S0 w0 hB g a w hY
  obtain ⟨g', hY'⟩ := hY.weak hB hw
  exact h L g0 S0 w0 hB g' a w hY'
theorem YWP.skip (h : Q .normal S pe) : YWP P K .skip Q S pe := fun L g0 S0 w0 hB g a w hY => wp_skip ⟨g, S, pe, h, hY⟩
theorem YWP.label {l} (h : Q .normal S pe) : YWP P K (.label l) Q S pe := fun L g0 S0 w0 hB g a w hY => wp_label ⟨g, S, pe, h, hY⟩
theorem YWP.exit {i} (h : Q (.exit i) S pe) : YWP P K (.exit i) Q S pe := fun L g0 S0 w0 hB g a w hY => wp_exit ⟨g, S, pe, h, hY⟩
theorem YWP.ret (h : Q .ret S pe) : YWP P K .ret Q S pe := fun L g0 S0 w0 hB g a w hY => wp_ret ⟨g, S, pe, h, hY⟩
def yseqK (f : YPost → PS → Option Code → Prop) (Q : YPost) : YPost
  | .normal, S, pe => f Q S pe
  | e, S, pe => Q e S pe
theorem YWP.seq {x y : Code} (h : YWP P K x (yseqK (YWP P K y) Q) S pe) : YWP P K (.seq x y) Q S pe := by
  intro L g0 S0 w0 hB g a w hY
  refine wp_seq (wp_mono (h L g0 S0 w0 hB g a w hY) ?_)
  rintro e a' w' ⟨g', S', pe', h1, h2⟩
  cases e with
  | normal => exact h1 L g0 S0 w0 hB g' a' w' h2
  | _ => exact ⟨g', S', pe', h1, h2⟩
theorem YWP.cond {c : Operand} {x y : Code} {b : Bool} (hc : S.ev c = .bool b) (ht : b = true → YWP P K x Q S pe) (hf : b = false → YWP P K y Q S pe) : YWP P K (.cond c x y) Q S pe := by
  intro L g0 S0 w0 hB g a w hY
  have he : a.eval c = .bool b := by
    have := ev_rel (a := a) hY.inv.w.gl hY.inv.env c
    rw [hc] at this
    exact this.bool_inv
  cases b with
  | true => exact wp_cond he (ht rfl L g0 S0 w0 hB g a w hY)
  | false => exact wp_cond he (hf rfl L g0 S0 w0 hB g a w hY)
def yblkK (i : Nat) (Q : YPost) : YPost
  | .exit j, S, pe => if j = i then Q .normal S pe else Q (.exit j) S pe
  | e, S, pe => Q e S pe
theorem YWP.block {i : Nat} {c : Code} (h : YWP P K c (yblkK i Q) S pe) : YWP P K (.block i c) Q S pe := by
  intro L g0 S0 w0 hB g a w hY
  refine wp_block (wp_mono (h L g0 S0 w0 hB g a w hY) ?_)
  rintro e a' w' ⟨g', S', pe', h1, h2⟩
  cases e with
  | exit j =>
    simp only [Exit.inBlock, yblkK] at h1 ⊢
    split
    · rename_i e; rw [if_pos e] at h1; exact ⟨g', S', pe', h1, h2⟩
    · rename_i e; rw [if_neg e] at h1; exact ⟨g', S', pe', h1, h2⟩
  | _ => exact ⟨g', S', pe', h1, h2⟩
def yloopK (K : Yc) {α : Type} (I : α → PS) (J : α → Option Code) (μ : α → Nat) (a : α) (Q : YPost) : YPost
  | .normal, S, pe => ∃ a', μ a' < μ a ∧ Wk K.k S (I a') ∧ pe = J a'
  | e, S, pe => Q e S pe
theorem YWP.loop {c : Code} {α : Type} (I : α → PS) (J : α → Option Code) (μ : α → Nat) (a0 : α) (h0 : Wk K.k S (I a0)) (j0 : pe = J a0) (hr : ∀ a, YWP P K c (yloopK K I J μ a Q) (I a) (J a)) : YWP P K (.loop c) Q S pe := by
  intro L g0 S0 w0 hB g a w hY b k cs
  have key : ∀ (m : Nat) (x : α), μ x = m → ∀ (g₁ : Gh) (a₁ : Act) (w₁ : World), YI K L g0 S0 w0 g₁ (I x) (I x).nxt (J x) a₁ w₁ →
      ∃ e a' w', ypost K L g0 S0 w0 Q e a' w' ∧ Arrives P (lone (b.at a₁ (.code c :: .inLoop c :: k)) cs w₁) b k cs e a' w' := by
    intro m
    induction m using Nat.strongRecOn with
    | _ m ih =>
      intro x hx g₁ a₁ w₁ hY₁
      obtain ⟨e, a₂, w₂, ⟨g₂, S₂, pe₂, hq, hY₂⟩, harr⟩ := hr x L g0 S0 w0 hB g₁ a₁ w₁ hY₁ b (.inLoop c :: k) cs
      cases e with
      | normal =>
        obtain ⟨x', hlt, hwk, hj⟩ := hq
        obtain ⟨g₃, hY₃⟩ := hY₂.weak hB hwk
        rw [hj] at hY₃
        obtain ⟨e₂, a₃, w₃, hq₂, harr₂⟩ := ih (μ x') (by omega) x' rfl g₃ a₂ w₂ hY₃
        exact ⟨e₂, a₃, w₃, hq₂, .of_steps (Steps.trans harr (.one step_inLoop)) harr₂⟩
      | exit id => exact ⟨_, a₂, w₂, ⟨g₂, S₂, pe₂, hq, hY₂⟩, .pass (x := .inLoop c) rfl (fun _ _ => .inl (by simp)) harr⟩
      | goto l => exact ⟨_, a₂, w₂, ⟨g₂, S₂, pe₂, hq, hY₂⟩, .pass (x := .inLoop c) rfl (fun _ _ => .inl (by simp)) harr⟩
      | ret => exact ⟨_, a₂, w₂, ⟨g₂, S₂, pe₂, hq, hY₂⟩, .pass (x := .inLoop c) rfl (fun _ _ => .inl (by simp)) harr⟩
      | panic ch => exact ⟨_, a₂, w₂, ⟨g₂, S₂, pe₂, hq, hY₂⟩, .pass (x := .inLoop c) rfl (fun _ _ => .inl (by simp)) harr⟩
      | outgrown => exact ⟨_, a₂, w₂, ⟨g₂, S₂, pe₂, hq, hY₂⟩, .pass (x := .inLoop c) rfl (fun _ _ => .inl (by simp)) harr⟩
  obtain ⟨g', hY'⟩ := hY.weak hB h0
  rw [j0] at hY'
  obtain ⟨e, a', w', hq, harr⟩ := key _ a0 rfl g' a w hY'
  exact ⟨e, a', w', hq, .of_steps (.one step_loop) harr⟩

/-! ### A region without a call of yield -/
theorem reg_ops2 {m : Nat} {Q : Post} {ops : Array Oper} {L : List Lk} {S' : PS} (hC : Chain P S.nxt ops.toList ops.toList 0 S L S')
    (h : regDone false ops S.nxt Q S' (L.map fun x => Tr.of x.δ)) (g : Gh) (a : Act) (w : World) (hI : Inv g S a.tmps w) (hd : Df w a.defers) (hF : ∀ j, S.nxt ≤ j → Fresh g j) (hp : ∀ i, i < m → g.blk i ≠ none) : wpOps P ops (fun e a' w' => cpost m g S w a.defers Q e a' w' ∧ a'.defers = a.defers) (List.range ops.size) a w := by
  obtain ⟨hok, hQ⟩ := h
  have hpin : ∀ {g' S₂ w₂}, Ext g S w g' S₂ w₂ → ∀ i, i < m → g'.blk i = g.blk i := by
    intro g' S₂ w₂ hE i hi
    cases hb : g.blk i with
    | none => exact absurd hb (hp i hi)
    | some b => exact hE.le.blk i b hb
  have fin : ∀ (a' : Act) g' w', Inv g' S' a'.tmps w' → Ext g S w g' S' w' → (∀ j, S.nxt + 4 * ops.toList.length ≤ j → Fresh g' j) → a'.defers = a.defers → cpost m g S w a.defers Q .normal a' w' ∧ a'.defers = a.defers := by
    intro a' g' w' hI' hE hF' hd'
    have hd2 : Df2 w a.defers w' a'.defers := by rw [hd']; exact hd.keep hI.w hE.toW
    have hs := S'.same_nxt (S.nxt + 4 * ops.toList.length)
    exact ⟨⟨g', _, hQ, ⟨InvW.same hs hI'.w, hI'.env, hI'.size⟩, hd2, hF', ⟨(Ext.same hE (fun _ => rfl) hs).toW, hpin hE⟩⟩, hd'⟩
  have := run_order (P := P) (ops := ops) rfl (Q := fun e a' w' => cpost m g S w a.defers Q e a' w' ∧ a'.defers = a.defers) hC ops.toList.length 0 (by omega) g a w (by rw [hC.link.1]; exact hI) (fun j hj => hF j (by omega))
    (fun a' g' w' h1 h2 h3 h4 => fin a' g' w' h1 (by rw [hC.link.1] at h2; exact h2) h3 h4)
  rw [List.range_eq_range']
  simpa using this
def yregQ (Q : YPost) (pe : Option Code) : Post := fun e S => e = .normal ∧ Q .normal S pe
theorem YWP.region_chain (hm : P.follows .mixedOrders = true) {id : Nat} {ops : Array Oper} {draw : Bool} {L : List Lk} {S' : PS} (hC : Chain P S.nxt ops.toList ops.toList 0 S L S')
    (h : regDone draw ops S.nxt (yregQ Q pe) S' (L.map fun x => Tr.of x.δ)) : YWP P K (.region id ops draw) Q S pe := by
  intro L g0 S0 w0 hB g a w hY
  have hdf : Df w a.defers := by rw [hY.df]; exact ⟨by simp, by simp⟩
  have key : (Code.region id ops draw).wp P (fun e a' w' => cpost K.k g S w a.defers (yregQ Q pe) e a' w' ∧ a'.defers = a.defers) a w := by
    cases draw with
    | false => exact wp_region (reg_ops2 hC h g a w hY.inv hdf hY.fresh (hY.pins hB))
    | true => exact wp_region_any hm (reg_any2 hC h g a w hY.inv hdf hY.fresh (hY.pins hB))
  refine wp_mono key ?_
  rintro e a' w' ⟨⟨g', S'', ⟨rfl, hq⟩, hI', -, hF', hE'⟩, hde⟩
  exact ⟨g', S'', pe, hq, hI', hF', hY.ext.trans hE', hE'.e.ld hY.inv.w hY.lp rfl, hE'.e.ld hY.inv.w hY.dd rfl, hde.trans hY.df⟩

/-! ### A region with a call of yield, in the text's order -/
theorem Oper.wp_wide {o : Oper} {a : Act} {w : World} {next next' : Act → World → Prop} {Q : Exit → Act → World → Prop} {n : Nat} (hn : ∀ a w, next a w → next' a w) (h : o.wp P a w next Q) :
    o.wpIn Fence.wide n P a w next' Q := by
  refine ⟨fun _ _ => trivial, ?_⟩
  rw [show Fence.wide.round = none from rfl, Oper.semAt_none]
  unfold Oper.wp at h
  revert h
  generalize (execOp a.eval o).run P w = r
  intro h
  unfold Oper.upon at h
  split at h
  · exact hn _ _ h
  · exact hn _ _ h
  · exact hn _ _ h
  · refine ⟨(fun h => by cases h), ?_⟩
    refine (callsIn_wide.2 (h.mono fun e w' he => ?_))
    split at he
    · exact hn _ _ he
    · exact he
    · exact he
  · refine ⟨(fun h => by cases h), ?_⟩
    rename_i row args w'
    intro c cs _
    obtain ⟨v, w1, h1, h2⟩ := h c cs
    exact ⟨v, w1, hn _ _ h1, stepsIn_wide.2 h2⟩
  · exact h
  · exact h.elim
def YOps (P : Program) (K : Yc) (ops : Array Oper) (Q : YPost) (rest : List Nat) (S : PS) (nid : Nat) (pe : Option Code) : Prop :=
  ∀ L g0 S0 w0, YB K L g0 S0 w0 → ∀ g a w, YI K L g0 S0 w0 g S nid pe a w → wpOpsIn Fence.wide 2 P ops (ypost K L g0 S0 w0 Q) rest a w
theorem YOps.nil {ops : Array Oper} {nid : Nat} (h : Q .normal { S with nxt := nid } pe) : YOps P K ops Q [] S nid pe := by
  intro L g0 S0 w0 hB g a w hY
  have hs := S.same_nxt nid
  exact ⟨g, _, pe, h, ⟨InvW.same hs hY.inv.w, hY.inv.env, hY.inv.size⟩, hY.fresh, ExtP.same_r (S' := S) (fun _ => rfl) (fun _ => rfl) hY.ext, hY.lp, hY.dd, hY.df⟩
theorem YOps.op {ops : Array Oper} {rest : List Nat} {i nid0 : Nat} {o : Oper} {c : Bool} {δ : Dl} (hno : ∀ S pe, ¬ Q .outgrown S pe) (ho : ops[i]? = some o) (hg : gcond ops.toList S o = some c) (ht : c = true → LTripR P (nid0 + 4 * i) o S δ)
    (hr : c = false → δ.wr = [] ∧ δ.tk = []) (hd : ∀ d, o.dst = some d → d < S.n) (h : YOps P K ops Q rest (S.put o c δ) (nid0 + 4 * i + 4) pe) : YOps P K ops Q (i :: rest) S (nid0 + 4 * i) pe := by
  intro L g0 S0 w0 hB g a w hY
  have h1 := run_one (P := P) (full := ops.toList) (nid0 := nid0) rfl ho (Q := ypost K L g0 S0 w0 Q) (K := fun a' w' => wpOpsIn Fence.wide 2 P ops (ypost K L g0 S0 w0 Q) rest a' w') hY.inv hg ht hr hd (fun _ _ => rfl) (fun j hj _ => hY.fresh j hj)
    (fun a' g' w' hI' hE hF hdf => h L g0 S0 w0 hB g' a' w' ⟨hI', fun j hj => hF j (.inr hj) (hY.fresh j (by omega)), hY.ext.trans ⟨hE.toW, fun i hi => by
      cases hb : g.blk i with
      | none => exact absurd hb (hY.pins hB i hi)
      | some b => exact hE.le.blk i b hb⟩, hE.toW.ld hY.inv.w hY.lp rfl, hE.toW.ld hY.inv.w hY.dd rfl, hdf.trans hY.df⟩)
  unfold wpOp at h1
  unfold wpOpsIn
  rw [ho] at h1 ⊢
  simp only at h1 ⊢
  split at h1
  · rename_i hw
    rw [if_pos hw]
    rcases h1 with h1 | ⟨-, h1⟩
    · exact Oper.wp_wide (fun _ _ h => h) h1
    · obtain ⟨a', w', g', S', pe', hq, -⟩ := h1
      exact absurd hq (hno _ _)
  · rename_i hw
    rw [if_neg hw]
    exact ⟨fun _ _ => trivial, h1⟩

/-- The loop's parameters, filled. -/
def pz : List Tmp → List PV → List (Nat × PV) → List (Nat × PV)
  | p :: ps, v :: vs, E => pz ps vs ((p, v) :: E)
  | _, _, E => E
theorem pz_rel {g : Gh} : ∀ (ps : List Tmp) (vs : List Value) (qs : List PV) (E : List (Nat × PV)) (t : Array Value), vs.length = qs.length → (∀ (i : Nat) (v : Value) (q : PV), vs[i]? = some v → qs[i]? = some q → Rel g v q) → (∀ p ∈ ps, p < t.size) →
    (∀ i, Rel g (t.getD i undef) (lkp .any E i)) → ((ps.zip vs).foldl (fun t (p, v) => t.setIfInBounds p v) t).size = t.size ∧ ∀ i, Rel g (((ps.zip vs).foldl (fun t (p, v) => t.setIfInBounds p v) t).getD i undef) (lkp .any (pz ps qs E) i)
  | [], vs, qs, E, t, hl, hr, hp, hE => by cases qs <;> exact ⟨rfl, hE⟩
  | p :: ps, [], [], E, t, hl, hr, hp, hE => ⟨rfl, hE⟩
  | p :: ps, v :: vs, q :: qs, E, t, hl, hr, hp, hE => by
    have hps := hp p (List.mem_cons_self ..)
    obtain ⟨h1, h2⟩ := pz_rel ps vs qs ((p, q) :: E) (t.setIfInBounds p v) (by simpa using hl) (fun i v' q' h1 h2 => hr (i + 1) v' q' (by simpa using h1) (by simpa using h2)) (fun x hx => by rw [Array.size_setIfInBounds]; exact hp x (List.mem_cons_of_mem _ hx)) (fun i => by
      simp only [lkp]
      split
      · rename_i e; subst e
        have : (t.setIfInBounds p v).getD p undef = v := by simp [hps]
        rw [this]; exact hr 0 v q rfl rfl
      · rename_i e
        have : (t.setIfInBounds p v).getD i undef = t.getD i undef := by simp [Array.getElem?_setIfInBounds_ne e]
        rw [this]; exact hE i)
    exact ⟨h1.trans (by simp), h2⟩

/-- The iterator's state behind a round. -/
def yst (K : Yc) (S : PS) (d : Nat) (b : Bool) (S2 : PS) : PS := { n := S.n, env := (d, .bool b) :: kpE K.k S.env, objs := S2.objs, live := S2.live, nxt := S2.nxt }
/-- The state in which a round begins. -/
def ybeg (K : Yc) (S : PS) (qs : List PV) (nid : Nat) : PS := { n := K.n, env := pz K.ps.toList qs K.E, objs := S.objs, live := S.live, nxt := nid }
/-- Behind a round. -/
def yrK (f : Bool → PS → Option Code → Prop) : Post
  | .normal, S2 => f true S2 none
  | .exit j, S2 => f false S2 (some (.exit j))
  | .ret, S2 => f false S2 (some .ret)
  | _, _ => False
def yasK (P : Program) (K : Yc) (f : Bool → PS → Option Code → Prop) : Post := fun e S1 => e = .normal ∧ ∀ l, PWPR P K.k l 1 K.body (yrK f) S1

theorem run_yieldOp {o : Oper} {ρ : Operand → Value} {fo : Operand} {as : Array Operand} {ts : Array TypeId} {l : Nat} {w : World} {x : Next} (hop : o.op = .call { callee := .value fo, args := as, argTypes := ts }) (hf : ρ fo = .func (.yield l) #[] #[])
    (h : (Instr.yield l (as.map ρ)).run P w = .ok x w) : (execOp ρ o).run P w = .ok x w := by
  simp [execOp, hop, resolve, hf, Deferred.ofValue, invoke, h]

theorem YOps.yield {ops : Array Oper} {rest : List Nat} {i nid : Nat} {o : Oper} {fo : Operand} {as : Array Operand} {ts : Array TypeId} {d : Nat} (ho : ops[i]? = some o) (hop : o.op = .call { callee := .value fo, args := as, argTypes := ts }) (hgd : gcond ops.toList S o = some true) (hdst : o.dst = some d) (hdn : d < S.n)
    (hfo : (S.ev fo).un = .yld K.y) (hfc : (S.ev fo).cnd = true) (hc : cndAll S as.toList = true) (hps : as.size = K.ps.size) (hpn : ∀ p ∈ K.ps.toList, p < K.n)
    (h : ∀ l, PWPR P K.k l 1 K.assign (yasK P K fun b S2 pe' => YOps P K ops Q rest (yst K S d b S2) S2.nxt pe') (ybeg K S (as.toList.map fun x => (S.ev x).un) nid)) : YOps P K ops Q (i :: rest) S nid none := by
  intro L g0 S0 w0 hB g a w hY
  have hev : ∀ x, Rel g (a.eval x) (S.ev x) := fun x => ev_rel (a := a) hY.inv.w.gl hY.inv.env x
  have hfv : a.eval fo = .func (.yield L.l) #[] #[] := by
    have := (hev fo).un hfc
    rw [hfo] at this
    obtain ⟨b, h1, h2⟩ := this.yld_inv
    rw [hY.ext.pin K.y hB.yk, hB.hy] at h1
    cases h1
    exact h2
  have hy := run_yield (P := P) (args := as.map a.eval) hY.lp (by simp [hps, Lc.loop])
  unfold wpOpsIn
  rw [ho]
  simp only
  rw [if_pos (guard_runs (full := ops.toList) rfl (fun t _ => hY.inv.env t) hgd)]
  refine ⟨fun _ _ => trivial, ?_⟩
  rw [show Fence.wide.round = none from rfl, Oper.semAt_none, run_yieldOp hop hfv hy, Oper.uponIn_round]
  refine ⟨fun h => (by cases h), roundIn_of_wpIn trivial ?_⟩
  -- the frame of the round
  have henv0 : ∀ t, Rel g (L.ac.getD t undef) (lkp .any K.E t) := fun t => hB.keep t g0 g _ hY.ext.e.le hY.ext.pin (fun b T hb => hY.ext.e.ty b T hb) (hB.env t)
  have hz := pz_rel (g := g) K.ps.toList (as.toList.map a.eval) (as.toList.map fun x => (S.ev x).un) K.E L.ac (by simp) (fun j v q hv hq => by
      rw [List.getElem?_map] at hv hq
      obtain ⟨x, hx, rfl⟩ := Option.map_eq_some_iff.1 hv
      rw [hx] at hq; cases hq
      exact (hev x).un (List.all_eq_true.1 hc x (List.mem_of_getElem? hx)))
    (fun p hp => Nat.lt_of_lt_of_le (hpn p hp) hB.size) henv0
  have htm : ((K.ps.zip (as.map a.eval)).foldl (fun t (p, v) => t.setIfInBounds p v) L.ac) = ((K.ps.toList.zip (as.toList.map a.eval)).foldl (fun t (p, v) => t.setIfInBounds p v) L.ac) := by
    rw [← Array.foldl_toList]; simp
  have hI0 : Inv g (ybeg K S (as.toList.map fun x => (S.ev x).un) nid) ((L.loop K (stOf none) none).params.zip (as.map a.eval) |>.foldl (fun t (p, v) => t.setIfInBounds p v) (L.loop K (stOf none) none).tmps) w := by
    refine ⟨InvW.of_eq (S := S) (fun _ => rfl) (fun _ => rfl) hY.inv.w, fun t => ?_, ?_⟩
    · show Rel g (((K.ps.zip (as.map a.eval)).foldl (fun t (p, v) => t.setIfInBounds p v) L.ac).getD t undef) _
      rw [htm]; exact hz.2 t
    · show K.n ≤ ((K.ps.zip (as.map a.eval)).foldl (fun t (p, v) => t.setIfInBounds p v) L.ac).size
      rw [htm, hz.1]; exact hB.size
  refine wpIn_mono (h L.l g { tmps := _, defers := [] } w hI0 ⟨by simp, by simp⟩ hY.fresh (hY.pins hB)) ?_
  rintro e a1 w1 ⟨g1, S1, ⟨rfl, hbd⟩, hI1, hd1, hF1, hE1⟩
  have hE1' : ExtP K.k g S w g1 S1 w1 := ExtP.same_l (S := ybeg K S (as.toList.map fun x => (S.ev x).un) nid) (fun _ => rfl) (fun _ => rfl) hE1
  have hl1 := hE1'.e.ld hY.inv.w hY.lp rfl
  have hD1 := hE1'.e.ld hY.inv.w hY.dd rfl
  refine ⟨_, run_beginRound hl1 rfl, ?_⟩
  have e1 : ExtP K.k g0 S0 w0 g1 S1 w1 := hY.ext.trans hE1'
  have hlt1 : L.l < w1.heap.size := (Array.getElem?_eq_some_iff.1 hl1).1
  generalize hw2 : w1.putObj L.l (.loop { L.loop K (stOf none) none with state := .busy }) = w2
  have hl2 : w2.heap[L.l]? = some (.loop { L.loop K (stOf none) none with state := .busy }) := by rw [← hw2]; exact World.putObj_heap_same hlt1
  have hD2 : w2.heap[L.D]? = some (.deferred (some [])) := by rw [← hw2, World.putObj_heap_other hB.ne]; exact hD1
  have hI2 : Inv g1 S1 a1.tmps w2 := by rw [← hw2]; exact ⟨hI1.w.ld (KeepsLd.putObj _ hl1 rfl), hI1.env, hI1.size⟩
  have e2 : ExtP K.k g0 S0 w0 g1 S1 w2 := by rw [← hw2]; exact e1.grown (grownBy_putObj' _ _ _) (fun r e => by cases e; exact hB.low) (Nat.le_refl _)
  have hd2 : Df w2 a1.defers := by rw [← hw2]; exact hd1.1.put hl1
  refine wpIn_mono (hbd L.l g1 a1 w2 hI2 hd2 hF1 (fun i hi => by rw [e1.pin i hi]; exact hB.pin i hi)) ?_
  rintro e a3 w3 ⟨g3, S3, hq, hI3, hd3, hF3, hE3⟩
  have hl3 := hE3.e.ld hI2.w hl2 rfl
  have hD3 := hE3.e.ld hI2.w hD2 rfl
  have hlt3 : L.l < w3.heap.size := (Array.getElem?_eq_some_iff.1 hl3).1
  have fin : ∀ (b : Bool) (jump : Option Code) (w4 : World), w4 = w3.putObj L.l (.loop (L.loop K (stOf jump) jump)) → YOps P K ops Q rest (yst K S d b S3) S3.nxt jump → wpOpsIn Fence.wide 2 P ops (ypost K L g0 S0 w0 Q) rest (a.put o.dst (.bool b)) w4 := by
    intro b jump w4 hw4 hk
    subst hw4
    have e3 : ExtP K.k g0 S0 w0 g3 S3 w3 := e2.trans hE3
    have hle : g.h.le g3.h := HMap.le_trans hE1'.e.le hE3.e.le
    have hbk : ∀ i, i < K.k → g3.blk i = g.blk i := fun i hi => (hE3.pin i hi).trans (hE1'.pin i hi)
    have hty : ∀ b T, g.ty b = some T → g3.ty b = some T := fun b T e => hE3.e.ty b T (hE1'.e.ty b T e)
    refine hk L g0 S0 w0 hB g3 _ _ ⟨⟨InvW.of_eq (S := S3) (fun _ => rfl) (fun _ => rfl) (hI3.w.ld (KeepsLd.putObj _ hl3 rfl)), fun t => ?_, ?_⟩, hF3, ExtP.same_r (S' := S3) (fun _ => rfl) (fun _ => rfl) (e3.grown (grownBy_putObj' _ _ _) (fun r e => by cases e; exact hB.low) (Nat.le_refl _)), World.putObj_heap_same hlt3, (World.putObj_heap_other hB.ne).trans hD3, ?_⟩
    · show Rel g3 ((a.put o.dst (.bool b)).tmps.getD t undef) (lkp .any ((d, PV.bool b) :: kpE K.k S.env) t)
      rw [hdst]
      simp only [lkp, Act.put]
      split
      · rename_i e; subst e
        have hlt : d < a.tmps.size := Nat.lt_of_lt_of_le hdn hY.inv.size
        have : (a.tmps.setIfInBounds d (.bool b)).getD d undef = .bool b := by simp [hlt]
        rw [this]; exact .pure _ _ (.bool b)
      · rename_i e
        have : (a.tmps.setIfInBounds d (.bool b)).getD t undef = a.tmps.getD t undef := by simp [Array.getElem?_setIfInBounds_ne e]
        rw [this, kpE_lkp]
        exact kp1_ok K.k _ g g3 _ hle hbk hty (kp1_rel (hY.inv.env t))
    · rw [hdst]
      show S.n ≤ (a.tmps.setIfInBounds d (.bool b)).size
      rw [Array.size_setIfInBounds]; exact hY.inv.size
    · rw [hdst]; exact hY.df
  cases e with
  | normal => exact ⟨_, _, run_endRound none hl3, fin true none _ rfl hq⟩
  | exit j => exact ⟨_, _, run_endRound (some (.exit j)) hl3, fin false (some (.exit j)) _ rfl hq⟩
  | ret => exact ⟨_, _, run_endRound (some .ret) hl3, fin false (some .ret) _ rfl hq⟩
  | _ => exact hq.elim
theorem YOps.le {ops : Array Oper} {rest : List Nat} {nid nid' : Nat} (hn : nid ≤ nid') (h : YOps P K ops Q rest S nid' pe) : YOps P K ops Q rest S nid pe :=
  fun L g0 S0 w0 hB g a w hY => h L g0 S0 w0 hB g a w ⟨hY.inv, fun j hj => hY.fresh j (Nat.le_trans hn hj), hY.ext, hY.lp, hY.dd, hY.df⟩
theorem YWP.region {id : Nat} {ops : Array Oper} (h : YOps P K ops Q (List.range ops.size) S S.nxt pe) : YWP P K (.region id ops false) Q S pe :=
  fun L g0 S0 w0 hB g a w hY => wpIn_wide.1 (wpIn_region (h L g0 S0 w0 hB g a w hY))
end

/-! ### The statement -/
/-- Boxes that are not are named. -/
def Gh.bfill (g : Gh) (y l : Nat) : Gh := { g with blk := fun i => match g.blk i with | some b => some b | none => if i = y then some l else if i < y then some 0 else none }
theorem bfill_old {g : Gh} {y l i : Nat} (h : g.blk i ≠ none) : (g.bfill y l).blk i = g.blk i := by
  cases e : g.blk i with
  | none => exact absurd e h
  | some b => simp [Gh.bfill, e]
theorem bfill_le (g : Gh) (y l : Nat) : g.le (g.bfill y l) := ⟨HMap.le_refl _, fun i b e => by simp [Gh.bfill, e], fun _ _ e => e, fun _ _ e => e⟩
theorem InvW.blk_some {g : Gh} {S : PS} {w : World} (hI : InvW g S w) {i : Nat} (h : S.obj i ≠ none) : g.blk i ≠ none := by
  cases e : S.obj i with
  | none => exact absurd e h
  | some ps => obtain ⟨b, h1, _⟩ := hI.objs i ps e; rw [h1]; simp
theorem Own.bfill {g : Gh} {S : PS} {w : World} (hI : InvW g S w) {y l b o : Nat} (h : Own (g.bfill y l) S b o) : Own g S b o := by
  rcases h with ⟨id, h1, h2⟩ | h | h
  · exact .inl ⟨id, h1, by rw [← bfill_old (hI.blk_some h1)]; exact h2⟩
  · exact .inr (.inl h)
  · exact .inr (.inr h)
theorem InvW.bfill {g : Gh} {S : PS} {w : World} (hI : InvW g S w) (y l : Nat) : InvW (g.bfill y l) S w where
  gl := hI.gl
  hw := hI.hw
  objs := fun id ps e => by
    obtain ⟨b, h1, h2, h3⟩ := hI.objs id ps e
    exact ⟨b, by rw [bfill_old (by rw [h1]; simp)]; exact h1, h2.mono (bfill_le g y l), h3⟩
  inj := fun id id' b h1 h2 h3 h4 => hI.inj id id' b h1 h2 (by rw [← bfill_old (hI.blk_some h1)]; exact h3) (by rw [← bfill_old (hI.blk_some h2)]; exact h4)
  toks := fun k e => by
    obtain ⟨b, lo, hi, h1, h2⟩ := hI.toks k e
    refine ⟨b, lo, hi, h1, fun hl => ?_⟩
    obtain ⟨h3, h4, h5⟩ := h2 hl
    exact ⟨h3, h4, fun id hid => by rw [bfill_old (hI.blk_some hid)]; exact h5 id hid⟩
  tokd := hI.tokd
  jnk := fun b m e => by
    obtain ⟨h1, h2, h3, h4⟩ := hI.jnk b m e
    exact ⟨h1, h2, fun id hid => by rw [bfill_old (hI.blk_some hid)]; exact h3 id hid, h4⟩
  tys := hI.tys
theorem ExtP.bfill {m k y l : Nat} {g : Gh} {S : PS} {w : World} {g' : Gh} {S' : PS} {w' : World} (hI : InvW g S w) (hp : ∀ i, i < m → g.blk i ≠ none) (hmk : m ≤ k) (h : ExtP k (g.bfill y l) S w g' S' w') : ExtP m g S w g' S' w' :=
  ⟨⟨h.e.le, h.e.ty, fun b o v e => (h.e.new b o v e).imp id (Or.imp id (Own.bfill hI)), fun b o hb e => Own.bfill hI (h.e.own b o hb e), h.e.size, fun b hb => (h.e.keep b hb).mono (fun o e => Own.bfill hI e), h.e.os, h.e.tape, h.e.output⟩,
   fun i hi => (h.pin i (Nat.lt_of_lt_of_le hi hmk)).trans (bfill_old (hp i hi))⟩

/-- Behind the iterator. -/
def ryK (S : PS) (Q : Post) : YPost := fun e S' pe =>
  (e = .normal ∨ e = .ret) ∧ match pe with
    | none => Q .normal { n := S.n, env := kpE (S.nxt + 1) S.env, objs := S'.objs, live := S'.live, nxt := S'.nxt }
    | some (.exit j) => Q (.exit j) { n := S.n, env := kpE (S.nxt + 1) S.env, objs := S'.objs, live := S'.live, nxt := S'.nxt }
    | some .ret => Q .ret { n := S.n, env := kpE (S.nxt + 1) S.env, objs := S'.objs, live := S'.live, nxt := S'.nxt }
    | _ => False
/-- The loop, from the state in which it begins. -/
def ycOf (S : PS) (ps : Array Tmp) (assign body : Code) : Yc := { ps := ps, assign := assign, body := body, E := kpE (S.nxt + 1) S.env, n := S.n, k := S.nxt + 1, y := S.nxt }
/-- The iterator's start. -/
def itS (S : PS) (n : Nat) (caps : List PV) : PS := { n := n, env := zargs 0 (.yld S.nxt :: caps), objs := S.objs, live := S.live, nxt := S.nxt + 1 }

theorem PWP.rangeIn {P : Program} {m : Nat} {Q : Post} {S : PS} {gop : Operand} {ps : Array Tmp} {assign body : Code} {gf : Nat} {caps : List PV} {fn : Func} {c : Code}
    (hg : S.ev gop = .fn gf caps) (hf : P.funcs[gf]? = some fn) (hb : fn.body = some c) (hname : (fn.name == "runtime.NumGoroutine") = false) (hres : fn.results = #[]) (hn : caps.length + 1 ≤ fn.ntmps)
    (h : YWP P (ycOf S ps assign body) c (ryK S Q) (itS S fn.ntmps caps) none) : PWP P m (.rangeFunc gop ps assign body) Q S := by
  intro g a w hI hd hFr hp
  have hgo : ∃ lb, a.eval gop = .func (.func gf) #[] lb ∧ lb.size = caps.length ∧ ∀ (i : Nat) (v : Value) (p : PV), lb[i]? = some v → caps[i]? = some p → Rel g v p := by
    have := ev_rel (a := a) hI.w.gl hI.env gop
    rw [hg] at this
    exact this.fn_inv
  obtain ⟨lb, hlb, hls, hlr⟩ := hgo
  have hmk : m ≤ S.nxt + 1 := by
    by_cases hm : m ≤ S.nxt + 1
    · exact hm
    · exact absurd (hFr S.nxt (Nat.le_refl _)).1 (hp S.nxt (by omega))
  obtain ⟨g0, hg0⟩ : ∃ g0, g0 = g.bfill S.nxt (w.heap.size + 1) := ⟨_, rfl⟩
  obtain ⟨K, hK⟩ : ∃ K, K = ycOf S ps assign body := ⟨_, rfl⟩
  have hpin0 : ∀ i, i < S.nxt + 1 → g0.blk i ≠ none := fun i hi => by
    rw [hg0]
    simp only [Gh.bfill]
    cases e : g.blk i with
    | some b => simp
    | none =>
      by_cases e1 : i = S.nxt
      · simp [e1]
      · simp [e1]; omega
  have hy0 : g0.blk S.nxt = some (w.heap.size + 1) := by rw [hg0]; simp [Gh.bfill, (hFr S.nxt (Nat.le_refl _)).1]
  have hF0 : ∀ j, S.nxt + 1 ≤ j → Fresh g0 j := fun j hj => by
    have := hFr j (by omega)
    refine ⟨?_, by rw [hg0]; exact this.2⟩
    rw [hg0]
    simp only [Gh.bfill, this.1]
    rw [if_neg (by omega), if_neg (by omega)]
  have hle0 : g.le g0 := by rw [hg0]; exact bfill_le g _ _
  refine wpIn_wide (n := 3) |>.1 (wpIn_rangeFunc ?_)
  intro fid hfid
  rw [show Fence.wide.round = none from rfl]
  obtain ⟨L, hL⟩ : ∃ L : Lc, L = { l := w.heap.size + 1, D := w.heap.size, fn := fid, ac := a.tmps } := ⟨_, rfl⟩
  obtain ⟨W1, hW1⟩ : ∃ W1, (w.alloc (.deferred (some []))).alloc (.loop (L.loop K .ready none)) = W1 := ⟨_, rfl⟩
  have hL1 : W1.heap[w.heap.size + 1]? = some (.loop (L.loop K .ready none)) := by
    rw [← hW1]; have := World.alloc_heap_new (w.alloc (.deferred (some []))) (.loop (L.loop K .ready none)); rwa [World.size_alloc] at this
  have hK1 : W1.heap[w.heap.size]? = some (.deferred (some [])) := by
    rw [← hW1]; exact (Go.RowKit.Below.heap_alloc _ _ _ (by simp)).trans (World.alloc_heap_new w _)
  have hB : YB K L g0 S w := by
    subst hK hL
    exact ⟨hpin0, hy0, Nat.lt_succ_self _, Nat.le_succ _, by show w.heap.size ≠ w.heap.size + 1; omega, fun t => by
      show Rel g0 _ (lkp .any (kpE (S.nxt + 1) S.env) t)
      rw [kpE_lkp]; exact kp1_rel ((hI.env t).mono hle0), fun t => by
      show keepPV (S.nxt + 1) (lkp .any (kpE (S.nxt + 1) S.env) t)
      rw [kpE_lkp]; exact kp1_ok _ _, hI.size⟩
  refine ⟨w.heap.size + 1, [{ target := .collected w.heap.size, args := #[] }], W1, { target := .fn (.func gf) lb, args := #[.func (.yield (w.heap.size + 1)) #[] #[]] }, W1, gf,
    #[.func (.yield (w.heap.size + 1)) #[] #[]] ++ lb, W1, ?_, ?_, ?_, ?_, fun _ => by omega, ?_⟩
  · rw [← hW1, hL, hK]; exact run_enterLoop_outer _ _ _ _ _
  · simp only [resolve, hlb]
    simp [go_sem]
  · intro f' hf'; trivial
  · have hcf : (callFunc gf (#[.func (.yield (w.heap.size + 1)) #[] #[]] ++ lb)).run P W1 = .ok (.enter gf (#[.func (.yield (w.heap.size + 1)) #[] #[]] ++ lb)) W1 := by
      have hne : ¬ fn.name = "runtime.NumGoroutine" := by simpa using hname
      simp [callFunc, Sem.run, hf, hb, hne, go_sem]
    simp [invoke, go_sem, hcf]
  · refine callsIn_of_wp hf hb trivial (wpIn_wide.2 (wp_mono (h L g0 S w (hK ▸ hB) g0 _ W1 ?_) ?_))
    · -- the iterator's frame
      have hIw : InvW g0 S W1 := by
        rw [← hW1, hg0]
        exact ((hI.w.bfill _ _).ld (KeepsLd.alloc _ _)).ld (KeepsLd.alloc _ _)
      have hsz : lb.size + 1 ≤ fn.ntmps := by omega
      refine ⟨⟨InvW.of_eq (S := S) (fun _ => rfl) (fun _ => rfl) hIw, fun t => ?_, ?_⟩, hF0, ?_, ?_, ?_, rfl⟩
      · show Rel g0 _ (lkp .any (zargs 0 (.yld S.nxt :: caps)) t)
        rw [zargs_get]
        simp only [Nat.zero_le, if_true, Nat.sub_zero]
        have hvs : (#[Value.func (.yield (w.heap.size + 1)) #[] #[]] ++ lb).size = (PV.yld S.nxt :: caps).length := by simp; omega
        generalize hq : (PV.yld S.nxt :: caps) = qs at hvs
        have hrel : ∀ (i : Nat) (v : Value) (p : PV), (#[Value.func (.yield (w.heap.size + 1)) #[] #[]] ++ lb)[i]? = some v → qs[i]? = some p → Rel g0 v p := by
          intro i v p hv hpp
          rw [← hq] at hpp
          cases i with
          | zero =>
            rw [Array.getElem?_append_left (by simp)] at hv
            simp at hv hpp; subst hv; subst hpp; exact .yld _ _ hy0
          | succ i =>
            rw [Array.getElem?_append_right (by simp)] at hv
            simp at hv hpp
            exact (hlr i v p hv hpp).mono hle0
        generalize (#[Value.func (.yield (w.heap.size + 1)) #[] #[]] ++ lb) = vs at hvs hrel
        by_cases ht : t < qs.length
        · have hv : t < vs.size := by omega
          have h1 : (vs ++ Array.replicate (fn.ntmps - vs.size) undef).getD t undef = vs[t] := by
            simp [Array.getElem?_append, hv]
          rw [h1, List.getD_eq_getElem?_getD, List.getElem?_eq_getElem ht]
          exact hrel t _ _ (by simp [hv]) (by simp [ht])
        · rw [List.getD_eq_getElem?_getD, List.getElem?_eq_none (Nat.le_of_not_lt ht)]
          exact .pure _ _ (.any _)
      · show fn.ntmps ≤ (_ : Array Value).size
        simp; omega
      · refine ExtP.same_r (S' := S) (fun _ => rfl) (fun _ => rfl) ?_
        rw [← hW1]
        exact ((ExtP.refl _ g0 S w).grown (World.grownBy_alloc _ _ none) (fun r e => by cases e) (Nat.le_refl _)).grown (World.grownBy_alloc _ _ none) (fun r e => by cases e) (Nat.le_refl _)
      · subst hL hK; exact hL1
      · subst hL; exact hK1
    · rintro e a' w' ⟨g', S', pe', ⟨he, hq⟩, hY⟩
      have hrr : (results fn a'.tmps).run P w' = .ok (.tuple #[]) w' := results_none hres _ _ _
      have hlt : w.heap.size + 1 < w'.heap.size := by
        have := hY.lp
        rw [hL] at this
        exact (Array.getElem?_eq_some_iff.1 this).1
      have hb2 : (L.loop K (stOf pe') pe').state ≠ .busy := by
        subst hL
        cases pe' <;> simp [Lc.loop, stOf]
      have hlp : w'.heap[w.heap.size + 1]? = some (.loop (L.loop K (stOf pe') pe')) := by
        have := hY.lp
        rw [← hK] at this
        subst hL; exact this
      have hend := run_endLoop (P := P) hlp hb2
      have hT : ∀ (Q' : Exit), Q Q' { n := S.n, env := kpE (S.nxt + 1) S.env, objs := S'.objs, live := S'.live, nxt := S'.nxt } →
          cpost m g S w a.defers Q Q' { a with defers := [{ target := .collected w.heap.size, args := #[] }] ++ a.defers } (w'.putObj (w.heap.size + 1) (.loop { L.loop K (stOf pe') pe' with state := .exhausted })) := by
        intro Q' hq
        have hx : ExtP (S.nxt + 1) g0 S w g' S' (w'.putObj (w.heap.size + 1) (.loop { L.loop K (stOf pe') pe' with state := .exhausted })) :=
          (show ExtP (S.nxt + 1) g0 S w g' S' w' from hY.ext).grown (grownBy_putObj' _ _ _) (fun r e => by cases e; omega) (Nat.le_refl _)
        have hx' : ExtP m g S w g' S' (w'.putObj (w.heap.size + 1) (.loop { L.loop K (stOf pe') pe' with state := .exhausted })) := ExtP.bfill hI.w hp hmk (hg0 ▸ hx)
        refine ⟨g', _, hq, ⟨InvW.of_eq (S := S') (fun _ => rfl) (fun _ => rfl) (hY.inv.w.ld (KeepsLd.putObj _ hlp rfl)), fun t => ?_, hI.size⟩, ?_, hY.fresh, ExtP.same_r (S' := S') (fun _ => rfl) (fun _ => rfl) hx'⟩
        · show Rel g' _ (lkp .any (kpE (S.nxt + 1) S.env) t)
          rw [kpE_lkp]
          refine kp1_ok (S.nxt + 1) _ g0 g' _ hx.e.le hx.pin (fun b T hb => hx.e.ty b T hb) (kp1_rel ((hI.env t).mono hle0))
        · have hk := hd.keep hI.w hx'.e
          have hDD : (w'.putObj (w.heap.size + 1) (.loop { L.loop K (stOf pe') pe' with state := .exhausted })).heap[w.heap.size]? = some (.deferred (some [])) := by
            rw [World.putObj_heap_other (by omega)]
            have := hY.dd
            subst hL; exact this
          refine ⟨⟨List.nodup_cons.2 ⟨fun h => ?_, hk.1.1⟩, fun d h => ?_⟩, fun d h => ?_⟩
          · obtain ⟨D', h1, h2⟩ := hd.2 _ h
            cases h1
            have := (Array.getElem?_eq_some_iff.1 h2).1
            omega
          · rcases List.mem_cons.1 h with rfl | h
            · exact ⟨_, rfl, hDD⟩
            · exact hk.1.2 d h
          · rcases List.mem_cons.1 h with rfl | h
            · exact .inr ⟨_, Nat.le_refl _, rfl⟩
            · exact .inl h
      have hfin : rangePost Fence.wide 3 P (w.heap.size + 1) (cpost m g S w a.defers Q) { a with defers := [{ target := .collected w.heap.size, args := #[] }] ++ a.defers } (.returned (.tuple #[])) w' := by
        refine ⟨pe', _, hend, ?_⟩
        cases pe' with
        | none => exact hT _ hq
        | some cd =>
          cases cd with
          | exit j => exact wpIn_exit (hT _ hq)
          | ret => exact wpIn_ret (hT _ hq)
          | _ => exact hq.elim
      rcases he with rfl | rfl
      · exact ⟨hY.df, _, hrr, hfin⟩
      · exact ⟨hY.df, _, hrr, hfin⟩
end Go.Pv
