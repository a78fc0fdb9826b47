/- Abstract values: code, loops, functions. Nothing of any program. -/
import Derived.Test.YtbjeagcnakdmnaaPvP
import Derived.Scope
import Derived.RangeFuncLeaves
import Derived.RangeFuncNested
set_option linter.unusedSimpArgs false
set_option linter.unusedVariables false
set_option linter.unusedSectionVars false
namespace Go.Pv
variable [GTab]

/-! ### One operation, its operands as the state has them -/
/-- A choice between two truths. -/
def ite3 (x y z : Bool) : Bool := match x with | true => y | false => z
theorem ite3_true (x z : Bool) : ite3 x true z = (x || z) := by cases x <;> rfl
theorem ite3_false (x y : Bool) : ite3 x y false = (x && y) := by cases x <;> cases y <;> rfl

def PV.tb : PV → Bool
  | .bool b => b
  | _ => false
def PV.isB : PV → Bool
  | .bool _ => true
  | _ => false
theorem PV.isB_eq {p : PV} (h : p.isB = true) : p = .bool p.tb := by cases p <;> first | rfl | cases h
def stPick (a b c : PV) : Dl :=
  match a.un with
  | .bool x => { p := .bool (ite3 x b.un.tb c.un.tb), ok := a.cnd = true ∧ (x = true → (b.cnd && b.un.isB) = true) ∧ (x = false → (c.cnd && c.un.isB) = true) }
  | _ => bad

def cndAll (S : PS) (xs : List Operand) : Bool := xs.all fun x => (S.ev x).cnd

def stepD (P : Program) (nid : Nat) (o : Oper) (S : PS) : Dl :=
  match o.op with
  | .pick a b c => stPick (S.ev a) (S.ev b) (S.ev c)
  | op =>
    let δ := core P nid op (fun x => (S.ev x).un) S
    { δ with ok := cndAll S op.operands.toList = true ∧ δ.ok }

theorem stepD_sound {P : Program} {nid : Nat} {o : Oper} {S : PS} (h : (stepD P nid o S).ok) : LTripR P nid o S (stepD P nid o S) := by
  by_cases hp : ∃ a b c, o.op = .pick a b c
  · obtain ⟨a, b, c, hop⟩ := hp
    unfold stepD at h ⊢
    rw [hop] at h ⊢
    simp only at h ⊢
    unfold stPick at h ⊢
    split at h
    · rename_i x ha
      obtain ⟨h1, h2, h3⟩ := h
      refine LTrip.still fun g S' ρ w hI hr _ => ?_
      have ra := hr a (by simp [hop, Op.operands])
      have rb := hr b (by simp [hop, Op.operands])
      have rc := hr c (by simp [hop, Op.operands])
      have ea := (ra.un h1)
      rw [ha] at ea
      cases x with
      | true =>
        have h2 := h2 rfl
        rw [Bool.and_eq_true] at h2
        have eb := rb.un h2.1
        rw [PV.isB_eq h2.2] at eb
        exact ⟨.bool (S.ev b).un.tb, by simp [execOp, hop, ea.bool_inv, asBool, eb.bool_inv], .pure _ _ (by constructor)⟩
      | false =>
        have h3 := h3 rfl
        rw [Bool.and_eq_true] at h3
        have ec := rc.un h3.1
        rw [PV.isB_eq h3.2] at ec
        exact ⟨.bool (S.ev c).un.tb, by simp [execOp, hop, ea.bool_inv, asBool, ec.bool_inv], .pure _ _ (by constructor)⟩
    · exact h.elim
  · have hs : stepD P nid o S = { core P nid o.op (fun x => (S.ev x).un) S with ok := cndAll S o.op.operands.toList = true ∧ (core P nid o.op (fun x => (S.ev x).un) S).ok } := by
      unfold stepD
      split
      · rename_i a b c hop; exact absurd ⟨a, b, c, hop⟩ hp
      · rfl
    rw [hs] at h ⊢
    obtain ⟨h1, h2⟩ := h
    have hc := core_sound (o := o) h2
    intro g S' a w next Q hI ho hb ht hf hn
    refine hc g S' a w next Q hI (fun x hx => ?_) hb ht hf hn
    refine (ho x hx).un ?_
    exact List.all_eq_true.1 h1 x (by simpa using hx)

/-! ### A region, reckoned -/
def isCallV : Op → Bool
  | .call { callee := .value _, .. } => true
  | _ => false

/-- What may be done in more ways than one: a call; an empty slice that is made. -/
def isEx (P : Program) : Op → Bool
  | .buildSlice _ 0 _ => true
  | .makeSlice _ (.tmp _) _ => true
  | .makeSlice _ (.const (.int _ n)) _ => decide (0 < n)
  | .convert s d (.tmp _) => match tk P s with | .str => (match tk P d with | .sl _ => true | _ => false) | _ => false
  | op => isCallV op
def dstOk (o : Oper) (n : Nat) : Bool := match o.dst with | some d => decide (d < n) | none => true
def gdOk (c : Bool) (o : Oper) (δ : Dl) : Bool := c || (match o.guard with | some _ => δ.wr.isEmpty && δ.tk.isEmpty | none => true)

/-- What an operation that is not done may have made: nothing. -/
def cnil {α : Type} (c : Bool) (l : List α) : List α := match c with | true => l | false => []
theorem cnil_nil {α : Type} (c : Bool) : cnil c ([] : List α) = [] := by cases c <;> rfl
def gsel (c : Bool) (o : Oper) (δ : Dl) : Dl := match o.guard with | none => δ | some _ => { δ with wr := cnil c δ.wr, tk := cnil c δ.tk }
theorem gsel_true (o : Oper) (δ : Dl) : gsel true o δ = δ := by unfold gsel; cases o.guard <;> rfl

/-- A call: there is a triple of it. -/
def callE (P : Program) (nid : Nat) (c : Bool) (o : Oper) (S : PS) (K : Dl → Prop) : Prop :=
  ∃ δ, (c = true → LTripR P nid o S δ) ∧ gdOk c o δ = true ∧ K δ

def regE (P : Program) (nid0 : Nat) (full : List Oper) : List Oper → Nat → PS → (PS → List Tr → Prop) → List Tr → Prop
  | [], _, S, K, acc => K S acc
  | o :: os, i, S, K, acc =>
    match gcond full S o with
    | none => False
    | some c =>
      dstOk o S.n = true ∧
      if isEx P o.op then callE P (nid0 + 4 * i) c o S fun δ => regE P nid0 full os (i + 1) (S.put o c δ) K (acc ++ [Tr.of δ])
      else (c = true → (stepD P (nid0 + 4 * i) o S).ok) ∧
        regE P nid0 full os (i + 1) (S.put o c (gsel c o (stepD P (nid0 + 4 * i) o S))) K (acc ++ [Tr.of (gsel c o (stepD P (nid0 + 4 * i) o S))])

def regK (P : Program) (nid0 : Nat) (full : List Oper) (os : List Oper) (i : Nat) (S : PS) (o : Oper) (c : Bool) (K : PS → List Tr → Prop) (acc : List Tr) (δ : Dl) : Prop :=
  regE P nid0 full os (i + 1) (S.put o c δ) K (acc ++ [Tr.of δ])

/-- The equations by which it is reckoned. -/
theorem regE_nil {P nid0 full i S K acc} : regE P nid0 full [] i S K acc = K S acc := rfl
def regS (P : Program) (nid0 : Nat) (full : List Oper) (o : Oper) (os : List Oper) (i : Nat) (S : PS) (K : PS → List Tr → Prop) (acc : List Tr) (c : Option Bool) (δ : Dl) : Prop :=
  match c with
  | none => False
  | some c => (dstOk o S.n = true ∧ (c = true → δ.ok)) ∧ regE P nid0 full os (i + 1) (S.put o c (gsel c o δ)) K (acc ++ [Tr.of (gsel c o δ)])
def regC (P : Program) (nid0 : Nat) (full : List Oper) (o : Oper) (os : List Oper) (i : Nat) (S : PS) (K : PS → List Tr → Prop) (acc : List Tr) (c : Option Bool) : Prop :=
  match c with
  | none => False
  | some c => dstOk o S.n = true ∧ callE P (nid0 + 4 * i) c o S (regK P nid0 full os i S o c K acc)
theorem regE_op {P nid0 full o os i S K acc} (h : isEx P o.op = false) : regE P nid0 full (o :: os) i S K acc = regS P nid0 full o os i S K acc (gcond full S o) (stepD P (nid0 + 4 * i) o S) := by
  unfold regE regS
  cases gcond full S o with
  | none => rfl
  | some c => simp only [h, Bool.false_eq_true, if_false, and_assoc]
theorem regE_call {P nid0 full o os i S K acc} (h : isEx P o.op = true) : regE P nid0 full (o :: os) i S K acc = regC P nid0 full o os i S K acc (gcond full S o) := by
  unfold regE regC
  cases gcond full S o with
  | none => rfl
  | some c => simp only [h, if_true]; rfl

theorem regE_chain {P nid0 full} : ∀ {os i S K acc}, regE P nid0 full os i S K acc → ∃ L S', Chain P nid0 full os i S L S' ∧ K S' (acc ++ L.map fun x => Tr.of x.δ)
  | [], i, S, K, acc, h => ⟨[], S, .nil i S, by have h' : K S acc := h; simpa using h'⟩
  | o :: os, i, S, K, acc, h => by
    unfold regE at h
    cases hg : gcond full S o with
    | none => rw [hg] at h; exact h.elim
    | some c =>
      rw [hg] at h
      simp only at h
      obtain ⟨hd, h⟩ := h
      have hd' : ∀ d, o.dst = some d → d < S.n := by
        intro d e
        unfold dstOk at hd
        rw [e] at hd
        simpa using hd
      have hgd : ∀ δ : Dl, gdOk c o δ = true → c = false → δ.wr = [] ∧ δ.tk = [] := by
        intro δ h1 h2
        subst h2
        unfold gdOk at h1
        rw [Bool.false_or] at h1
        cases e : o.guard with
        | none =>
          unfold gcond at hg
          rw [e] at hg
          simp at hg
        | some jb => rw [e] at h1; simpa using h1
      split at h
      · obtain ⟨δ, h1, h2, h3⟩ := h
        obtain ⟨L, S', hC, hK⟩ := regE_chain h3
        exact ⟨⟨S, c, δ⟩ :: L, S', .cons o os i S c δ L S' hg h1 (hgd δ h2) hd' hC, by simpa using hK⟩
      · obtain ⟨h1, h3⟩ := h
        obtain ⟨L, S', hC, hK⟩ := regE_chain h3
        refine ⟨⟨S, c, gsel c o (stepD P (nid0 + 4 * i) o S)⟩ :: L, S', .cons o os i S c _ L S' hg (fun e => ?_) (fun e => ?_) hd' hC, by simpa using hK⟩
        · subst e; rw [gsel_true]; exact stepD_sound (h1 rfl)
        · subst e
          unfold gsel
          cases e : o.guard with
          | none => unfold gcond at hg; rw [e] at hg; simp at hg
          | some jb => exact ⟨rfl, rfl⟩

/-! ### Code -/
abbrev Post := Exit → PS → Prop

structure ExtP (m : Nat) (g : Gh) (S : PS) (w : World) (g' : Gh) (S' : PS) (w' : World) : Prop where
  e : ExtW g S w g' S' w'
  pin : ∀ i, i < m → g'.blk i = g.blk i

theorem Ext.toW {g S w g' S' w'} (h : Ext g S w g' S' w') : ExtW g S w g' S' w' := ⟨h.le.h, h.le.ty, h.new, h.own, h.size, h.keep, h.os, h.tape, h.output⟩
theorem ExtW.refl (g S w) : ExtW g S w g S w := (Ext.refl g S w).toW
theorem ExtW.trans {g S w g₁ S₁ w₁ g₂ S₂ w₂} (a : ExtW g S w g₁ S₁ w₁) (b : ExtW g₁ S₁ w₁ g₂ S₂ w₂) : ExtW g S w g₂ S₂ w₂ where
  le := HMap.le_trans a.le b.le
  ty := fun bb T h => b.ty bb T (a.ty bb T h)
  new := by
    intro bb o v h
    rcases b.new bb o v h with h | h | h
    · exact a.new bb o v h
    · exact .inr (.inl (Nat.le_trans a.size h))
    · by_cases hb : bb < w.heap.size
      · exact .inr (.inr (a.own bb o hb h))
      · exact .inr (.inl (by omega))
  own := fun bb o hb h => a.own bb o hb (b.own bb o (Nat.lt_of_lt_of_le hb a.size) h)
  size := Nat.le_trans a.size b.size
  keep := fun bb hb => (a.keep bb hb).trans ((b.keep bb (Nat.lt_of_lt_of_le hb a.size)).mono (fun o h => a.own bb o hb h))
  os := b.os.trans a.os
  tape := b.tape.trans a.tape
  output := b.output.trans a.output
theorem ExtP.refl (m g S w) : ExtP m g S w g S w := ⟨ExtW.refl _ _ _, fun _ _ => rfl⟩
theorem ExtP.trans {m g S w g₁ S₁ w₁ g₂ S₂ w₂} (a : ExtP m g S w g₁ S₁ w₁) (b : ExtP m g₁ S₁ w₁ g₂ S₂ w₂) : ExtP m g S w g₂ S₂ w₂ :=
  ⟨a.e.trans b.e, fun i hi => (b.pin i hi).trans (a.pin i hi)⟩

/-- A mark of a range over a function among the deferred calls. -/
def isMark (w : World) (d : Deferred) : Prop := ∃ D, d = { target := .collected D, args := #[] } ∧ w.heap[D]? = some (.deferred (some []))
def Df (w : World) (ds : List Deferred) : Prop := ds.Nodup ∧ ∀ d ∈ ds, isMark w d
/-- Marks that were, or that are new. -/
def Df2 (w : World) (ds : List Deferred) (w' : World) (ds' : List Deferred) : Prop := Df w' ds' ∧ ∀ d ∈ ds', d ∈ ds ∨ ∃ D, w.heap.size ≤ D ∧ d.target = .collected D
theorem Df2.refl {w : World} {ds : List Deferred} (h : Df w ds) : Df2 w ds w ds := ⟨h, fun _ h => .inl h⟩
theorem Df2.trans {w w₁ w₂ : World} {ds ds₁ ds₂ : List Deferred} (hs : w.heap.size ≤ w₁.heap.size) (a : Df2 w ds w₁ ds₁) (b : Df2 w₁ ds₁ w₂ ds₂) : Df2 w ds w₂ ds₂ :=
  ⟨b.1, fun d hd => by
    rcases b.2 d hd with h | ⟨D, h1, h2⟩
    · exact a.2 d h
    · exact .inr ⟨D, by omega, h2⟩⟩
theorem isMark.keep {g : Gh} {S : PS} {w : World} {g' : Gh} {S' : PS} {w' : World} {d : Deferred} (hI : InvW g S w) (hE : ExtW g S w g' S' w') (h : isMark w d) : isMark w' d := by
  obtain ⟨D, rfl, hD⟩ := h
  refine ⟨D, rfl, ?_⟩
  have hlt : D < w.heap.size := (Array.getElem?_eq_some_iff.1 hD).1
  rcases hE.keep D hlt with h | ⟨v, v', T, fr, fr', h1, _⟩ | h
  · rw [h]; exact hD
  · rw [hD] at h1; cases h1
  · rcases h 0 with ⟨id, h1, h2⟩ | ⟨k, lo, hi, h1, h2, h3, h4⟩ | hjn
    rotate_right
    · obtain ⟨m, hjn⟩ := Option.ne_none_iff_exists'.1 hjn
      obtain ⟨⟨vals, T, fr, q2, _⟩, _⟩ := hI.jnk D m hjn
      rw [hD] at q2; cases q2
    · cases hx : S.obj id with
      | none => exact absurd hx h1
      | some ps =>
        obtain ⟨b, q1, q2, _⟩ := hI.objs id ps hx
        rw [h2] at q1; cases q1
        rcases q2 with ⟨vals, T, fr, q2, _⟩ | ⟨es, ents, c, _, q2, _⟩ | q2
        · rw [hD] at q2; cases q2
        · rw [hD] at q2; cases q2
        · obtain ⟨m, s, c, a, q2⟩ := q2.some
          rw [hD] at q2; cases q2
    · obtain ⟨b, lo', hi', q1, q2⟩ := hI.toks k h1
      rw [h2] at q1; cases q1
      obtain ⟨⟨vals, T, fr, q3, _⟩, _⟩ := q2 h3
      rw [hD] at q3; cases q3
theorem Df.keep {g : Gh} {S : PS} {w : World} {g' : Gh} {S' : PS} {w' : World} {ds : List Deferred} (hI : InvW g S w) (hE : ExtW g S w g' S' w') (h : Df w ds) : Df2 w ds w' ds :=
  ⟨⟨h.1, fun d hd => (h.2 d hd).keep hI hE⟩, fun _ h => .inl h⟩

def cpost (m : Nat) (g : Gh) (S : PS) (w : World) (ds : List Deferred) (Q : Post) : Exit → Act → World → Prop :=
  fun e a' w' => ∃ g' S', Q e S' ∧ Inv g' S' a'.tmps w' ∧ Df2 w ds w' a'.defers ∧ (∀ j, S'.nxt ≤ j → Fresh g' j) ∧ ExtP m g S w g' S' w'

def PWP (P : Program) (m : Nat) (c : Code) (Q : Post) (S : PS) : Prop :=
  ∀ (g : Gh) (a : Act) (w : World), Inv g S a.tmps w → Df w a.defers → (∀ j, S.nxt ≤ j → Fresh g j) → (∀ i, i < m → g.blk i ≠ none) → c.wp P (cpost m g S w a.defers Q) a w

section
variable {P : Program} {m : Nat} {Q : Post} {S : PS}

theorem cpost_trans {g S w g₁ S₁ w₁} {ds ds₁ : List Deferred} (h : ExtP m g S w g₁ S₁ w₁) (hd : Df2 w ds w₁ ds₁) {Q : Post} {e a' w'} (x : cpost m g₁ S₁ w₁ ds₁ Q e a' w') : cpost m g S w ds Q e a' w' := by
  obtain ⟨g', S', h1, h2, h3, h4, h5⟩ := x
  exact ⟨g', S', h1, h2, hd.trans h.e.size h3, h4, h.trans h5⟩

theorem PWP.mono {c : Code} {Q' : Post} (h : PWP P m c Q S) (hq : ∀ e S', Q e S' → Q' e S') : PWP P m c Q' S :=
  fun g a w hI hd hF hp => wp_mono (h g a w hI hd hF hp) (fun e a' w' ⟨g', S', h1, h2⟩ => ⟨g', S', hq _ _ h1, h2⟩)

theorem PWP.skip (h : Q .normal S) : PWP P m .skip Q S := fun g a w hI hd hF _ => wp_skip ⟨g, S, h, hI, .refl hd, hF, ExtP.refl _ _ _ _⟩
theorem PWP.label {l} (h : Q .normal S) : PWP P m (.label l) Q S := fun g a w hI hd hF _ => wp_label ⟨g, S, h, hI, .refl hd, hF, ExtP.refl _ _ _ _⟩
theorem PWP.exit {i} (h : Q (.exit i) S) : PWP P m (.exit i) Q S := fun g a w hI hd hF _ => wp_exit ⟨g, S, h, hI, .refl hd, hF, ExtP.refl _ _ _ _⟩
theorem PWP.goto {l} (h : Q (.goto l) S) : PWP P m (.goto l) Q S := fun g a w hI hd hF _ => wp_goto ⟨g, S, h, hI, .refl hd, hF, ExtP.refl _ _ _ _⟩
theorem PWP.ret (h : Q .ret S) : PWP P m .ret Q S := fun g a w hI hd hF _ => wp_ret ⟨g, S, h, hI, .refl hd, hF, ExtP.refl _ _ _ _⟩

/-- Behind the first of two pieces of code. -/
def seqK (f : Post → PS → Prop) (Q : Post) : Post
  | .normal, S => f Q S
  | e, S => Q e S

theorem PWP.seq {x y : Code} (h : PWP P m x (seqK (PWP P m y) Q) S) : PWP P m (.seq x y) Q S := by
  intro g a w hI hd hF hp
  refine wp_seq (wp_mono (h g a w hI hd hF hp) ?_)
  rintro e a' w' ⟨g', S', h1, h2, h3, h4, h5⟩
  cases e with
  | normal => exact wp_mono (h1 g' a' w' h2 h3.1 h4 (fun i hi => by rw [h5.pin i hi]; exact hp i hi)) (fun e a₂ w₂ x => cpost_trans h5 h3 x)
  | _ => exact ⟨g', S', h1, h2, h3, h4, h5⟩

theorem PWP.cond {c : Operand} {x y : Code} {b : Bool} (hc : S.ev c = .bool b) (ht : b = true → PWP P m x Q S) (hf : b = false → PWP P m y Q S) : PWP P m (.cond c x y) Q S := by
  intro g a w hI hd hF hp
  have he : a.eval c = .bool b := by
    have := ev_rel (a := a) hI.w.gl hI.env c
    rw [hc] at this
    exact this.bool_inv
  cases b with
  | true => exact wp_cond he (ht rfl g a w hI hd hF hp)
  | false => exact wp_cond he (hf rfl g a w hI hd hF hp)

def blkK (i : Nat) (Q : Post) : Post
  | .exit j, S => if j = i then Q .normal S else Q (.exit j) S
  | e, S => Q e S

theorem PWP.block {i : Nat} {c : Code} (h : PWP P m c (blkK i Q) S) : PWP P m (.block i c) Q S := by
  intro g a w hI hd hF hp
  refine wp_block (wp_mono (h g a w hI hd hF hp) ?_)
  rintro e a' w' ⟨g', S', h1, h2⟩
  cases e with
  | exit j =>
    simp only [Exit.inBlock, blkK] at h1 ⊢
    split
    · rename_i e; rw [if_pos e] at h1; exact ⟨g', S', h1, h2⟩
    · rename_i e; rw [if_neg e] at h1; exact ⟨g', S', h1, h2⟩
  | _ => exact ⟨g', S', h1, h2⟩

/-- A state says less than another one. -/
def Wk (m : Nat) (S T : PS) : Prop :=
  ∀ (g : Gh) (tmps : Array Value) (w : World), Inv g S tmps w → (∀ j, S.nxt ≤ j → Fresh g j) → (∀ i, i < m → g.blk i ≠ none) → ∃ g', Inv g' T tmps w ∧ (∀ j, T.nxt ≤ j → Fresh g' j) ∧ ExtP m g S w g' T w

theorem Wk.refl (m S) : Wk m S S := fun g tmps w h hF _ => ⟨g, h, hF, ExtP.refl _ _ _ _⟩

theorem PWP.weak {c : Code} {T : PS} (hw : Wk m S T) (h : PWP P m c Q T) : PWP P m c Q S := by
  intro g a w hI hd hF hp
  obtain ⟨g', h1, h2, h3⟩ := hw g a.tmps w hI hF hp
  exact wp_mono (h g' a w h1 hd h2 (fun i hi => by rw [h3.pin i hi]; exact hp i hi)) (fun e a' w' x => cpost_trans h3 (.refl hd) x)

/-- Behind a loop's round. -/
def loopK (m : Nat) {α : Type} (I : α → PS) (μ : α → Nat) (a : α) (Q : Post) : Post
  | .normal, S' => ∃ a', μ a' < μ a ∧ Wk m S' (I a')
  | e, S' => Q e S'

/-- Behind a loop's round, by any order without endless descent. -/
def loopKW (m : Nat) {α : Type 1} (I : α → PS) (r : α → α → Prop) (a : α) (Q : Post) : Post
  | .normal, S' => ∃ a', r a' a ∧ Wk m S' (I a')
  | e, S' => Q e S'

theorem PWP.loopW {c : Code} {α : Type 1} (I : α → PS) (r : α → α → Prop) (hwf : WellFounded r) (a0 : α) (h0 : Wk m S (I a0)) (hr : ∀ a, PWP P m c (loopKW m I r a Q) (I a)) : PWP P m (.loop c) Q S := by
  intro g a w hI hd hF hp b k cs
  have key : ∀ (x : α), ∀ (g₁ : Gh) (a₁ : Act) (w₁ : World), Inv g₁ (I x) a₁.tmps w₁ → Df2 w a.defers w₁ a₁.defers → (∀ j, (I x).nxt ≤ j → Fresh g₁ j) → ExtP m g S w g₁ (I x) w₁ →
      ∃ e a' w', cpost m g S w a.defers Q e a' w' ∧ Arrives P (lone (b.at a₁ (.code c :: .inLoop c :: k)) cs w₁) b k cs e a' w' := by
    intro x
    induction x using hwf.induction with
    | _ x ih =>
      intro g₁ a₁ w₁ hI₁ hd₁ hF₁ hE₁
      obtain ⟨e, a₂, w₂, ⟨g₂, S₂, hq, hI₂, hd₂, hF₂, hE₂⟩, harr⟩ := hr x g₁ a₁ w₁ hI₁ hd₁.1 hF₁ (fun i hi => by rw [hE₁.pin i hi]; exact hp i hi) b (.inLoop c :: k) cs
      have hE := hE₁.trans hE₂
      have hd₂ := hd₁.trans hE₁.e.size hd₂
      cases e with
      | normal =>
        obtain ⟨x', hlt, hwk⟩ := hq
        obtain ⟨g₃, hI₃, hF₃, hE₃⟩ := hwk g₂ a₂.tmps w₂ hI₂ hF₂ (fun i hi => by rw [hE.pin i hi]; exact hp i hi)
        obtain ⟨e₂, a₃, w₃, hq₂, harr₂⟩ := ih x' hlt g₃ a₂ w₂ hI₃ hd₂ hF₃ (hE.trans hE₃)
        exact ⟨e₂, a₃, w₃, hq₂, .of_steps (Steps.trans harr (.one step_inLoop)) harr₂⟩
      | exit id => exact ⟨_, a₂, w₂, ⟨g₂, S₂, hq, hI₂, hd₂, hF₂, hE⟩, .pass (x := .inLoop c) rfl (fun _ _ => .inl (by simp)) harr⟩
      | goto l => exact ⟨_, a₂, w₂, ⟨g₂, S₂, hq, hI₂, hd₂, hF₂, hE⟩, .pass (x := .inLoop c) rfl (fun _ _ => .inl (by simp)) harr⟩
      | ret => exact ⟨_, a₂, w₂, ⟨g₂, S₂, hq, hI₂, hd₂, hF₂, hE⟩, .pass (x := .inLoop c) rfl (fun _ _ => .inl (by simp)) harr⟩
      | panic ch => exact ⟨_, a₂, w₂, ⟨g₂, S₂, hq, hI₂, hd₂, hF₂, hE⟩, .pass (x := .inLoop c) rfl (fun _ _ => .inl (by simp)) harr⟩
      | outgrown => exact ⟨_, a₂, w₂, ⟨g₂, S₂, hq, hI₂, hd₂, hF₂, hE⟩, .pass (x := .inLoop c) rfl (fun _ _ => .inl (by simp)) harr⟩
  obtain ⟨g', h1, h2, h3⟩ := h0 g a.tmps w hI hF hp
  obtain ⟨e, a', w', hq, harr⟩ := key a0 g' a w h1 (.refl hd) h2 h3
  exact ⟨e, a', w', hq, .of_steps (.one step_loop) harr⟩

theorem PWP.loop {c : Code} {α : Type} (I : α → PS) (μ : α → Nat) (a0 : α) (h0 : Wk m S (I a0)) (hr : ∀ a, PWP P m c (loopK m I μ a Q) (I a)) : PWP P m (.loop c) Q S := by
  refine PWP.loopW (α := ULift.{1, 0} α) (fun a => I a.down) (fun a b => μ a.down < μ b.down) (InvImage.wf (fun a : ULift.{1, 0} α => μ a.down) Nat.lt_wfRel.wf) ⟨a0⟩ h0 (fun a => (hr a.down).mono ?_)
  intro e S' h
  cases e with
  | normal => obtain ⟨a', h1, h2⟩ := h; exact ⟨⟨a'⟩, h1, h2⟩
  | _ => exact h

/-- Behind a region: its orders are looked at where it draws them. -/
def regDone (draw : Bool) (ops : Array Oper) (nid0 : Nat) (Q : Post) (S : PS) (trs : List Tr) : Prop :=
  (draw = true → (edgesBack ops.toList && drawOkB ops.toList (Region.before ops) trs) = true) ∧ Q .normal { S with nxt := nid0 + 4 * ops.toList.length }

theorem InvW.heap_eq {g : Gh} {S : PS} {w w' : World} (h : w'.heap = w.heap) (hI : InvW g S w) : InvW g S w' where
  gl := hI.gl
  hw := fun b o v e => (wcell_of_block (by rw [h]) o).trans (hI.hw b o v e)
  objs := fun id ps e => by obtain ⟨b, h1, h2, h3⟩ := hI.objs id ps e; exact ⟨b, h1, by rw [h]; exact h2, h3⟩
  inj := hI.inj
  toks := fun k e => by obtain ⟨b, lo, hi, h1, h2⟩ := hI.toks k e; exact ⟨b, lo, hi, h1, fun hl => ⟨by rw [h]; exact (h2 hl).1, (h2 hl).2⟩⟩
  tokd := hI.tokd
  jnk := fun b m e => by rw [h]; exact hI.jnk b m e
  tys := fun b T m e => by rw [h]; exact hI.tys b T m e

theorem PS.same_nxt (S : PS) (n : Nat) : S.same { S with nxt := n } := fun l => by cases l <;> rfl

theorem reg_ops {ops : Array Oper} {L : List Lk} {S' : PS} (hC : Chain P S.nxt ops.toList ops.toList 0 S L S')
    (h : regDone false ops S.nxt Q S' (L.map fun x => Tr.of x.δ)) (g : Gh) (a : Act) (w : World) (hI : Inv g S a.tmps w) (hd : Df w a.defers) (hF : ∀ j, S.nxt ≤ j → Fresh g j) (hp : ∀ i, i < m → g.blk i ≠ none) : wpOps P ops (cpost m g S w a.defers Q) (List.range ops.size) a w := by
  obtain ⟨hok, hQ⟩ := h
  have hpin : ∀ {g' S₂ w₂}, Ext g S w g' S₂ w₂ → ∀ i, i < m → g'.blk i = g.blk i := by
    intro g' S₂ w₂ hE i hi
    cases hb : g.blk i with
    | none => exact absurd hb (hp i hi)
    | some b => exact hE.le.blk i b hb
  have fin : ∀ (a' : Act) g' w', Inv g' S' a'.tmps w' → Ext g S w g' S' w' → (∀ j, S.nxt + 4 * ops.toList.length ≤ j → Fresh g' j) → a'.defers = a.defers → cpost m g S w a.defers Q .normal a' w' := by
    intro a' g' w' hI' hE hF' hd'
    have hd2 : Df2 w a.defers w' a'.defers := by rw [hd']; exact hd.keep hI.w hE.toW
    have hs := S'.same_nxt (S.nxt + 4 * ops.toList.length)
    exact ⟨g', _, hQ, ⟨InvW.same hs hI'.w, hI'.env, hI'.size⟩, hd2, hF', ⟨(Ext.same hE (fun _ => rfl) hs).toW, hpin hE⟩⟩
  have := run_order (P := P) (ops := ops) rfl (Q := cpost m g S w a.defers Q) hC ops.toList.length 0 (by omega) g a w (by rw [hC.link.1]; exact hI) (fun j hj => hF j (by omega))
    (fun a' g' w' h1 h2 h3 h4 => fin a' g' w' h1 (by rw [hC.link.1] at h2; exact h2) h3 h4)
  rw [List.range_eq_range']
  simpa using this
theorem reg_any {ops : Array Oper} {L : List Lk} {S' : PS} (hC : Chain P S.nxt ops.toList ops.toList 0 S L S')
    (h : regDone true ops S.nxt Q S' (L.map fun x => Tr.of x.δ)) (g : Gh) (a : Act) (w : World) (hI : Inv g S a.tmps w) (hd : Df w a.defers) (hF : ∀ j, S.nxt ≤ j → Fresh g j) (hp : ∀ i, i < m → g.blk i ≠ none) : wpAny P .any ops (cpost m g S w a.defers Q) ops.size (Array.replicate ops.size false) a { w with drawn := w.drawn + 1 } := by
  obtain ⟨hok, hQ⟩ := h
  have hpin : ∀ {g' S₂ w₂}, Ext g S w g' S₂ w₂ → ∀ i, i < m → g'.blk i = g.blk i := by
    intro g' S₂ w₂ hE i hi
    cases hb : g.blk i with
    | none => exact absurd hb (hp i hi)
    | some b => exact hE.le.blk i b hb
  have fin : ∀ (a' : Act) g' w', Inv g' S' a'.tmps w' → Ext g S w g' S' w' → (∀ j, S.nxt + 4 * ops.toList.length ≤ j → Fresh g' j) → a'.defers = a.defers → cpost m g S w a.defers Q .normal a' w' := by
    intro a' g' w' hI' hE hF' hd'
    have hd2 : Df2 w a.defers w' a'.defers := by rw [hd']; exact hd.keep hI.w hE.toW
    have hs := S'.same_nxt (S.nxt + 4 * ops.toList.length)
    exact ⟨g', _, hQ, ⟨InvW.same hs hI'.w, hI'.env, hI'.size⟩, hd2, hF', ⟨(Ext.same hE (fun _ => rfl) hs).toW, hpin hE⟩⟩
  have hok' := hok rfl
  rw [Bool.and_eq_true] at hok'
  have hsz : ops.size = ops.toList.length := by simp
  have hwI : Inv g S a.tmps { w with drawn := w.drawn + 1 } := ⟨InvW.heap_eq (w := w) rfl hI.w, hI.env, hI.size⟩
  have hrep : ∀ i, i < ops.toList.length → (Array.replicate ops.toList.length false).getD i true = false := by
    intro i hi
    rw [Array.getD_eq_getD_getElem?, Array.getElem?_replicate, if_pos hi]; rfl
  have hwE : Ext g S w g S { w with drawn := w.drawn + 1 } := ⟨Gh.le_refl _, fun _ _ _ h => .inl h, fun _ _ _ h => h, Nat.le_refl _, fun _ _ => .refl _ _, rfl, rfl, .dr1⟩
  rw [hsz]
  refine run_any (P := P) (nid0 := S.nxt) (ops := ops) rfl hC hok'.1 hok'.2 (g₀ := g) (w₀ := w) (df := a.defers) fin ops.toList.length (Array.replicate ops.toList.length false) S g a _ (by simp) ?_ ?_ ?_ hwI rfl ?_ ?_ hwE rfl
  · intro l
    refine .inr ⟨fun i hi he => ?_, ?_⟩
    · have := he.2; rw [hrep i hi] at this; cases this
    · show S.at' l = (stAt S' L 0).at' l; rw [hC.link.1]
  · intro i j hij hj hl
    rw [hrep j hj] at hl; cases hl
  · exact Nat.le_trans List.countP_le_length (by simp)
  · intro i hi _ j h1 _; exact hF j (by omega)
  · intro j hj; exact hF j (by omega)

theorem PWP.region_chain {id : Nat} {ops : Array Oper} {draw : Bool} (hm : P.follows .mixedOrders = true) {L : List Lk} {S' : PS} (hC : Chain P S.nxt ops.toList ops.toList 0 S L S')
    (h : regDone draw ops S.nxt Q S' (L.map fun x => Tr.of x.δ)) : PWP P m (.region id ops draw) Q S := by
  intro g a w hI hd hF hp
  cases draw with
  | false => exact wp_region (reg_ops hC h g a w hI hd hF hp)
  | true => exact wp_region_any hm (reg_any hC h g a w hI hd hF hp)

theorem PWP.region {id : Nat} {ops : Array Oper} {draw : Bool} (hm : P.follows .mixedOrders = true) (h : regE P S.nxt ops.toList ops.toList 0 S (regDone draw ops S.nxt Q) []) : PWP P m (.region id ops draw) Q S := by
  obtain ⟨L, S', hC, hK⟩ := regE_chain h
  rw [List.nil_append] at hK
  exact PWP.region_chain hm hC hK

/-- Code within which a label stands, that is never jumped back to. -/
def scK (Q : Post) : Post
  | .goto _, _ => False
  | e, S => Q e S

theorem PWP.scope {c : Code} (h : PWP P m c (scK Q) S) : PWP P m (.scope c) Q S := by
  intro g a w hI hd hF hp
  refine wp_scope_straight (wp_mono (h g a w hI hd hF hp) ?_)
  rintro e a' w' ⟨g', S', h1, h2⟩
  cases e with
  | goto l => exact h1.elim
  | _ => exact ⟨g', S', h1, h2⟩

/-! ### The code, reckoned -/
/-- A test. -/
def condE (P : Program) (m : Nat) (f g : Post → PS → Prop) (Q : Post) (S : PS) (p : PV) : Prop := ∃ b, p = .bool b ∧ (b = true → f Q S) ∧ (b = false → g Q S)
/-- A loop. -/
def loopE (P : Program) (m : Nat) (f : Post → PS → Prop) (Q : Post) (S : PS) : Prop :=
  ∃ (α : Type) (I : α → PS) (μ : α → Nat) (a0 : α), Wk m S (I a0) ∧ ∀ a, f (loopK m I μ a Q) (I a)

/-- Behind a round that is looked at by itself. -/
def unK (L : PS → Prop) (Q : Post) : Post
  | .normal, S => L S
  | e, S => Q e S
/-- A loop, its first n rounds looked at one by one. -/
def loopN (P : Program) (m : Nat) (f : Post → PS → Prop) (Q : Post) : Nat → PS → Prop
  | 0, S => loopE P m f Q S
  | n + 1, S => f (unK (loopN P m f Q n) Q) S

inductive LA (P : Program) (m : Nat) (f : Post → PS → Prop) (Q : Post) : Type 1
  | un (k : Nat) (T : PS) (h : loopN P m f Q (k + 1) T)
  | inv (β : Type) (I : β → PS) (μ : β → Nat) (hr : ∀ b, f (loopK m I μ b Q) (I b)) (b : β)
def LA.st {P : Program} {m : Nat} {f : Post → PS → Prop} {Q : Post} : LA P m f Q → PS
  | .un _ T _ => T
  | .inv _ I _ _ b => I b
def LA.rank {P : Program} {m : Nat} {f : Post → PS → Prop} {Q : Post} : LA P m f Q → Nat × Nat
  | .un k _ _ => (k + 1, 0)
  | .inv _ _ μ _ b => (0, μ b)
def LA.lt {P : Program} {m : Nat} {f : Post → PS → Prop} {Q : Post} (a b : LA P m f Q) : Prop := Prod.Lex (· < ·) (· < ·) a.rank b.rank
theorem LA.wf {P : Program} {m : Nat} {f : Post → PS → Prop} {Q : Post} : WellFounded (LA.lt (P := P) (m := m) (f := f) (Q := Q)) :=
  InvImage.wf LA.rank (Prod.lex (⟨(· < ·), Nat.lt_wfRel.wf⟩ : WellFoundedRelation Nat) (⟨(· < ·), Nat.lt_wfRel.wf⟩ : WellFoundedRelation Nat)).wf
theorem loopN_start {f : Post → PS → Prop} : ∀ {n : Nat} {S' : PS}, loopN P m f Q n S' → ∃ a : LA P m f Q, a.rank.1 = n ∧ Wk m S' a.st
  | 0, S', h => by
    obtain ⟨β, I, μ, b, h1, h2⟩ := h
    exact ⟨.inv β I μ h2 b, rfl, h1⟩
  | n + 1, S', h => ⟨.un n S' h, rfl, Wk.refl _ _⟩
theorem PWP.loopN {c : Code} {f : Post → PS → Prop} (hf : ∀ {Q S}, f Q S → PWP P m c Q S) {n : Nat} (h : Pv.loopN P m f Q n S) : PWP P m (.loop c) Q S := by
  obtain ⟨a0, _, h0⟩ := loopN_start h
  refine PWP.loopW (α := LA P m f Q) LA.st LA.lt LA.wf a0 h0 ?_
  intro a
  cases a with
  | un k T h =>
    refine (hf (show f (unK (Pv.loopN P m f Q k) Q) T from h)).mono ?_
    intro e S' he
    cases e with
    | normal =>
      obtain ⟨a', h1, h2⟩ := loopN_start he
      refine ⟨a', ?_, h2⟩
      have hl : a'.rank.1 < k + 1 := by rw [h1]; exact Nat.lt_succ_self k
      exact Prod.lex_def.2 (.inl hl)
    | _ => exact he
  | inv β I μ hr b =>
    refine (hf (hr b)).mono ?_
    intro e S' he
    cases e with
    | normal =>
      obtain ⟨b', h1, h2⟩ := he
      exact ⟨.inv β I μ hr b', Prod.lex_def.2 (.inr ⟨rfl, h1⟩), h2⟩
    | _ => exact he

theorem InvW.of_eq {g : Gh} {S T : PS} {w : World} (ho : ∀ i, S.obj i = T.obj i) (hl : ∀ k, S.lv k = T.lv k) (hI : InvW g S w) : InvW g T w where
  gl := hI.gl
  hw := hI.hw
  objs := fun id ps hp => hI.objs id ps (by rw [ho]; exact hp)
  inj := fun id id' b h1 h2 => hI.inj id id' b (by rw [ho]; exact h1) (by rw [ho]; exact h2)
  toks := fun k hk => by
    obtain ⟨b, lo, hi, h1, h2⟩ := hI.toks k (by rw [hl]; exact hk)
    exact ⟨b, lo, hi, h1, fun hl' => ⟨(h2 hl').1, (h2 hl').2.1, fun id hid => (h2 hl').2.2 id (by rw [ho]; exact hid)⟩⟩
  jnk := hI.jnk_of (fun _ _ h => h) (fun _ _ _ => rfl) (fun c m o h => (hI.jnk c m h).2.1 o) (fun id c m _ hid hb => ⟨by rw [ho]; exact hid, hb⟩) (fun k c m lo hi _ hk ht _ => ⟨by rw [hl]; exact hk, ht⟩)
  tys := hI.tys
  tokd := fun k k' b lo hi lo' hi' h1 h2 => hI.tokd k k' b lo hi lo' hi' (by rw [hl]; exact h1) (by rw [hl]; exact h2)
theorem Own.of_eq {g : Gh} {S T : PS} (ho : ∀ i, S.obj i = T.obj i) (hl : ∀ k, S.lv k = T.lv k) {b o : Nat} (x : Own g S b o) : Own g T b o := by
  rcases x with ⟨id, h1, h2⟩ | ⟨k, lo, hi, h1, h2⟩ | hj
  · exact .inl ⟨id, by rw [← ho]; exact h1, h2⟩
  · exact .inr (.inl ⟨k, lo, hi, by rw [← hl]; exact h1, h2⟩)
  · exact .inr (.inr hj)

/-! A region that asks what comes next of a range. -/
def isNx : List Oper → Bool
  | o :: _ => match o.op with | .next _ false => true | _ => false
  | [] => false
def nextE (S : PS) (td te id : Nat) (es : List (PV × PV)) (Q : Post) : Prop :=
  (es = [] → Q .normal { S with env := (te, .bool false) :: (td, .tup [.bool false]) :: S.env, nxt := S.nxt + 8 }) ∧
  ∀ k v rest, es.Perm ((k, v) :: rest) → Q .normal { S with env := (te, .bool true) :: (td, .tup [.bool true, k, v]) :: S.env, objs := (id, some [.tup [k, v], .mobj rest]) :: S.objs, nxt := S.nxt + 8 }
def nextO (S : PS) (td te : Nat) (Q : Post) (p : PV) : Prop :=
  match p with
  | .iref id => match S.obj id with | some [_, .mobj es] => nextE S td te id es Q | _ => False
  | _ => False
def nextR (ops : List Oper) (d : Bool) (Q : Post) (S : PS) : Prop :=
  match ops with
  | [⟨some td, .next it false, _, _, _, none⟩, ⟨some te, .extract (.tmp t) 0, _, _, _, none⟩] => (t = td ∧ td ≠ te ∧ td < S.n ∧ te < S.n ∧ d = false) ∧ nextO S td te Q (S.ev it)
  | _ => False
def regV (P : Program) (ops : List Oper) (d : Bool) (Q : Post) (S : PS) (R : Prop) : Prop :=
  match isNx ops with
  | true => nextR ops d Q S
  | false => R

theorem PWP.nextR {id : Nat} {ops : Array Oper} {d : Bool} (h : Pv.nextR ops.toList d Q S) : PWP P m (.region id ops d) Q S := by
  unfold Pv.nextR at h
  split at h
  rotate_left
  · exact h.elim
  rename_i td it ty1 ps1 af1 te t ty2 ps2 af2 hops
  obtain ⟨⟨rfl, hne, htd, hte, rfl⟩, h⟩ := h
  have hops' : ops = #[⟨some t, .next it false, ty1, ps1, af1, none⟩, ⟨some te, .extract (.tmp t) 0, ty2, ps2, af2, none⟩] := Array.ext' hops
  subst hops'
  unfold nextO at h
  split at h
  rotate_left
  · exact h.elim
  rename_i i hit
  split at h
  rotate_left
  · exact h.elim
  rename_i p0 es hob
  intro g a w hI hd hF hp
  have e0 := ev_rel hI.w.gl hI.env it
  rw [hit] at e0
  obtain ⟨b, hb, hv⟩ := e0.iref_inv
  refine wp_region ?_
  have hlt : t < a.tmps.size := Nat.lt_of_lt_of_le htd hI.size
  have hlt2 : te < a.tmps.size := Nat.lt_of_lt_of_le hte hI.size
  -- what is left to say, whatever came
  have fin : ∀ (vs : Array Value) (qs : List PV) (bb : Bool) (w' : World) (S1 : PS), (Instr.next (.pointer (some ⟨b, 0, none⟩)) false ty1).run P w = .ok (.tuple vs) w' → vs[0]? = some (.bool bb) → Rel g (.tuple vs) (.tup qs) →
      S1.n = S.n → S1.env = S.env → InvW g S1 w' → Ext g S w g S1 w' → Q .normal { S1 with env := (te, .bool bb) :: (t, .tup qs) :: S.env, nxt := S.nxt + 8 } →
      wpOps P #[⟨some t, .next it false, ty1, ps1, af1, none⟩, ⟨some te, .extract (.tmp t) 0, ty2, ps2, af2, none⟩] (cpost m g S w a.defers Q) (List.range 2) a w := by
    intro vs qs bb w' S1 hrun hv0 hrel hn henv hIw hE hQ
    have h0 : (execOp a.eval ⟨some t, .next it false, ty1, ps1, af1, none⟩).run P w = .ok (.value (.tuple vs)) w' := by
      simp only [execOp, hv]
      simp [hrun]
    have hget : ((a.put (some t) (.tuple vs)).tmps.getD t undef) = .tuple vs := by simp [Act.put, hlt]
    have h1 : (execOp (a.put (some t) (.tuple vs)).eval ⟨some te, .extract (.tmp t) 0, ty2, ps2, af2, none⟩).run P w' = .ok (.value (.bool bb)) w' := by
      have he : (a.put (some t) (.tuple vs)).eval (.tmp t) = .tuple vs := hget
      simp only [execOp, he]
      simp [Instr.extract, hv0]
    rw [show List.range 2 = [0, 1] from rfl, wpOps_cons]
    unfold wpOp
    simp only [List.getElem?_toArray, List.getElem?_cons_zero]
    rw [if_pos (by simp [Region.wanted])]
    refine .inl ?_
    unfold Oper.wp
    rw [h0, Oper.upon_value, wpOps_cons]
    unfold wpOp
    simp only [List.getElem?_toArray, List.getElem?_cons_zero, List.getElem?_cons_succ]
    rw [if_pos (by simp [Region.wanted])]
    refine .inl ?_
    unfold Oper.wp
    rw [h1, Oper.upon_value]
    simp only [wpOps]
    have hE2 : Ext g S w g { S1 with env := (te, .bool bb) :: (t, .tup qs) :: S.env, nxt := S.nxt + 8 } w' := { hE with own := fun b o hb ho => hE.own b o hb (Own.of_eq (T := S1) (fun _ => rfl) (fun _ => rfl) ho) }
    refine ⟨g, _, hQ, ⟨InvW.of_eq (S := S1) (fun _ => rfl) (fun _ => rfl) hIw, fun u => ?_, ?_⟩, ?_, fun j hj => hF j (by have : S.nxt + 8 ≤ j := hj; omega), ⟨hE2.toW, fun _ _ => rfl⟩⟩
    · show Rel g _ (lkp .any ((te, .bool bb) :: (t, .tup qs) :: S.env) u)
      simp only [lkp_cons]
      by_cases e1 : te = u
      · subst e1
        rw [if_pos rfl]
        have : ((a.put (some t) (.tuple vs)).put (some te) (.bool bb)).tmps.getD te undef = .bool bb := by simp [Act.put, hlt2]
        rw [this]; exact .pure _ _ (.bool _)
      · rw [if_neg e1]
        have h2 : ((a.put (some t) (.tuple vs)).put (some te) (.bool bb)).tmps.getD u undef = (a.put (some t) (.tuple vs)).tmps.getD u undef := by
          simp [Act.put, Array.getElem?_setIfInBounds_ne e1]
        rw [h2]
        by_cases e2 : t = u
        · subst e2; rw [if_pos rfl, hget]; exact hrel
        · rw [if_neg e2]
          have h3 : (a.put (some t) (.tuple vs)).tmps.getD u undef = a.tmps.getD u undef := by simp [Act.put, Array.getElem?_setIfInBounds_ne e2]
          rw [h3]; exact hI.env u
    · show S1.n ≤ _
      rw [hn, put_size, put_size]; exact hI.size
    · rw [put_defers, put_defers]; exact hd.keep hI.w hE.toW
  rcases next_step hI.w hob hb ty1 with ⟨rfl, hrun⟩ | ⟨k, v, rest, kv, vv, w', hperm, hrun, hk, hvv, hst⟩
  · refine fin #[.bool false] [.bool false] false w S hrun rfl (.tup _ _ rfl fun i u p hu hp => ?_) rfl rfl hI.w (Ext.refl _ _ _) (h.1 rfl)
    match i, hu, hp with
    | 0, hu, hp => cases hu; cases hp; exact .pure _ _ (.bool _)
    | i + 1, hu, hp => simp at hp
  · obtain ⟨hI1, hE1⟩ := hst { p := .any, wr := [(i, some [.tup [k, v], .mobj rest])], ok := True } rfl rfl
    refine fin #[.bool true, kv, vv] [.bool true, k, v] true w' (S.app { p := .any, wr := [(i, some [.tup [k, v], .mobj rest])], ok := True }) hrun rfl (.tup _ _ rfl fun i u p hu hp => ?_) rfl rfl hI1 hE1 (h.2 k v rest hperm)
    match i, hu, hp with
    | 0, hu, hp => cases hu; cases hp; exact .pure _ _ (.bool _)
    | 1, hu, hp => cases hu; cases hp; exact .pure _ _ hk
    | 2, hu, hp => cases hu; cases hp; exact .pure _ _ hvv
    | i + 3, hu, hp => simp at hp

def VC (P : Program) (m : Nat) : Code → Post → PS → Prop
  | .skip, Q, S => Q .normal S
  | .label _, Q, S => Q .normal S
  | .exit i, Q, S => Q (.exit i) S
  | .goto l, Q, S => Q (.goto l) S
  | .ret, Q, S => Q .ret S
  | .seq x y, Q, S => VC P m x (seqK (VC P m y) Q) S
  | .cond c x y, Q, S => condE P m (VC P m x) (VC P m y) Q S (S.ev c)
  | .block i x, Q, S => VC P m x (blkK i Q) S
  | .loop x, Q, S => ∃ n, loopN P m (VC P m x) Q n S
  | .region _ ops d, Q, S => regV P ops.toList d Q S (regE P S.nxt ops.toList ops.toList 0 S (regDone d ops S.nxt Q) [])
  | .scope x, Q, S => VC P m x (scK Q) S
  | c, Q, S => PWP P m c Q S

theorem VC_sound (hm : P.follows .mixedOrders = true) : ∀ {c : Code} {Q : Post} {S : PS}, VC P m c Q S → PWP P m c Q S
  | .skip, _, _, h => PWP.skip h
  | .label _, _, _, h => PWP.label h
  | .exit _, _, _, h => PWP.exit h
  | .goto _, _, _, h => PWP.goto h
  | .ret, _, _, h => PWP.ret h
  | .seq x y, Q, S, h => by
    refine PWP.seq ((VC_sound hm (c := x) h).mono ?_)
    intro e S' he
    cases e with
    | normal => exact VC_sound hm (c := y) he
    | _ => exact he
  | .cond c x y, Q, S, h => by
    obtain ⟨b, h1, h2, h3⟩ := h
    exact PWP.cond h1 (fun e => VC_sound hm (h2 e)) (fun e => VC_sound hm (h3 e))
  | .block i x, Q, S, h => PWP.block (VC_sound hm (c := x) h)
  | .loop x, Q, S, h => by
    obtain ⟨n, h⟩ := h
    exact PWP.loopN (fun h => VC_sound hm (c := x) h) h
  | .region _ ops d, Q, S, h => by
    have h : regV P ops.toList d Q S (regE P S.nxt ops.toList ops.toList 0 S (regDone d ops S.nxt Q) []) := h
    unfold regV at h
    split at h
    · exact PWP.nextR h
    · exact PWP.region hm h
  | .scope x, Q, S, h => PWP.scope (VC_sound hm (c := x) h)
  | .rangeFunc .., _, _, h => h
  | .refuse _, _, _, h => h

end
end Go.Pv
