/- Abstract values: a region's operations, in whatever order its edges allow. Nothing of any program. -/
import Derived.Test.YtbjeagcnakdmnaaPvJ
import Derived.Orders
set_option linter.unusedSimpArgs false
set_option linter.unusedVariables false
set_option linter.unusedSectionVars false
namespace Go.Pv
variable [GTab]

/-! ### A graph of assignments, run in any order that its edges allow -/
section graph
variable {L V : Type} (n : Nat) (W : Nat → L → Option V) (R : Nat → L → Prop) (ord : Nat → Nat → Prop) (X : Nat → L → V)

/-- The state behind the set E: of each place what its last writer of E has written. -/
def Behind (E : Nat → Prop) (Y : L → V) : Prop :=
  ∀ l, (∃ i v, i < n ∧ E i ∧ W i l = some v ∧ (∀ j, j < n → E j → i < j → W j l = none) ∧ Y l = v) ∨ ((∀ i, i < n → E i → W i l = none) ∧ Y l = X 0 l)

variable {n W R ord X}
theorem last_writer (hX : ∀ i, i < n → ∀ l, X (i + 1) l = (W i l).getD (X i l)) (l : L) : ∀ m, m ≤ n →
    (∃ i v, i < m ∧ W i l = some v ∧ (∀ j, j < m → i < j → W j l = none) ∧ X m l = v) ∨ ((∀ i, i < m → W i l = none) ∧ X m l = X 0 l)
  | 0, _ => .inr ⟨fun i hi => by omega, rfl⟩
  | m + 1, hm => by
    have hs := hX m (by omega) l
    cases hw : W m l with
    | some v => exact .inl ⟨m, v, by omega, hw, fun j h1 h2 => by omega, by rw [hs, hw]; rfl⟩
    | none =>
      rw [hw] at hs
      rcases last_writer hX l m (by omega) with ⟨i, v, h1, h2, h3, h4⟩ | ⟨h1, h2⟩
      · refine .inl ⟨i, v, by omega, h2, fun j h5 h6 => ?_, by rw [hs]; exact h4⟩
        by_cases e : j = m
        · subst e; exact hw
        · exact h3 j (by omega) h6
      · refine .inr ⟨fun i hi => ?_, by rw [hs]; exact h2⟩
        by_cases e : i = m
        · subst e; exact hw
        · exact h1 i (by omega)

theorem behind_reads (hX : ∀ i, i < n → ∀ l, X (i + 1) l = (W i l).getD (X i l)) (hord : ∀ i j, ord i j → i < j)
    (hind : ∀ i j, i < n → j < n → i ≠ j → ¬ ord i j → ¬ ord j i → ∀ l, R i l → W j l = none)
    {E : Nat → Prop} {Y : L → V} (hY : Behind n W X E Y) (hdown : ∀ i j, ord i j → E j → E i) {i : Nat} (hi : i < n) (hni : ¬ E i) (hp : ∀ j, ord j i → E j) {l : L} (hl : R i l) : Y l = X i l := by
  have key : ∀ j, j < n → W j l ≠ none → j ≠ i → (E j ↔ j < i) := by
    intro j hj hw hne
    by_cases h1 : ord j i
    · exact ⟨fun _ => hord _ _ h1, fun _ => hp j h1⟩
    · by_cases h2 : ord i j
      · exact ⟨fun he => absurd (hdown i j h2 he) hni, fun h => by have := hord _ _ h2; omega⟩
      · exact absurd (hind i j hi hj (Ne.symm hne) h2 h1 l hl) hw
  rcases hY l with ⟨j, v, h1, h2, h3, h4, h5⟩ | ⟨h1, h2⟩
  · have hji : j ≠ i := fun e => hni (e ▸ h2)
    have hlt := (key j h1 (by rw [h3]; simp) hji).1 h2
    rcases last_writer hX l i (by omega) with ⟨j', v', g1, g2, g3, g4⟩ | ⟨g1, g2⟩
    · have hej : E j' := (key j' (by omega) (by rw [g2]; simp) (by omega)).2 g1
      have : j = j' := by
        rcases Nat.lt_trichotomy j j' with h | h | h
        · have := h4 j' (by omega) hej h; rw [g2] at this; cases this
        · exact h
        · have := g3 j hlt h; rw [h3] at this; cases this
      subst this
      rw [g2] at h3; cases h3
      rw [h5, g4]
    · have := g1 j hlt; rw [h3] at this; cases this
  · rcases last_writer hX l i (by omega) with ⟨j', v', g1, g2, g3, g4⟩ | ⟨g1, g2⟩
    · have hej : E j' := (key j' (by omega) (by rw [g2]; simp) (by omega)).2 g1
      have := h1 j' (by omega) hej; rw [g2] at this; cases this
    · rw [h2, g2]

theorem behind_step (hX : ∀ i, i < n → ∀ l, X (i + 1) l = (W i l).getD (X i l)) (hord : ∀ i j, ord i j → i < j)
    (hww : ∀ i j, i < n → j < n → i ≠ j → ¬ ord i j → ¬ ord j i → ∀ l, W i l ≠ none → W j l = none)
    {E : Nat → Prop} {Y : L → V} (hY : Behind n W X E Y) (hdown : ∀ i j, ord i j → E j → E i) {i : Nat} (hi : i < n) (hni : ¬ E i) {Y' : L → V} (hY' : ∀ l, Y' l = (W i l).getD (Y l)) :
    Behind n W X (fun j => j = i ∨ E j) Y' := by
  intro l
  cases hw : W i l with
  | some v =>
    refine .inl ⟨i, v, hi, .inl rfl, hw, fun j hj he hlt => ?_, by rw [hY', hw]; rfl⟩
    rcases he with e | he
    · omega
    · by_cases h1 : ord i j
      · exact absurd (hdown i j h1 he) hni
      · exact hww i j hi hj (by omega) h1 (fun h => by have := hord _ _ h; omega) l (by rw [hw]; simp)
  | none =>
    have hs : Y' l = Y l := by rw [hY', hw]; rfl
    rcases hY l with ⟨j, v, h1, h2, h3, h4, h5⟩ | ⟨h1, h2⟩
    · refine .inl ⟨j, v, h1, .inr h2, h3, fun k hk he hlt => ?_, hs.trans h5⟩
      rcases he with e | he
      · subst e; exact hw
      · exact h4 k hk he hlt
    · refine .inr ⟨fun k hk he => ?_, hs.trans h2⟩
      rcases he with e | he
      · subst e; exact hw
      · exact h1 k hk he

theorem behind_all (hX : ∀ i, i < n → ∀ l, X (i + 1) l = (W i l).getD (X i l)) {E : Nat → Prop} {Y : L → V} (hY : Behind n W X E Y) (hE : ∀ i, i < n → E i) (l : L) : Y l = X n l := by
  rcases hY l with ⟨j, v, h1, h2, h3, h4, h5⟩ | ⟨h1, h2⟩
  · rcases last_writer hX l n (Nat.le_refl _) with ⟨j', v', g1, g2, g3, g4⟩ | ⟨g1, g2⟩
    · have : j = j' := by
        rcases Nat.lt_trichotomy j j' with h | h | h
        · have := h4 j' g1 (hE _ g1) h; rw [g2] at this; cases this
        · exact h
        · have := g3 j h1 h; rw [h3] at this; cases this
      subst this
      rw [g2] at h3; cases h3
      rw [h5, g4]
    · have := g1 j h1; rw [h3] at this; cases this
  · rcases last_writer hX l n (Nat.le_refl _) with ⟨j', v', g1, g2, g3, g4⟩ | ⟨g1, g2⟩
    · have := h1 j' g1 (hE _ g1); rw [g2] at this; cases this
    · rw [h2, g2]

end graph

/-! ### Places and what they hold -/
inductive Loc where
  | t (i : Nat)
  | b (i : Nat)
  | k (i : Nat)
  deriving DecidableEq
inductive SV where
  | pv (p : PV)
  | ob (o : Option (List PV))
  | lv (b : Bool)

def PS.at' (S : PS) : Loc → SV
  | .t i => .pv (S.get i)
  | .b i => .ob (S.obj i)
  | .k i => .lv (S.lv i)

def lko {α : Type} : List (Nat × α) → Nat → Option α
  | [], _ => none
  | (k, x) :: l, t => if k = t then some x else lko l t

theorem lkp_append {α : Type} (d : α) : ∀ (l m : List (Nat × α)) (t : Nat), lkp d (l ++ m) t = (lko l t).getD (lkp d m t)
  | [], m, t => rfl
  | (k, x) :: l, m, t => by
    simp only [List.cons_append, lkp, lko]
    split
    · rfl
    · exact lkp_append d l m t

/-- What stands in an operation's slot behind it. -/
def dstPV (o : Oper) (c : Bool) (p : PV) : PV :=
  match o.guard with
  | none => p
  | some _ => .given c p

def PS.put (S : PS) (o : Oper) (c : Bool) (δ : Dl) : PS :=
  match o.dst with
  | some d => { S.app δ with env := (d, dstPV o c δ.p) :: S.env }
  | none => S.app δ

def Wr (o : Oper) (c : Bool) (δ : Dl) : Loc → Option SV
  | .t i => if o.dst = some i then some (.pv (dstPV o c δ.p)) else none
  | .b i => (lko δ.wr i).map .ob
  | .k i => (lko δ.tk i).map .lv

theorem PS.put_at (S : PS) (o : Oper) (c : Bool) (δ : Dl) (l : Loc) : (S.put o c δ).at' l = (Wr o c δ l).getD (S.at' l) := by
  cases l with
  | t i =>
    cases hd : o.dst with
    | none => simp [PS.put, hd, PS.at', Wr, PS.get, PS.app]
    | some d =>
      simp only [PS.put, hd, PS.at', Wr, PS.get, lkp, Option.some.injEq]
      by_cases e : d = i
      · simp [e]
      · simp [e]
  | b i =>
    have : (S.put o c δ).obj i = lkp none (δ.wr ++ S.objs) i := by cases hd : o.dst <;> simp [PS.put, hd, PS.obj, PS.app]
    show SV.ob ((S.put o c δ).obj i) = ((lko δ.wr i).map SV.ob).getD (SV.ob (S.obj i))
    rw [this, lkp_append]
    cases lko δ.wr i <;> rfl
  | k i =>
    have : (S.put o c δ).lv i = lkp false (δ.tk ++ S.live) i := by cases hd : o.dst <;> simp [PS.put, hd, PS.lv, PS.app]
    show SV.lv ((S.put o c δ).lv i) = ((lko δ.tk i).map SV.lv).getD (SV.lv (S.lv i))
    rw [this, lkp_append]
    cases lko δ.tk i <;> rfl

/-- Two states that hold the same. -/
def PS.same (S T : PS) : Prop := ∀ l, S.at' l = T.at' l
theorem PS.same.get {S T : PS} (h : S.same T) (i : Nat) : S.get i = T.get i := by have := h (.t i); simpa [PS.at'] using this
theorem PS.same.obj {S T : PS} (h : S.same T) (i : Nat) : S.obj i = T.obj i := by have := h (.b i); simpa [PS.at'] using this
theorem PS.same.lv {S T : PS} (h : S.same T) (i : Nat) : S.lv i = T.lv i := by have := h (.k i); simpa [PS.at'] using this

theorem Own.same {g : Gh} {S T : PS} (h : S.same T) {b o : Nat} (x : Own g S b o) : Own g T b o := by
  rcases x with ⟨id, h1, h2⟩ | ⟨k, lo, hi, h1, h2⟩ | hj
  · exact .inl ⟨id, by rw [← h.obj]; exact h1, h2⟩
  · exact .inr (.inl ⟨k, lo, hi, by rw [← h.lv]; exact h1, h2⟩)
  · exact .inr (.inr hj)
theorem InvW.same {g : Gh} {S T : PS} {w : World} (h : S.same T) (hI : InvW g S w) : InvW g T w where
  gl := hI.gl
  hw := hI.hw
  objs := fun id ps hp => hI.objs id ps (by rw [h.obj]; exact hp)
  inj := fun id id' b h1 h2 => hI.inj id id' b (by rw [h.obj]; exact h1) (by rw [h.obj]; exact h2)
  toks := fun k hk => by
    obtain ⟨b, lo, hi, h1, h2⟩ := hI.toks k (by rw [h.lv]; exact hk)
    exact ⟨b, lo, hi, h1, fun hl => ⟨(h2 hl).1, (h2 hl).2.1, fun id hid => (h2 hl).2.2 id (by rw [h.obj]; exact hid)⟩⟩
  jnk := hI.jnk_of (fun _ _ h => h) (fun _ _ _ => rfl) (fun c m o h => (hI.jnk c m h).2.1 o) (fun id c m _ hid hb => ⟨by rw [h.obj]; exact hid, hb⟩) (fun k c m lo hi _ hk ht _ => ⟨by rw [h.lv]; exact hk, ht⟩)
  tys := hI.tys
  tokd := fun k k' b lo hi lo' hi' h1 h2 => hI.tokd k k' b lo hi lo' hi' (by rw [h.lv]; exact h1) (by rw [h.lv]; exact h2)
theorem PS.same.symm {S T : PS} (h : S.same T) : T.same S := fun l => (h l).symm
theorem Ext.same {g S w g' S' w' S₁ S₁'} (h : Ext g S w g' S' w') (a : S.same S₁) (b : S'.same S₁') : Ext g S₁ w g' S₁' w' where
  le := h.le
  new := fun x y v e => (h.new x y v e).imp id (Or.imp id (Own.same a))
  own := fun x y hb e => Own.same a (h.own x y hb (Own.same b.symm e))
  size := h.size
  keep := fun x hx => (h.keep x hx).mono fun o e => Own.same a e
  os := h.os
  tape := h.tape
  output := h.output

end Go.Pv
