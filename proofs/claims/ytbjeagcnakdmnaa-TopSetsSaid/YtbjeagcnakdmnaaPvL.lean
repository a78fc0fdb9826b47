/- Abstract values: a region, in whatever order its edges allow. Nothing of any program. -/
import Derived.Test.YtbjeagcnakdmnaaPvK
set_option linter.unusedSimpArgs false
set_option linter.unusedVariables false
set_option linter.unusedSectionVars false
namespace Go.Pv
variable [GTab]

/-- The operation's triple, its operands as the state has them. -/
def LTripR (P : Program) (nid : Nat) (o : Oper) (S : PS) (δ : Dl) : Prop := LTrip P nid o S.ev S δ

/-- Whether a guarded operation runs. -/
def gcond (full : List Oper) (S : PS) (o : Oper) : Option Bool :=
  match o.guard with
  | none => some true
  | some (j, b) =>
    match (full[j]?).bind (·.dst) with
    | some d =>
      match S.get d with
      | .bool x => some (x == b)
      | .given c (.bool x) => some (c && (x == b))
      | _ => none
    | none => none

structure Lk where
  S : PS
  c : Bool
  δ : Dl

inductive Chain (P : Program) (nid0 : Nat) (full : List Oper) : List Oper → Nat → PS → List Lk → PS → Prop
  | nil (i S) : Chain P nid0 full [] i S [] S
  | cons (o os i S c δ L S') (hg : gcond full S o = some c) (ht : c = true → LTripR P (nid0 + 4 * i) o S δ) (hr : c = false → δ.wr = [] ∧ δ.tk = []) (hd : ∀ d, o.dst = some d → d < S.n)
      (h : Chain P nid0 full os (i + 1) (S.put o c δ) L S') : Chain P nid0 full (o :: os) i S (⟨S, c, δ⟩ :: L) S'

structure Inv (g : Gh) (S : PS) (tmps : Array Value) (w : World) : Prop where
  w : InvW g S w
  env : ∀ t, Rel g (tmps.getD t undef) (S.get t)
  size : S.n ≤ tmps.size

theorem ev_rel {g : Gh} {S : PS} {a : Act} (hg : ∀ k ps, gat GTab.tab k = some ps → PRel g.h (.pointer (some ⟨k, 0, none⟩)) (.loc ps)) (h : ∀ t, Rel g (a.tmps.getD t undef) (S.get t)) (x : Operand) : Rel g (a.eval x) (S.ev x) := by
  cases x with
  | tmp t => exact h t
  | const v => exact .pure _ _ (ofC_rel g.h v)
  | global i =>
    show Rel g _ (match gat GTab.tab i with | some ps => .loc ps | none => .any)
    cases h : gat GTab.tab i with
    | none => exact .pure _ _ (.any _)
    | some ps => exact .pure _ _ (hg i ps h)
  | func f => exact .fn f #[] [] rfl (fun i v p hv _ => by simp at hv)

def readsOf (full : List Oper) (o : Oper) : List Nat :=
  (o.op.operands.toList.filterMap fun | .tmp t => some t | _ => none) ++ (match o.guard with | some (j, _) => ((full[j]?).bind (·.dst)).toList | none => [])

/-- What an operation looks at and writes: boxes, tokens. -/
structure Tr where
  wb : List Nat
  wk : List Nat
  rb : List Nat
  rk : List Nat
  deriving DecidableEq
def Tr.of (δ : Dl) : Tr := ⟨δ.wr.map (·.1), δ.tk.map (·.1), δ.rdB, δ.rdT⟩

def disj (a b : List Nat) : Bool := a.all fun x => !b.contains x

def indepB (full : List Oper) (o p : Oper) (x y : Tr) : Bool :=
  disj o.dst.toList (readsOf full p) && disj p.dst.toList (readsOf full o) && disj o.dst.toList p.dst.toList &&
  disj x.wb (y.rb ++ y.wb) && disj y.wb x.rb && disj x.wk (y.rk ++ y.wk) && disj y.wk x.rk

def drawOkB (full : List Oper) (bef : Array Nat) (trs : List Tr) : Bool :=
  (List.range full.length).all fun j => (List.range j).all fun i =>
    (bef.getD j 0).testBit i ||
      match full[i]?, full[j]?, trs[i]?, trs[j]? with
      | some o, some p, some x, some y => indepB full o p x y
      | _, _, _, _ => false

theorem disj_spec {a b : List Nat} (h : disj a b = true) {x : Nat} (ha : x ∈ a) (hb : x ∈ b) : False := by
  have := List.all_eq_true.1 h x ha
  simp [hb] at this

theorem lko_key {α : Type} : ∀ {l : List (Nat × α)} {t : Nat}, lko l t ≠ none → t ∈ l.map (·.1)
  | [], t, h => absurd rfl h
  | (k, x) :: l, t, h => by
    simp only [lko] at h
    split at h
    · rename_i e; subst e; simp
    · exact List.mem_cons_of_mem _ (lko_key h)

/-- The places that an operation looks at. -/
def Rd (full : List Oper) (o : Oper) (δ : Dl) : Loc → Prop
  | .t i => i ∈ readsOf full o
  | .b i => i ∈ δ.rdB
  | .k i => i ∈ δ.rdT

theorem indep_rw {full : List Oper} {o p : Oper} {δ ε : Dl} {c d : Bool} (h : indepB full o p (Tr.of δ) (Tr.of ε) = true) :
    (∀ l, Rd full o δ l → Wr p d ε l = none) ∧ (∀ l, Rd full p ε l → Wr o c δ l = none) ∧ (∀ l, Wr o c δ l ≠ none → Wr p d ε l = none) := by
  simp only [indepB, Bool.and_eq_true] at h
  obtain ⟨⟨⟨⟨⟨⟨h1, h2⟩, h3⟩, h4⟩, h5⟩, h6⟩, h7⟩ := h
  have hmap : ∀ {α : Type} {f : α → SV} {x : Option α}, x.map f ≠ none → x ≠ none := by intro α f x h; cases x <;> simp_all
  have hn : ∀ {α : Type} {f : α → SV} {x : Option α}, (x ≠ none → False) → x.map f = none := by
    intro α f x h; cases x with
    | none => rfl
    | some a => exact (h (by simp)).elim
  refine ⟨fun l hl => ?_, fun l hl => ?_, fun l hl => ?_⟩
  · cases l with
    | t i => simp only [Wr]; rw [if_neg]; intro e; exact disj_spec h2 (by simp [e]) hl
    | b i => exact hn fun e => disj_spec h5 (lko_key e) hl
    | k i => exact hn fun e => disj_spec h7 (lko_key e) hl
  · cases l with
    | t i => simp only [Wr]; rw [if_neg]; intro e; exact disj_spec h1 (by simp [e]) hl
    | b i => exact hn fun e => disj_spec h4 (lko_key e) (List.mem_append_left _ hl)
    | k i => exact hn fun e => disj_spec h6 (lko_key e) (List.mem_append_left _ hl)
  · cases l with
    | t i =>
      simp only [Wr] at hl ⊢
      rw [if_neg]
      intro e
      split at hl
      · rename_i e2; exact disj_spec h3 (x := i) (by simp [e2]) (by simp [e])
      · exact hl rfl
    | b i => exact hn fun e => disj_spec h4 (lko_key (hmap hl)) (List.mem_append_right _ (lko_key e))
    | k i => exact hn fun e => disj_spec h6 (lko_key (hmap hl)) (List.mem_append_right _ (lko_key e))

/-! ### The chain's links, by number -/
section
variable {P : Program} {nid0 : Nat} {full : List Oper}

theorem Chain.length : ∀ {os i S L S'}, Chain P nid0 full os i S L S' → L.length = os.length
  | _, _, _, _, _, .nil .. => rfl
  | _, _, _, _, _, .cons _ _ _ _ _ _ _ _ _ _ _ _ h => by simp [h.length]

def stAt (S' : PS) (L : List Lk) (i : Nat) : PS := ((L[i]?).map (·.S)).getD S'

theorem Chain.link : ∀ {os i S L S'}, Chain P nid0 full os i S L S' → stAt S' L 0 = S ∧ ∀ k o, os[k]? = some o → ∃ x, L[k]? = some x ∧ gcond full x.S o = some x.c ∧
      (x.c = true → LTripR P (nid0 + 4 * (i + k)) o x.S x.δ) ∧ (x.c = false → x.δ.wr = [] ∧ x.δ.tk = []) ∧ (∀ d, o.dst = some d → d < S.n) ∧ stAt S' L (k + 1) = x.S.put o x.c x.δ ∧ x.S.n = S.n
  | _, _, _, _, _, .nil i S => ⟨rfl, fun k o h => by simp at h⟩
  | _, _, _, _, _, .cons o os i S c δ L S' hg ht hr hd h => by
    obtain ⟨h0, hk⟩ := h.link
    refine ⟨rfl, fun k o' ho => ?_⟩
    cases k with
    | zero =>
      simp at ho; subst ho
      refine ⟨⟨S, c, δ⟩, rfl, hg, ht, hr, hd, ?_, rfl⟩
      simpa [stAt] using h0
    | succ k =>
      obtain ⟨x, h1, h2, h3, h4, h5, h6, h7⟩ := hk k o' (by simpa using ho)
      have hn : (S.put o c δ).n = S.n := by cases hd : o.dst <;> simp [PS.put, hd, PS.app]
      exact ⟨x, by simpa using h1, h2, by rw [show i + (k + 1) = i + 1 + k by omega]; exact h3, h4, fun d hd => by rw [← hn]; exact h5 d hd, by simpa [stAt] using h6, h7.trans hn⟩

theorem PS.put_n (S : PS) (o : Oper) (c : Bool) (δ : Dl) : (S.put o c δ).n = S.n := by cases hd : o.dst <;> simp [PS.put, hd, PS.app]

/-- The guard's word, as the machine asks for it. -/
theorem guard_runs {o' : Oper} {ops : Array Oper} (hf : full = ops.toList) {g : Gh} {S : PS} {tmps : Array Value} (henv : ∀ t ∈ readsOf full o', Rel g (tmps.getD t undef) (S.get t)) {c : Bool} (hg : gcond full S o' = some c) :
    Region.wanted o' (yielded ops tmps) = c := by
  unfold gcond at hg
  unfold Region.wanted
  cases hgd : o'.guard with
  | none => rw [hgd] at hg; simpa using hg
  | some jb =>
    obtain ⟨j, b⟩ := jb
    rw [hgd] at hg
    simp only at hg ⊢
    have hj : full[j]? = ops[j]? := by rw [hf]; simp
    rw [hj] at hg
    unfold yielded
    cases hd : (ops[j]?).bind (·.dst) with
    | none => rw [hd] at hg; simp at hg
    | some d =>
      rw [hd] at hg
      simp only at hg
      have hm : d ∈ readsOf full o' := by simp [readsOf, hgd, hj, hd]
      have hr := henv d hm
      have hu : ∀ v, tmps.getD d undef = v → v ≠ undef → tmps[d]? = some v := by
        intro v h1 h2
        rw [Array.getD_eq_getD_getElem?] at h1
        cases hx : tmps[d]? with
        | none => rw [hx] at h1; exact absurd h1.symm h2
        | some u => rw [hx] at h1; simpa using h1
      cases hp : S.get d <;> rw [hp] at hg hr <;> try simp at hg
      · rename_i x
        have hv := hu _ hr.bool_inv (by simp [undef])
        rw [Option.bind_some, hv]
        simp only
        rw [← hg]
        cases x <;> cases b <;> rfl
      · rename_i c' q
        cases q <;> simp at hg
        rename_i x
        obtain ⟨h1, h2⟩ := hr.given_inv
        rw [Option.bind_some]
        cases c' with
        | true =>
          have hv := hu _ (h1 rfl).bool_inv (by simp [undef])
          rw [hv]
          simp only
          rw [← hg]
          cases x <;> cases b <;> rfl
        | false =>
          have := h2 rfl
          rw [← hg]
          have hnb : ∀ y, tmps[d]? ≠ some (.bool y) := by
            intro y e
            rw [Array.getD_eq_getD_getElem?, e] at this
            simp [undef] at this
          simp only [Bool.false_and]
          cases hx : tmps[d]? with
          | none => rfl
          | some v =>
            cases v <;> first | rfl | exact absurd hx (hnb _)
end
end Go.Pv
