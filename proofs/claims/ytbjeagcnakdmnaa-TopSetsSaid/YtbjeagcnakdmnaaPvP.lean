/- Abstract values: contracts of functions, and calls. Nothing of any program. -/
import Derived.Test.YtbjeagcnakdmnaaPvO
set_option linter.unusedSimpArgs false
set_option linter.unusedVariables false
set_option linter.unusedSectionVars false
namespace Go.Pv
variable [GTab]

def zobjs : Nat → List (List PV) → List (Nat × Option (List PV))
  | _, [] => []
  | i, p :: l => (i, some p) :: zobjs (i + 1) l
def ztoks : Nat → Nat → List (Nat × Bool)
  | _, 0 => []
  | i, n + 1 => (i, true) :: ztoks (i + 1) n

theorem zobjs_get : ∀ (l : List (List PV)) (i j : Nat), lkp none (zobjs i l) j = if i ≤ j then l[j - i]? else none
  | [], i, j => by simp [zobjs, lkp]
  | p :: l, i, j => by
    simp only [zobjs, lkp]
    split
    · rename_i e; subst e; simp
    · rename_i e
      rw [zobjs_get l (i + 1) j]
      by_cases h : i ≤ j
      · rw [if_pos (by omega), if_pos h, show j - i = (j - (i + 1)) + 1 by omega, List.getElem?_cons_succ]
      · rw [if_neg (by omega), if_neg h]
theorem ztoks_get : ∀ (n i j : Nat), lkp false (ztoks i n) j = (decide (i ≤ j) && decide (j < i + n))
  | 0, i, j => by simp [ztoks, lkp]; try omega
  | n + 1, i, j => by
    simp only [ztoks, lkp]
    split
    · rename_i e; subst e; simp
    · rename_i e
      rw [ztoks_get n (i + 1) j]
      congr 1
      · rw [decide_eq_decide]; omega
      · rw [decide_eq_decide]; omega

/-- The state at a function's beginning, or behind it: so many boxes, and tokens. -/
def st0 (bs : List (List PV)) (nt : Nat) : PS := { n := 0, env := [], objs := zobjs 0 bs, live := ztoks 0 nt, nxt := 0 }
theorem st0_obj (bs nt i) : (st0 bs nt).obj i = bs[i]? := by simp [PS.obj, st0, zobjs_get]
theorem st0_lv (bs nt k) : (st0 bs nt).lv k = decide (k < nt) := by simp [PS.lv, st0, ztoks_get]

/-- What a call leaves: without a word on tokens' numbers. -/
structure ExtW (g : Gh) (S : PS) (w : World) (g' : Gh) (S' : PS) (w' : World) : Prop where
  le : g.h.le g'.h
  ty : ∀ b T, g.ty b = some T → g'.ty b = some T
  new : ∀ b o v, g'.h b o = some v → g.h b o = some v ∨ w.heap.size ≤ b ∨ Own g S b o
  own : ∀ b o, b < w.heap.size → Own g' S' b o → Own g S b o
  size : w.heap.size ≤ w'.heap.size
  keep : ∀ b, b < w.heap.size → BlkKeep (Own g S b) w.heap[b]? w'.heap[b]?
  os : w'.os = w.os
  tape : w'.tape = w.tape
  output : OutEq w w'

/-- Function f, called with these arguments, over these boxes and tokens, returns r, and leaves those boxes and tokens. -/
structure Fsp (P : Program) (f : FuncId) (bs : List (List PV)) (nt : Nat) (args : List PV) (bs' : List (List PV)) (nt' : Nat) (r : PV) : Prop where
  len : bs.length ≤ bs'.length
  fn : ∃ fn, P.funcs[f]? = some fn ∧ fn.body.isSome = true ∧ (fn.name == "runtime.NumGoroutine") = false
  calls : ∀ (g : Gh) (w : World) (vs : Array Value), InvW g (st0 bs nt) w → (∀ i, bs.length ≤ i → g.blk i = none) → (∀ i, nt ≤ i → g.tok i = none) → vs.size = args.length →
    (∀ (i : Nat) (v : Value) (p : PV), vs[i]? = some v → args[i]? = some p → Rel g v p) →
    Calls P f vs w (fun e w' => ∃ v g', e = .returned v ∧ InvW g' (st0 bs' nt') w' ∧ ExtW g (st0 bs nt) w g' (st0 bs' nt') w' ∧ (∀ i, i < bs.length → g'.blk i = g.blk i) ∧ (∀ i, bs.length ≤ i → i < bs'.length → ∃ b, g'.blk i = some b ∧ w.heap.size ≤ b) ∧ Rel g' v r)

/-- An argument of the caller's, as the callee is told it: a box by its number there; what stays. -/
def argB (β : List Nat) (q p : PV) : Prop := (∃ i j off, p = .box i off ∧ q = .box j off ∧ β[i]? = some j) ∨ q.weak = p
/-- .. a map, in a struct. -/
def argM (β : List Nat) (q p : PV) : Prop := (∃ i j, p = .mref i ∧ q = .mref j ∧ β[i]? = some j) ∨ q.weak = p
def argOK (β τ : List Nat) (q p : PV) : Prop := (∃ i j off, p = .box i off ∧ q = .box j off ∧ β[i]? = some j) ∨ q.el = p ∨ (∃ sz es k i, q = .slt sz es k ∧ p = .slt sz es i ∧ τ[i]? = some k) ∨ (∃ f qs ps, q = .fn f qs ∧ p = .fn f ps ∧ qs.length = ps.length ∧ (∀ (i : Nat) (q p : PV), qs[i]? = some q → ps[i]? = some p → argB β q p)) ∨ (∃ i j, p = .mref i ∧ q = .mref j ∧ β[i]? = some j) ∨ (∃ qs ps, q = .agg qs ∧ p = .agg ps ∧ qs.length = ps.length ∧ ∀ (i : Nat) (q p : PV), qs[i]? = some q → ps[i]? = some p → argM β q p) ∨ (∃ i j n sz, p = .slg i n sz ∧ q = .slg j n sz ∧ β[i]? = some j) ∨ ∃ i j off n sz, p = .slb i off n sz ∧ q = .slb j off n sz ∧ β[i]? = some j
/-- A cell of a box likewise: a token by its number there. -/
def cellOK (β τ : List Nat) (q p : PV) : Prop := (∃ sz es k i, q = .slt sz es k ∧ p = .slt sz es i ∧ τ[i]? = some k) ∨ q.weak = p ∨ (∃ i j off, q = .box j off ∧ p = .box i off ∧ β[i]? = some j) ∨
  (∃ i j off n sz, q = .slb j off n sz ∧ p = .slb i off n sz ∧ β[i]? = some j) ∨ (∃ T i j, q = .nbp T j ∧ p = .nbp T i ∧ β[i]? = some j) ∨ (∃ e es k i, q = .bsl e es k ∧ p = .bsl e es i ∧ τ[i]? = some k) ∨ (∃ i j, q = .mref j ∧ p = .mref i ∧ β[i]? = some j) ∨ ∃ i j n sz, q = .slg j n sz ∧ p = .slg i n sz ∧ β[i]? = some j

/-- What the callee tells, as the caller has it: its tokens are numbered from nid on, and its new boxes, that have numbers from m on. -/
def bkI (β : List Nat) (nid m i : Nat) : Nat := match β[i]? with | some j => j | none => nid + i - m
def PV.back1 (β : List Nat) (nid m : Nat) : PV → PV
  | .slt sz es k => .slt sz es (nid + k)
  | .slb i off n sz => .slb (bkI β nid m i) off n sz
  | .slg i n sz => .slg (bkI β nid m i) n sz
  | .box i off => .box (bkI β nid m i) off
  | .nbp T i => .nbp T (bkI β nid m i)
  | .mref i => .mref (bkI β nid m i)
  | .bsl e es k => .bsl e es (nid + k)
  | p => p.weak
def PV.back2 (β : List Nat) (nid m : Nat) : PV → PV
  | .agg ps => .agg (ps.map (PV.back1 β nid m))
  | .fn f ps => .fn f (ps.map (PV.back1 β nid m))
  | p => p.back1 β nid m
def PV.back (β : List Nat) (nid m : Nat) : PV → PV
  | .tup ps => .tup (ps.map (PV.back2 β nid m))
  | p => p.back2 β nid m

/-- The caller's ghost, as the callee is told it. -/
def Gh.to (g : Gh) (β τ : List Nat) : Gh := { h := g.h, blk := fun i => (β[i]?).bind g.blk, tok := fun i => (τ[i]?).bind g.tok, ty := g.ty }

theorem arg_rel {g : Gh} {β τ : List Nat} {v : Value} {q p : PV} (r : Rel g v q) (h : argOK β τ q p) : Rel (g.to β τ) v p := by
  rcases h with ⟨i, j, off, rfl, rfl, hb⟩ | rfl | ⟨sz, es, k, i, rfl, rfl, ht⟩ | ⟨f, qs, ps, rfl, rfl, hl, hw⟩ | ⟨i, j, rfl, rfl, hb⟩ | ⟨qs, ps, rfl, rfl, hl, hw⟩ | ⟨i, j, n, sz, rfl, rfl, hb⟩ | ⟨i, j, off, n, sz, rfl, rfl, hb⟩
  · have hty := fun b h => r.box_ty (b := b) h
    obtain ⟨b, h1, rfl⟩ := r.box_inv
    exact .box i off b (by simp [Gh.to, hb, h1]) (hty b h1)
  · exact .pure _ _ r.el
  · obtain ⟨h1, h2⟩ := r.slt_inv
    exact .slt v sz es i h1 (fun b lo hi hs hl => by simp [Gh.to, ht, h2 b lo hi hs hl])
  · obtain ⟨vs, rfl, hn, hp⟩ := r.fn_inv
    refine .fn f vs ps (by rw [hn, hl]) (fun i v p hv hpp => ?_)
    have hi : i < qs.length := by rw [hl]; exact (List.getElem?_eq_some_iff.1 hpp).1
    have hq : qs[i]? = some qs[i] := by simp [hi]
    have rr := hp i v _ hv hq
    rcases hw i _ p hq hpp with ⟨i', j, off, rfl, h2, hb⟩ | h
    · rw [h2] at rr
      have hty := fun b h => rr.box_ty (b := b) h
      obtain ⟨b, h1, rfl⟩ := rr.box_inv
      exact .box i' off b (by simp [Gh.to, hb, h1]) (hty b h1)
    · rw [← h]; exact .pure _ _ rr.weak
  · obtain ⟨b, h1, rfl⟩ := r.mref_inv
    exact .mref i b (by simp [Gh.to, hb, h1])
  · obtain ⟨vs, rfl, hn, ho, hp⟩ := r.agg_inv
    refine .agg vs ps (by rw [hn, hl]) ho (fun i v p hv hpp => ?_)
    have hi : i < qs.length := by rw [hl]; exact (List.getElem?_eq_some_iff.1 hpp).1
    have hq : qs[i]? = some qs[i] := by simp [hi]
    have rr := hp i v _ hv hq
    rcases hw i _ p hq hpp with ⟨i', j, rfl, h2, hb⟩ | h
    · rw [h2] at rr
      obtain ⟨b, h1, rfl⟩ := rr.mref_inv
      exact .mref i' b (by simp [Gh.to, hb, h1])
    · rw [← h]; exact .pure _ _ rr.weak
  · obtain ⟨b, cap, T, m, h1, rfl, h2, h3, h4, h5⟩ := r.slg_inv
    exact .slg i n sz cap b T m (by simp [Gh.to, hb, h1]) h4 h2 h3 h5
  · have hty := fun b h => r.slb_ty (b := b) h
    obtain ⟨b, cap, h1, rfl, h2, h3⟩ := r.slb_inv
    exact .slb i off n sz cap b (by simp [Gh.to, hb, h1]) (hty b h1) h2 h3

theorem cell_rel {g : Gh} {β τ : List Nat} {v : Value} {q p : PV} (r : Rel g v q) (h : cellOK β τ q p) : Rel (g.to β τ) v p := by
  rcases h with ⟨sz, es, k, i, rfl, rfl, ht⟩ | rfl | ⟨i, j, off, rfl, rfl, hb⟩ | ⟨i, j, off, n, sz, rfl, rfl, hb⟩ | ⟨T, i, j, rfl, rfl, hb⟩ | ⟨e, es, k, i, rfl, rfl, ht⟩ | ⟨i, j, rfl, rfl, hb⟩ | ⟨i, j, n, sz, rfl, rfl, hb⟩
  · obtain ⟨h1, h2⟩ := r.slt_inv
    exact .slt v sz es i h1 (fun b lo hi hs hl => by simp [Gh.to, ht, h2 b lo hi hs hl])
  · exact .pure _ _ r.weak
  · have hty := fun b h => r.box_ty (b := b) h
    obtain ⟨b, h1, rfl⟩ := r.box_inv
    exact .box i off b (by simp [Gh.to, hb, h1]) (hty b h1)
  · have hty := fun b h => r.slb_ty (b := b) h
    obtain ⟨b, cap, h1, rfl, h2, h3⟩ := r.slb_inv
    exact .slb i off n sz cap b (by simp [Gh.to, hb, h1]) (hty b h1) h2 h3
  · obtain ⟨b, h1, h2, h3⟩ := r.nbp_inv
    exact .nbp v T i b (by simp [Gh.to, hb, h1]) h2 h3
  · obtain ⟨h1, h2, h3⟩ := r.bsl_inv
    exact .bsl v e es i h1 (fun b lo hi hs hl => by simp [Gh.to, ht, h2 b lo hi hs hl]) h3
  · obtain ⟨b, h1, rfl⟩ := r.mref_inv
    exact .mref i b (by simp [Gh.to, hb, h1])
  · obtain ⟨b, cap, T, m, h1, rfl, h2, h3, h4, h5⟩ := r.slg_inv
    exact .slg i n sz cap b T m (by simp [Gh.to, hb, h1]) h4 h2 h3 h5

/-- The caller's ghost behind the call. -/
def Gh.from (g g' : Gh) (nid nt' m nb : Nat) : Gh :=
  { h := g'.h, blk := fun j => if nid ≤ j ∧ j < nid + nb then g'.blk (j - nid + m) else g.blk j, tok := fun j => if nid ≤ j ∧ j < nid + nt' then g'.tok (j - nid) else g.tok j, ty := g'.ty }

/-- Its tokens are among so many, its boxes among the new ones. -/
def tokLt1 (n m nb : Nat) : PV → Bool
  | .slt _ _ k => decide (k < n)
  | .bsl _ _ k => decide (k < n)
  | .slb i _ _ _ => decide (i < m + nb)
  | .slg i _ _ => decide (i < m + nb)
  | .box i _ => decide (i < m + nb)
  | .nbp _ i => decide (i < m + nb)
  | .mref i => decide (i < m + nb)
  | _ => true
def tokLt2 (n m nb : Nat) : PV → Bool
  | .agg ps => ps.all (tokLt1 n m nb)
  | .fn _ ps => ps.all (tokLt1 n m nb)
  | p => tokLt1 n m nb p
def tokLt (n m nb : Nat) : PV → Bool
  | .tup ps => ps.all (tokLt2 n m nb)
  | p => tokLt2 n m nb p

theorem back1_rel {g' gn : Gh} {β : List Nat} {nid nt' m nb : Nat} (hh : gn.h = g'.h) (hty : gn.ty = g'.ty) (hbk : ∀ i, i < m + nb → gn.blk (bkI β nid m i) = g'.blk i) (htk : ∀ k, k < nt' → gn.tok (nid + k) = g'.tok k)
    {v : Value} {p : PV} (r : Rel g' v p) (hk : tokLt1 nt' m nb p = true) : Rel gn v (p.back1 β nid m) := by
  have other : p.back1 β nid m = p.weak → Rel gn v (p.back1 β nid m) := fun e => by rw [e]; exact .pure _ _ (by rw [hh]; exact r.weak)
  cases p with
  | slt sz es k =>
    obtain ⟨h1, h2⟩ := r.slt_inv
    refine .slt v sz es (nid + k) (by rw [hh]; exact h1) (fun b lo hi hs hl => ?_)
    have : k < nt' := by simpa [tokLt1] using hk
    rw [htk k this]
    exact h2 b lo hi hs hl
  | slb i off n sz =>
    have ht := fun b h => r.slb_ty (b := b) h
    obtain ⟨b, cap, h1, rfl, h2, h3⟩ := r.slb_inv
    have : i < m + nb := by simpa [tokLt1] using hk
    exact .slb (bkI β nid m i) off n sz cap b (by rw [hbk i this]; exact h1) (by rw [hty]; exact ht b h1) h2 h3
  | slg i n sz =>
    obtain ⟨b, cap, T, m', h1, rfl, h2, h3, h4, h5⟩ := r.slg_inv
    have : i < m + nb := by simpa [tokLt1] using hk
    exact .slg (bkI β nid m i) n sz cap b T m' (by rw [hbk i this]; exact h1) (by rw [hty]; exact h4) h2 h3 h5
  | box i off =>
    have ht := fun b h => r.box_ty (b := b) h
    obtain ⟨b, h1, rfl⟩ := r.box_inv
    have : i < m + nb := by simpa [tokLt1] using hk
    exact .box (bkI β nid m i) off b (by rw [hbk i this]; exact h1) (by rw [hty]; exact ht b h1)
  | mref i =>
    obtain ⟨b, h1, rfl⟩ := r.mref_inv
    have : i < m + nb := by simpa [tokLt1] using hk
    exact .mref (bkI β nid m i) b (by rw [hbk i this]; exact h1)
  | bsl e es k =>
    obtain ⟨h1, h2, h3⟩ := r.bsl_inv
    have : k < nt' := by simpa [tokLt1] using hk
    refine .bsl v e es (nid + k) (by rw [hh]; exact h1) (fun b lo hi hs hl => ?_) (fun a n c hv => by rw [hty]; exact h3 a n c hv)
    rw [htk k this]
    exact h2 b lo hi hs hl
  | nbp T i =>
    obtain ⟨b, h1, h2, h3⟩ := r.nbp_inv
    have : i < m + nb := by simpa [tokLt1] using hk
    exact .nbp v T (bkI β nid m i) b (by rw [hbk i this]; exact h1) (by rw [hty]; exact h2) h3
  | _ => exact other rfl

theorem back2_rel {g' gn : Gh} {β : List Nat} {nid nt' m nb : Nat} (hh : gn.h = g'.h) (hty : gn.ty = g'.ty) (hbk : ∀ i, i < m + nb → gn.blk (bkI β nid m i) = g'.blk i) (htk : ∀ k, k < nt' → gn.tok (nid + k) = g'.tok k)
    {v : Value} {p : PV} (r : Rel g' v p) (hk : tokLt2 nt' m nb p = true) : Rel gn v (p.back2 β nid m) := by
  by_cases h : ∃ ps, p = .agg ps
  · obtain ⟨ps, rfl⟩ := h
    obtain ⟨vs, rfl, hn, ho, hp⟩ := r.agg_inv
    refine .agg vs _ (by simp [hn]) ho ?_
    intro i v q hv hq
    rw [List.getElem?_map] at hq
    cases hx : ps[i]? with
    | none => rw [hx] at hq; cases hq
    | some x =>
      rw [hx] at hq; cases hq
      exact back1_rel hh hty hbk htk (hp i v x hv hx) (List.all_eq_true.1 hk x (List.mem_of_getElem? hx))
  · by_cases h' : ∃ f ps, p = .fn f ps
    · obtain ⟨f, ps, rfl⟩ := h'
      obtain ⟨vs, rfl, hn, hp⟩ := r.fn_inv
      refine .fn f vs _ (by simp [hn]) ?_
      intro i v q hv hq
      rw [List.getElem?_map] at hq
      cases hx : ps[i]? with
      | none => rw [hx] at hq; cases hq
      | some x =>
        rw [hx] at hq; cases hq
        exact back1_rel hh hty hbk htk (hp i v x hv hx) (List.all_eq_true.1 hk x (List.mem_of_getElem? hx))
    have : p.back2 β nid m = p.back1 β nid m := by cases p <;> first | rfl | exact absurd ⟨_, rfl⟩ h | exact absurd ⟨_, _, rfl⟩ h'
    rw [this]
    have : tokLt2 nt' m nb p = tokLt1 nt' m nb p := by cases p <;> first | rfl | exact absurd ⟨_, rfl⟩ h | exact absurd ⟨_, _, rfl⟩ h'
    exact back1_rel hh hty hbk htk r (by rw [← this]; exact hk)

theorem back_rel {g' gn : Gh} {β : List Nat} {nid nt' m nb : Nat} (hh : gn.h = g'.h) (hty : gn.ty = g'.ty) (hbk : ∀ i, i < m + nb → gn.blk (bkI β nid m i) = g'.blk i) (htk : ∀ k, k < nt' → gn.tok (nid + k) = g'.tok k)
    {v : Value} {p : PV} (r : Rel g' v p) (hk : tokLt nt' m nb p = true) : Rel gn v (p.back β nid m) := by
  by_cases h : ∃ ps, p = .tup ps
  · obtain ⟨ps, rfl⟩ := h
    obtain ⟨vs, rfl, hn, hp⟩ := r.tup_inv
    refine .tup vs _ (by simp [hn]) ?_
    intro i v q hv hq
    rw [List.getElem?_map] at hq
    cases hx : ps[i]? with
    | none => rw [hx] at hq; cases hq
    | some x =>
      rw [hx] at hq; cases hq
      exact back2_rel hh hty hbk htk (hp i v x hv hx) (List.all_eq_true.1 hk x (List.mem_of_getElem? hx))
  · have : p.back β nid m = p.back2 β nid m := by cases p <;> first | rfl | exact absurd ⟨_, rfl⟩ h
    rw [this]
    have : tokLt nt' m nb p = tokLt2 nt' m nb p := by cases p <;> first | rfl | exact absurd ⟨_, rfl⟩ h
    exact back2_rel hh hty hbk htk r (by rw [← this]; exact hk)

def upto : Nat → Nat → List Nat
  | _, 0 => []
  | i, n + 1 => i :: upto (i + 1) n
theorem upto_get : ∀ {n i j : Nat}, j < n → (upto i n)[j]? = some (i + j)
  | n + 1, i, 0, _ => rfl
  | n + 1, i, j + 1, h => by
    show (upto (i + 1) n)[j]? = _
    rw [upto_get (by omega)]
    congr 1
    omega
theorem upto_length : ∀ {n i : Nat}, (upto i n).length = n
  | 0, _ => rfl
  | n + 1, i => by simp [upto, upto_length]
theorem mem_upto : ∀ {n i k : Nat}, k ∈ upto i n ↔ i ≤ k ∧ k < i + n
  | 0, i, k => by simp only [upto, List.not_mem_nil, false_iff]; omega
  | n + 1, i, k => by simp only [upto, List.mem_cons, mem_upto]; omega
theorem upto_nodup : ∀ {n i : Nat}, (upto i n).Nodup
  | 0, _ => List.nodup_nil
  | n + 1, i => List.nodup_cons.2 ⟨fun h => by rw [mem_upto] at h; omega, upto_nodup⟩

theorem lko_append {α : Type} : ∀ {l m : List (Nat × α)} {t : Nat}, lko (l ++ m) t = (lko l t).or (lko m t)
  | [], m, t => rfl
  | (a, b) :: l, m, t => by
    simp only [List.cons_append, lko]
    split
    · rfl
    · exact lko_append

theorem dead_lko : ∀ (τ : List Nat) (k : Nat), lko (τ.map fun k => (k, false)) k = if k ∈ τ then some false else none
  | [], k => rfl
  | x :: xs, k => by
    simp only [List.map_cons, lko, dead_lko xs k, List.mem_cons]
    by_cases e : x = k
    · simp [e]
    · simp [e, Ne.symm e]

theorem BlkKeep.eq {own : Nat → Prop} {x y : Option Obj} (h : BlkKeep own x y) (hn : ∀ o, ¬ own o) : y = x := by
  rcases h with rfl | ⟨v1, v2, T, f1, f2, rfl, rfl, hs, ho, hf⟩ | h
  · rfl
  · have e : v2 = v1 := by
      apply Array.ext_getElem?
      intro i
      exact ho i (hn i)
    rcases hf with rfl | ⟨o, h⟩
    · rw [e]
    · exact absurd h (hn o)
  · exact absurd (h 0) (hn 0)

/-- New tokens from nid on. -/
def newToks (nid : Nat) : Nat → List (Nat × Bool)
  | 0 => []
  | n + 1 => newToks nid n ++ [(nid + n, true)]
theorem newToks_lko : ∀ (n nid k : Nat), lko (newToks nid n) k = if nid ≤ k ∧ k < nid + n then some true else none
  | 0, nid, k => by simp [newToks, lko]; try omega
  | n + 1, nid, k => by
    rw [newToks, lko_append, newToks_lko n nid k]
    simp only [lko]
    by_cases h : nid ≤ k ∧ k < nid + n
    · rw [if_pos h, if_pos (show nid ≤ k ∧ k < nid + (n + 1) from ⟨h.1, by omega⟩)]; rfl
    · rw [if_neg h]
      by_cases e : nid + n = k
      · rw [if_pos e, if_pos (show nid ≤ k ∧ k < nid + (n + 1) by omega)]; rfl
      · rw [if_neg e, if_neg (show ¬ (nid ≤ k ∧ k < nid + (n + 1)) by omega)]; rfl

def zipB : List Nat → List (List PV) → List (Nat × Option (List PV))
  | b :: β, c :: cs => (b, some c) :: zipB β cs
  | _, _ => []
theorem zipB_lko : ∀ (β : List Nat) (cs : List (List PV)) (id : Nat), β.length = cs.length → β.Nodup →
    (∀ i : Nat, β[i]? = some id → lko (zipB β cs) id = some (cs[i]?)) ∧ (id ∉ β → lko (zipB β cs) id = none)
  | [], [], id, _, _ => ⟨fun i h => by simp at h, fun _ => rfl⟩
  | b :: β, [], id, h, _ => by simp at h
  | [], c :: cs, id, h, _ => by simp at h
  | b :: β, c :: cs, id, h, hn => by
    have ih := zipB_lko β cs id (by simpa using h) (List.nodup_cons.1 hn).2
    refine ⟨fun i hi => ?_, fun hm => ?_⟩
    · cases i with
      | zero => simp at hi; subst hi; simp [zipB, lko]
      | succ i =>
        have hi' : β[i]? = some id := by simpa using hi
        have hne : b ≠ id := fun e => (List.nodup_cons.1 hn).1 (by rw [e]; exact List.mem_of_getElem? hi')
        simp only [zipB, lko, if_neg hne, List.getElem?_cons_succ]
        exact ih.1 i hi'
    · have hne : b ≠ id := fun e => hm (by rw [e]; exact List.mem_cons_self ..)
      simp only [zipB, lko, if_neg hne]
      exact ih.2 (fun h => hm (List.mem_cons_of_mem _ h))

/-- The call of a function that has a contract. -/
theorem call_trip {P : Program} {nid : Nat} {o : Oper} {ins : Operand → PV} {S : PS} {fo : Operand} {as : Array Operand} {ts : Array TypeId} {f : FuncId} {caps : List PV}
    {bs bs' : List (List PV)} {nt nt' : Nat} {args : List PV} {r : PV} (hop : o.op = .call { callee := .value fo, args := as, argTypes := ts }) (hfo : ins fo = .fn f caps)
    (hS : Fsp P f bs nt args bs' nt' r) (β τ : List Nat) (hβ : β.length = bs.length) (hβn : β.Nodup) (hτ : τ.length = nt) (hτn : τ.Nodup)
    (hboxes : ∀ (i j : Nat) (cs : List PV), β[i]? = some j → bs[i]? = some cs → ∃ ds, S.obj j = some ds ∧ ds.length = cs.length ∧ ∀ (m : Nat) (q p : PV), ds[m]? = some q → cs[m]? = some p → cellOK β τ q p)
    (htoks : ∀ k ∈ τ, S.lv k = true) (hal : args.length = as.size + caps.length)
    (hargs : ∀ (i : Nat) (q p : PV), (as.toList.map ins ++ caps)[i]? = some q → args[i]? = some p → argOK β τ q p)
    (hnt : nt' ≤ 4) (hnb : bs'.length ≤ bs.length + 4) (hr : tokLt nt' bs.length (bs'.length - bs.length) r = true) (hbs : ∀ cs ∈ bs', ∀ p ∈ cs, tokLt1 nt' bs.length (bs'.length - bs.length) p = true) {ok : Prop} (hβS : ∀ j ∈ β, S.obj j ≠ none) :
    LTrip P nid o ins S { p := r.back β nid bs.length, wr := zipB (β ++ upto nid (bs'.length - bs.length)) (bs'.map fun cs => cs.map (PV.back1 β nid bs.length)), tk := newToks nid nt' ++ τ.map fun k => (k, false), rdB := β, rdT := τ, ok := ok } := by
  intro g S' a w next Q hI ho hb ht hf hn
  obtain ⟨fn, hfn1, hfn2, hfn3⟩ := hS.fn
  have hfr := ho fo (by simp [hop, Op.operands, Call.operands])
  rw [hfo] at hfr
  obtain ⟨cv, hfv, hcn, hcr⟩ := hfr.fn_inv
  have hbody : fn.body ≠ none := by intro e; rw [e] at hfn2; cases hfn2
  have hname : fn.name ≠ "runtime.NumGoroutine" := by simpa using hfn3
  have hrun : (execOp a.eval o).run P w = .ok (.enter f (as.map a.eval ++ cv)) w := by
    simp [execOp, hop, resolve, hfv, Deferred.ofValue, invoke, callFunc, hfn1, hname, hbody]
  unfold Oper.wp
  rw [hrun, Oper.upon_enter]
  -- the callee's world
  have hobj' : ∀ (i j : Nat), β[i]? = some j → S'.obj j = S.obj j := fun i j h => hb j (List.mem_of_getElem? h)
  have hlv' : ∀ k ∈ τ, S'.lv k = true := fun k h => (ht k h).trans (htoks k h)
  let gc := g.to β τ
  have hInv : InvW gc (st0 bs nt) w := by
    refine ⟨hI.hw, ?_, ?_, ?_, ?_, hI.jnk_gen (fun _ _ h => h) (fun _ _ _ => rfl) (fun c m o h => (hI.jnk c m h).2.1 o) (fun i c m _ hid hbk => by
      simp only [gc, Gh.to] at hbk
      cases hj : β[i]? with
      | none => rw [hj] at hbk; cases hbk
      | some j =>
        rw [hj] at hbk
        exact ⟨j, by rw [hobj' i j hj]; exact hβS j (List.mem_of_getElem? hj), hbk⟩) (fun k c m lo hi _ hk hkt hl => by
      simp only [gc, Gh.to] at hkt
      cases hj : τ[k]? with
      | none => rw [hj] at hkt; cases hkt
      | some j =>
        rw [hj] at hkt
        exact ⟨j, lo, hi, hlv' j (List.mem_of_getElem? hj), hkt, hl⟩), hI.tys, hI.gl⟩
    · intro i cs hi
      rw [st0_obj] at hi
      have hil := (List.getElem?_eq_some_iff.1 hi).1
      obtain ⟨j, hj⟩ : ∃ j, β[i]? = some j := ⟨β[i]'(by omega), by simp [show i < β.length by omega]⟩
      obtain ⟨ds, h1, h2, h3⟩ := hboxes i j cs hj hi
      obtain ⟨b, q1, qo, q6⟩ := hI.objs j ds ((hobj' i j hj).trans h1)
      refine ⟨b, by simp [gc, Gh.to, hj, q1], ?_, q6⟩
      rcases qo with ⟨vals, T, fr, q2, qf, q3, q4, q5⟩ | ⟨es, ents, c, hds, q2, q3⟩ | ⟨cur, es, p0, p1, hds, e1, e2, q3⟩
      rotate_left
      · obtain ⟨p, rfl⟩ : ∃ p, cs = [p] := by
          have : cs.length = 1 := by rw [← h2]; rcases hds with rfl | rfl <;> rfl
          match cs, this with
          | [p], _ => exact ⟨p, rfl⟩
        refine .inr (.inl ⟨es, ents, c, ?_, q2, q3⟩)
        rcases hds with rfl | rfl
        · rcases h3 0 _ p rfl rfl with ⟨_, _, _, _, h, _⟩ | h | ⟨_, _, _, h, _⟩ | ⟨_, _, _, _, _, h, _⟩ | ⟨_, _, _, h, _⟩ | ⟨_, _, _, _, h, _⟩ | ⟨_, _, h, _⟩ | ⟨_, _, _, _, h, _⟩ <;> first | (cases h; done) | exact .inl (by rw [← h]; rfl)
        · rcases h3 0 _ p rfl rfl with ⟨_, _, _, _, h, _⟩ | h | ⟨_, _, _, h, _⟩ | ⟨_, _, _, _, _, h, _⟩ | ⟨_, _, _, h, _⟩ | ⟨_, _, _, _, h, _⟩ | ⟨_, _, h, _⟩ | ⟨_, _, _, _, h, _⟩ <;> first | (cases h; done) | exact .inr (by rw [← h]; rfl)
      · subst hds
        obtain ⟨u0, u1, rfl⟩ : ∃ u0 u1, cs = [u0, u1] := by
          match cs, h2 with
          | [u0, u1], _ => exact ⟨u0, u1, rfl⟩
        refine .inr (.inr ⟨cur, es, u0, u1, rfl, ?_, ?_, q3⟩)
        · have h := h3 0 _ u0 rfl rfl
          rcases e1 with rfl | rfl <;> rcases h with ⟨_, _, _, _, h, _⟩ | h | ⟨_, _, _, h, _⟩ | ⟨_, _, _, _, _, h, _⟩ | ⟨_, _, _, h, _⟩ | ⟨_, _, _, _, h, _⟩ | ⟨_, _, h, _⟩ | ⟨_, _, _, _, h, _⟩ <;> first | (cases h; done) | exact .inr (by rw [← h]; rfl)
        · have h := h3 1 _ u1 rfl rfl
          rcases e2 with rfl | rfl <;> rcases h with ⟨_, _, _, _, h, _⟩ | h | ⟨_, _, _, h, _⟩ | ⟨_, _, _, _, _, h, _⟩ | ⟨_, _, _, h, _⟩ | ⟨_, _, _, _, h, _⟩ | ⟨_, _, h, _⟩ | ⟨_, _, _, _, h, _⟩ <;> first | (cases h; done) | exact .inr (by rw [← h]; rfl) | exact .inl (by rw [← h]; rfl)
      refine .inl ⟨vals, T, fr, q2, qf, (by rw [← h2]; exact q3), q4, ?_⟩
      intro m v p hv hp
      have hm : m < ds.length := by rw [h2]; exact (List.getElem?_eq_some_iff.1 hp).1
      have hd : ds[m]? = some ds[m] := by simp [hm]
      exact cell_rel (q5 m v _ hv hd) (h3 m _ p hd hp)
    · intro i i' b h1 h2 h3 h4
      rw [st0_obj] at h1 h2
      simp only [gc, Gh.to] at h3 h4
      cases hj : β[i]? with
      | none => rw [hj] at h3; cases h3
      | some j =>
        cases hj' : β[i']? with
        | none => rw [hj'] at h4; cases h4
        | some j' =>
          rw [hj] at h3; rw [hj'] at h4
          have e1 : S'.obj j ≠ none := by rw [hobj' i j hj]; exact hβS j (List.mem_of_getElem? hj)
          have e2 : S'.obj j' ≠ none := by rw [hobj' i' j' hj']; exact hβS j' (List.mem_of_getElem? hj')
          have := hI.inj j j' b e1 e2 h3 h4
          subst this
          exact (List.getElem?_inj (List.getElem?_eq_some_iff.1 hj).1 hβn).1 (hj.trans hj'.symm)
    · intro k hk
      rw [st0_lv] at hk
      have hk' : k < τ.length := by simpa [hτ] using hk
      obtain ⟨b, lo, hi, h1, h2⟩ := hI.toks τ[k] (hlv' _ (List.getElem_mem hk'))
      refine ⟨b, lo, hi, by simp [gc, Gh.to, hk', h1], fun hl => ?_⟩
      obtain ⟨h3, h4, h5⟩ := h2 hl
      refine ⟨h3, h4, fun i hi' => ?_⟩
      rw [st0_obj] at hi'
      simp only [gc, Gh.to]
      cases hj : β[i]? with
      | none => simp
      | some j => exact h5 j (by rw [hobj' i j hj]; exact hβS j (List.mem_of_getElem? hj))
    · intro k k' b lo hi lo' hi' h1 h2 hne h3 h4
      rw [st0_lv] at h1 h2
      have hk : k < τ.length := by simpa [hτ] using h1
      have hk' : k' < τ.length := by simpa [hτ] using h2
      simp only [gc, Gh.to, List.getElem?_eq_getElem hk, List.getElem?_eq_getElem hk', Option.bind_some] at h3 h4
      refine hI.tokd τ[k] τ[k'] b lo hi lo' hi' (hlv' _ (List.getElem_mem hk)) (hlv' _ (List.getElem_mem hk')) (fun e => hne ?_) h3 h4
      exact (List.getElem?_inj hk hτn).1 (by rw [List.getElem?_eq_getElem hk, List.getElem?_eq_getElem hk', e])
  have hgcb : ∀ i, bs.length ≤ i → gc.blk i = none := by intro i hi; simp [gc, Gh.to, List.getElem?_eq_none (show β.length ≤ i by omega)]
  have hgct : ∀ i, nt ≤ i → gc.tok i = none := by intro i hi; simp [gc, Gh.to, List.getElem?_eq_none (show τ.length ≤ i by omega)]
  refine (hS.calls gc w (as.map a.eval ++ cv) hInv hgcb hgct (by simp [hal, hcn]) ?_).mono ?_
  · intro i v p hv hp
    have hin : ∃ q, (as.toList.map ins ++ caps)[i]? = some q ∧ Rel g v q := by
      by_cases hi : i < as.size
      · rw [Array.getElem?_append_left (by simpa using hi), Array.getElem?_map] at hv
        rw [List.getElem?_append_left (by simpa using hi), List.getElem?_map]
        simp only [Array.getElem?_toList]
        cases hx : as[i]? with
        | none => rw [hx] at hv; cases hv
        | some x =>
          rw [hx] at hv; cases hv
          exact ⟨ins x, rfl, ho x (by simp only [hop, Op.operands, Call.operands]; exact Array.mem_append_right _ (Array.mem_of_getElem? hx))⟩
      · rw [Array.getElem?_append_right (by simpa using Nat.le_of_not_lt hi)] at hv
        rw [List.getElem?_append_right (by simpa using Nat.le_of_not_lt hi)]
        simp only [Array.size_map, List.length_map, Array.length_toList] at hv ⊢
        have hlt : i - as.size < caps.length := by rw [← hcn]; exact (Array.getElem?_eq_some_iff.1 hv).1
        exact ⟨caps[i - as.size], by simp [hlt], hcr _ v _ hv (by simp [hlt])⟩
    obtain ⟨q, hq, hrq⟩ := hin
    exact arg_rel hrq (hargs i q p hq hp)
  · rintro e w' ⟨v, g', rfl, hI', hE, hblk, hnew, hrel⟩
    simp only
    let δ : Dl := { p := r.back β nid bs.length, wr := zipB (β ++ upto nid (bs'.length - bs.length)) (bs'.map fun cs => cs.map (PV.back1 β nid bs.length)), tk := newToks nid nt' ++ τ.map fun k => (k, false), rdB := β, rdT := τ, ok := ok }
    let nb := bs'.length - bs.length
    let gn := g.from g' nid nt' bs.length nb
    have hnbd : nb = bs'.length - bs.length := rfl
    have hlen := hS.len
    have hfb : ∀ j, nid ≤ j → j < nid + nb → g.blk j = none := fun j h1 h2 => (hf j h1 (by omega)).1
    have hobf : ∀ j, nid ≤ j → j < nid + nb → S'.obj j = none := by
      intro j h1 h2
      cases hx : S'.obj j with
      | none => rfl
      | some ps => obtain ⟨b, q1, _⟩ := hI.objs j ps hx; rw [hfb j h1 h2] at q1; cases q1
    have hβf : ∀ j ∈ β, ¬ (nid ≤ j ∧ j < nid + nb) := fun j hj h => hβS j hj (by rw [← hb j hj]; exact hobf j h.1 h.2)
    let β' := β ++ upto nid nb
    have hβ'd : β' = β ++ upto nid nb := rfl
    have hβ'n : β'.Nodup := List.nodup_append.2 ⟨hβn, upto_nodup, fun a ha b hb' e => by subst e; rw [mem_upto] at hb'; exact hβf a ha hb'⟩
    have hβ' : β'.length = (bs'.map fun cs => cs.map (PV.back1 β nid bs.length)).length := by rw [hβ'd, List.length_append, upto_length, List.length_map, hβ]; omega
    have hgb1 : ∀ j, nid ≤ j ∧ j < nid + nb → gn.blk j = g'.blk (j - nid + bs.length) := fun j h => by show (if _ then _ else _) = _; rw [if_pos h]
    have hgb2 : ∀ j, ¬ (nid ≤ j ∧ j < nid + nb) → gn.blk j = g.blk j := fun j h => by show (if _ then _ else _) = _; rw [if_neg h]
    have hβi : ∀ (i id : Nat), β'[i]? = some id → (i < bs.length ∧ β[i]? = some id) ∨ (bs.length ≤ i ∧ i < bs'.length ∧ id = nid + (i - bs.length)) := by
      intro i id hi
      by_cases hil : i < β.length
      · rw [hβ'd, List.getElem?_append_left hil] at hi; exact .inl ⟨by omega, hi⟩
      · rw [hβ'd, List.getElem?_append_right (by omega)] at hi
        have hlt := (List.getElem?_eq_some_iff.1 hi).1
        rw [upto_length] at hlt
        rw [upto_get hlt] at hi
        cases hi
        exact .inr ⟨by omega, by omega, by rw [hβ]⟩
    have hbk : ∀ (i id : Nat), β'[i]? = some id → gn.blk id = g'.blk i := by
      intro i id hi
      rcases hβi i id hi with ⟨h1, h2⟩ | ⟨h1, h2, rfl⟩
      · rw [hgb2 id (hβf id (List.mem_of_getElem? h2)), hblk i h1]
        simp [gc, Gh.to, h2]
      · rw [hgb1 _ ⟨by omega, by omega⟩]
        congr 1
        omega
    have hobjn : ∀ id, (S'.app δ).obj id = (lko δ.wr id).getD (S'.obj id) := fun id => by simp only [PS.obj, PS.app, lkp_append]
    have hobj1 : ∀ (i id : Nat), β'[i]? = some id → ∃ cs, bs'[i]? = some cs ∧ (S'.app δ).obj id = some (cs.map (PV.back1 β nid bs.length)) := by
      intro i id hi
      have hil : i < bs'.length := by rcases hβi i id hi with ⟨h, _⟩ | ⟨_, h, _⟩ <;> omega
      refine ⟨bs'[i], by simp [hil], ?_⟩
      rw [hobjn, (zipB_lko β' _ id hβ' hβ'n).1 i hi, List.getElem?_map, List.getElem?_eq_getElem hil]
      rfl
    have hobj2 : ∀ id, id ∉ β' → (S'.app δ).obj id = S'.obj id := by
      intro id h
      rw [hobjn, (zipB_lko β' _ id hβ' hβ'n).2 h]; rfl
    have hbk2 : ∀ i, i < bs.length + nb → gn.blk (bkI β nid bs.length i) = g'.blk i := by
      intro i hi
      unfold bkI
      by_cases hil : i < β.length
      · rw [List.getElem?_eq_getElem hil]
        exact hbk i β[i] (by rw [hβ'd, List.getElem?_append_left hil, List.getElem?_eq_getElem hil])
      · rw [List.getElem?_eq_none (by omega)]
        simp only
        rw [hgb1 _ ⟨by omega, by omega⟩]
        congr 1
        omega
    have htk2 : ∀ k, k < nt' → gn.tok (nid + k) = g'.tok k := by
      intro k hk
      show (if nid ≤ nid + k ∧ nid + k < nid + nt' then g'.tok (nid + k - nid) else _) = _
      rw [if_pos ⟨by omega, by omega⟩, show nid + k - nid = k by omega]
    have hobjne : ∀ id, (S'.app δ).obj id ≠ none → S'.obj id ≠ none ∨ ∃ i, bs.length ≤ i ∧ i < bs'.length ∧ id = nid + (i - bs.length) := by
      intro id h
      by_cases hm : id ∈ β'
      · obtain ⟨i, hi⟩ := List.mem_iff_getElem?.1 hm
        rcases hβi i id hi with ⟨h1, h2⟩ | ⟨h1, h2, h3⟩
        · have hm' := List.mem_of_getElem? h2
          exact .inl (by rw [hb id hm']; exact hβS id hm')
        · exact .inr ⟨i, h1, h2, h3⟩
      · rw [hobj2 id hm] at h; exact .inl h
    have hold : ∀ id, S'.obj id ≠ none → gn.blk id = g.blk id := fun id h => hgb2 id (fun c => h (hobf id c.1 c.2))
    have hnewb : ∀ i, bs.length ≤ i → i < bs'.length → ∀ b, gn.blk (nid + (i - bs.length)) = some b → w.heap.size ≤ b ∧ g'.blk i = some b := by
      intro i h1 h2 b hbb
      rw [hgb1 _ ⟨by omega, by omega⟩, show nid + (i - bs.length) - nid + bs.length = i by omega] at hbb
      obtain ⟨b', q1, q2⟩ := hnew i h1 h2
      rw [hbb] at q1; cases q1
      exact ⟨q2, hbb⟩
    have hlvn : ∀ k, (S'.app δ).lv k = true → (nid ≤ k ∧ k < nid + nt') ∨ (¬ (nid ≤ k ∧ k < nid + nt') ∧ k ∉ τ ∧ S'.lv k = true) := by
      intro k h
      simp only [PS.lv, PS.app, lkp_append] at h
      rw [show δ.tk = newToks nid nt' ++ τ.map fun k => (k, false) from rfl, lko_append, newToks_lko, dead_lko] at h
      by_cases c : nid ≤ k ∧ k < nid + nt'
      · exact .inl c
      · rw [if_neg c] at h
        by_cases m : k ∈ τ
        · simp [m] at h
        · simp [m] at h; exact .inr ⟨c, m, h⟩
    have htokn1 : ∀ k, nid ≤ k ∧ k < nid + nt' → gn.tok k = g'.tok (k - nid) := fun k h => by show (if _ then _ else _) = _; rw [if_pos h]
    have htokn2 : ∀ k, ¬ (nid ≤ k ∧ k < nid + nt') → gn.tok k = g.tok k := fun k h => by show (if _ then _ else _) = _; rw [if_neg h]
    have ownC : ∀ b o, Own gc (st0 bs nt) b o → (∃ j ∈ β, g.blk j = some b) ∨ (∃ k ∈ τ, ∃ lo hi, g.tok k = some (b, lo, hi) ∧ 0 < hi ∧ lo ≤ o ∧ o ≤ hi) ∨ g.h.j b ≠ none := by
      intro b o h
      rcases h with ⟨i, h1, h2⟩ | ⟨k, lo, hi, h1, h2, h3⟩ | hjn
      · simp only [gc, Gh.to] at h2
        cases hj : β[i]? with
        | none => rw [hj] at h2; cases h2
        | some j => rw [hj] at h2; exact .inl ⟨j, List.mem_of_getElem? hj, h2⟩
      · simp only [gc, Gh.to] at h2
        cases hj : τ[k]? with
        | none => rw [hj] at h2; cases h2
        | some j => rw [hj] at h2; exact .inr (.inl ⟨j, List.mem_of_getElem? hj, lo, hi, h2, h3⟩)
      · exact .inr (.inr hjn)
    have ownS : ∀ b o, Own gc (st0 bs nt) b o → Own g S' b o := by
      intro b o h
      rcases ownC b o h with ⟨j, h1, h2⟩ | ⟨k, h1, lo, hi, h2, h3⟩ | hjn
      · exact .inl ⟨j, by rw [hb j h1]; exact hβS j h1, h2⟩
      · exact .inr (.inl ⟨k, lo, hi, hlv' k h1, h2, h3⟩)
      · exact .inr (.inr hjn)
    have hblkne : ∀ id, S'.obj id ≠ none → id ∉ β → ∀ b, g.blk id = some b → ∀ o, ¬ Own gc (st0 bs nt) b o := by
      intro id hid hm b hbk o h
      rcases ownC b o h with ⟨j, h1, h2⟩ | ⟨k, h1, lo, hi, h2, h3, h4⟩ | hjn
      rotate_right
      · obtain ⟨m, hjn⟩ := Option.ne_none_iff_exists'.1 hjn
        exact hI.jnk_obj hid hbk hjn
      · have := hI.inj id j b hid (by rw [hb j h1]; exact hβS j h1) hbk h2
        subst this; exact hm h1
      · obtain ⟨b', lo', hi', q1, q2⟩ := hI.toks k (hlv' k h1)
        rw [h2] at q1; cases q1
        exact (q2 (by omega)).2.2 id hid hbk
    have hjnk : ∀ b m, gn.h.j b = some m → (∃ vals T fr, w'.heap[b]? = some (.cells vals T fr) ∧ FrOk fr vals.size ∧ vals.size = m ∧ ∀ (i : Nat) (v : Value), vals[i]? = some v → v.oneCell' = true) ∧
        (∀ o, gn.h b o = none) ∧ (∀ id, (S'.app δ).obj id ≠ none → gn.blk id ≠ some b) ∧ ∀ k lo hi, (S'.app δ).lv k = true → gn.tok k = some (b, lo, hi) → hi = 0 := by
      intro b m hj
      obtain ⟨j1, j2, j3, j4⟩ := hI'.jnk b m hj
      have hj' : g'.h.j b ≠ none := by rw [show g'.h.j b = some m from hj]; simp
      refine ⟨j1, j2, fun id hid hbk' => ?_, fun k lo hi hk hkt => ?_⟩
      · by_cases hm : id ∈ β'
        · obtain ⟨i, hi⟩ := List.mem_iff_getElem?.1 hm
          obtain ⟨cs, h1, _⟩ := hobj1 i id hi
          exact j3 i (by rw [st0_obj, h1]; simp) ((hbk i id hi).symm.trans hbk')
        · have hid' : S'.obj id ≠ none := by rw [hobj2 id hm] at hid; exact hid
          have hbk2 : g.blk id = some b := (hold id hid').symm.trans hbk'
          exact hblkne id hid' (fun h => hm (List.mem_append_left _ h)) b hbk2 0 (hE.own b 0 (hI.obj_lt hid' hbk2) (.inr (.inr hj')))
      · rcases hlvn k hk with c | ⟨c, hm, hl⟩
        · rw [htokn1 k c] at hkt
          exact j4 (k - nid) lo hi (by rw [st0_lv]; simp; omega) hkt
        · rw [htokn2 k c] at hkt
          rcases Nat.eq_zero_or_pos hi with e | e
          · exact e
          exfalso
          rcases ownC b (hi + 1) (hE.own b (hi + 1) (hI.tok_lt hl hkt e) (.inr (.inr hj'))) with ⟨j, g1, g2⟩ | ⟨k2, g1, lo2, hi2, g2, g3, g4⟩ | hjn
          · obtain ⟨b2, l2, u2, t1, t2⟩ := hI.toks k hl
            rw [hkt] at t1; cases t1
            exact (t2 e).2.2 j (by rw [hb j g1]; exact hβS j g1) g2
          · rcases hI.tokd k k2 b lo hi lo2 hi2 hl (hlv' k2 g1) (fun e => hm (e ▸ g1)) hkt g2 with h0 | h0 <;> omega
          · obtain ⟨m', hjn⟩ := Option.ne_none_iff_exists'.1 hjn
            exact hI.jnk_tok hl hkt e hjn
    have hInvN : InvW gn (S'.app δ) w' := by
      refine ⟨hI'.hw, ?_, ?_, ?_, ?_, hjnk, hI'.tys, hI'.gl⟩
      · intro id ps hp
        by_cases hm : id ∈ β'
        · obtain ⟨i, hi⟩ := List.mem_iff_getElem?.1 hm
          obtain ⟨cs, h1, h2⟩ := hobj1 i id hi
          rw [h2] at hp; cases hp
          obtain ⟨b, q1, qo, q6⟩ := hI'.objs i cs (by rw [st0_obj]; exact h1)
          refine ⟨b, (hbk i id hi).trans q1, ?_, q6⟩
          rcases qo with ⟨vals, T, fr, q2, qf, q3, q4, q5⟩ | ⟨es, ents, c, hds, q2, q3⟩ | ⟨cur, es, p0, p1, hds, e1, e2, q3⟩
          rotate_left
          · exact .inr (.inl ⟨es, ents, c, hds.elim (fun h => .inl (by rw [h]; rfl)) (fun h => .inr (by rw [h]; rfl)), q2, q3⟩)
          · refine .inr (.inr ⟨cur, es, PV.back1 β nid bs.length p0, PV.back1 β nid bs.length p1, by rw [hds]; rfl, ?_, ?_, q3⟩)
            · rcases e1 with rfl | rfl
              · exact .inr rfl
              · exact .inr rfl
            · rcases e2 with rfl | rfl
              · exact .inl rfl
              · exact .inr rfl
          refine .inl ⟨vals, T, fr, q2, qf, by rw [List.length_map]; exact q3, q4, ?_⟩
          intro m v p hv hp
          rw [List.getElem?_map] at hp
          cases hx : cs[m]? with
          | none => rw [hx] at hp; cases hp
          | some x =>
            rw [hx] at hp; cases hp
            exact back1_rel (g' := g') (gn := gn) rfl rfl hbk2 htk2 (q5 m v x hv hx) (hbs cs (List.mem_of_getElem? h1) x (List.mem_of_getElem? hx))
        · rw [hobj2 id hm] at hp
          obtain ⟨b, q1, q2, q6⟩ := hI.objs id ps hp
          have hne := hblkne id (by simp [hp]) (fun h => hm (List.mem_append_left _ h)) b q1
          have hlt := q2.lt
          refine ⟨b, (hold id (by simp [hp])).trans q1, ?_, ?_⟩
          · rw [(hE.keep b hlt).eq hne]
            have hle : g.h.le gn.h := hE.le
            refine q2.mono (g' := gn) ⟨hle, fun j bb hj => ?_, fun k r hk => ?_, hE.ty⟩
            · rw [hgb2 j (fun c => by rw [hfb j c.1 c.2] at hj; cases hj)]; exact hj
            · rw [htokn2 k (fun c => by have := (hf k c.1 (by omega)).2; rw [this] at hk; cases hk)]
              exact hk
          · intro o
            cases hx : g'.h b o with
            | none => exact hx
            | some v =>
              rcases hE.new b o v hx with h | h | h
              · have : g.h b o = some v := h
                rw [q6] at this; cases this
              · omega
              · exact absurd h (hne o)
      · intro id id' b h1 h2 h3 h4
        rcases hobjne id h1 with o1 | ⟨i, a1, a2, rfl⟩ <;> rcases hobjne id' h2 with o2 | ⟨i', a1', a2', rfl⟩
        · rw [hold id o1] at h3; rw [hold id' o2] at h4
          exact hI.inj id id' b o1 o2 h3 h4
        · rw [hold id o1] at h3
          have := hI.obj_lt o1 h3
          have := (hnewb i' a1' a2' b h4).1
          omega
        · rw [hold id' o2] at h4
          have := hI.obj_lt o2 h4
          have := (hnewb i a1 a2 b h3).1
          omega
        · have e1 := (hnewb i a1 a2 b h3).2
          have e2 := (hnewb i' a1' a2' b h4).2
          have := hI'.inj i i' b (by rw [st0_obj]; simp; omega) (by rw [st0_obj]; simp; omega) e1 e2
          subst this; rfl
      · intro k hk
        rcases hlvn k hk with c | ⟨c, hm, hl⟩
        · obtain ⟨b, lo, hi, q1, q2⟩ := hI'.toks (k - nid) (by rw [st0_lv]; simp; omega)
          refine ⟨b, lo, hi, by rw [htokn1 k c]; exact q1, fun hlt => ?_⟩
          obtain ⟨q3, q4, q5⟩ := q2 hlt
          refine ⟨q3, q4, fun id hid hbk' => ?_⟩
          by_cases hm : id ∈ β'
          · obtain ⟨i, hi'⟩ := List.mem_iff_getElem?.1 hm
            obtain ⟨cs, h1, _⟩ := hobj1 i id hi'
            exact q5 i (by rw [st0_obj, h1]; simp) ((hbk i id hi').symm.trans hbk')
          · have hid' : S'.obj id ≠ none := by rw [hobj2 id hm] at hid; exact hid
            have hbk2 : g.blk id = some b := (hold id hid').symm.trans hbk'
            have hlt' := hI.obj_lt hid' hbk2
            have hown : Own g' (st0 bs' nt') b lo := .inr (.inl ⟨k - nid, lo, hi, by rw [st0_lv]; simp; omega, q1, hlt, Nat.le_refl _, (by obtain ⟨_, _, _, _, _, _, h⟩ := q3; exact h)⟩)
            exact hblkne id hid' (fun h => hm (List.mem_append_left _ h)) b hbk2 lo (hE.own b lo hlt' hown)
        · obtain ⟨b, lo, hi, q1, q2⟩ := hI.toks k hl
          refine ⟨b, lo, hi, by rw [htokn2 k c]; exact q1, fun hlt => ?_⟩
          obtain ⟨⟨vals, T, fr, q3, q3'⟩, q4, q5⟩ := q2 hlt
          have hno : ∀ o, ¬ Own gc (st0 bs nt) b o := by
            intro o h
            rcases ownC b o h with ⟨j, g1, g2⟩ | ⟨k', g1, lo', hi', g2, g3, g4⟩ | hjn
            rotate_right
            · obtain ⟨m, hjn⟩ := Option.ne_none_iff_exists'.1 hjn
              exact hI.jnk_tok hl q1 hlt hjn
            · exact q5 j (by rw [hb j g1]; exact hβS j g1) g2
            · rcases hI.tokd k k' b lo hi lo' hi' hl (hlv' k' g1) (fun e => hm (e ▸ g1)) q1 g2 with h0 | h0 <;> omega
          refine ⟨?_, ?_, fun id hid hbk' => ?_⟩
          · exact ⟨vals, T, fr, by rw [(hE.keep b (lt_of_heap q3)).eq hno]; exact q3, q3'⟩
          · intro o h1 h2
            cases hx : g'.h b o with
            | none => exact hx
            | some v =>
              rcases hE.new b o v hx with h | h | h
              · have : g.h b o = some v := h
                rw [q4 o h1 h2] at this; cases this
              · have := lt_of_heap q3; omega
              · exact absurd h (hno o)
          · rcases hobjne id hid with o1 | ⟨i, a1, a2, rfl⟩
            · exact q5 id o1 ((hold id o1).symm.trans hbk')
            · have := (hnewb i a1 a2 b hbk').1
              have := lt_of_heap q3
              omega
      · intro k k' b lo hi lo' hi' h1 h2 hne h3 h4
        have mixed : ∀ k k' lo hi lo' hi', (nid ≤ k ∧ k < nid + nt') → ¬ (nid ≤ k' ∧ k' < nid + nt') → k' ∉ τ → S'.lv k' = true → gn.tok k = some (b, lo, hi) → gn.tok k' = some (b, lo', hi') →
            hi = 0 ∨ hi' = 0 := by
          intro k k' lo hi lo' hi' c c' hm hl e1 e2
          rw [htokn1 k c] at e1; rw [htokn2 k' c'] at e2
          rcases Nat.eq_zero_or_pos hi with a1 | a1
          · exact .inl a1
          rcases Nat.eq_zero_or_pos hi' with a2 | a2
          · exact .inr a2
          exfalso
          have hlt := hI.tok_lt hl e2 a2
          obtain ⟨b1, l1, u1, t1, t2⟩ := hI'.toks (k - nid) (by rw [st0_lv]; simp; omega)
          rw [e1] at t1; cases t1
          obtain ⟨⟨_, _, _, _, _, _, hlh⟩, _⟩ := t2 a1
          have hown : Own g' (st0 bs' nt') b lo := .inr (.inl ⟨k - nid, lo, hi, by rw [st0_lv]; simp; omega, e1, a1, Nat.le_refl _, hlh⟩)
          rcases ownC b lo (hE.own b lo hlt hown) with ⟨j, g1, g2⟩ | ⟨k2, g1, lo2, hi2, g2, g3, g4⟩ | hjn
          rotate_right
          · obtain ⟨m, hjn⟩ := Option.ne_none_iff_exists'.1 hjn
            exact hI.jnk_tok hl e2 a2 hjn
          · obtain ⟨b2, l2, u2, t1, t2⟩ := hI.toks k' hl
            rw [e2] at t1; cases t1
            exact (t2 (by omega)).2.2 j (by rw [hb j g1]; exact hβS j g1) g2
          · rcases hI.tokd k' k2 b lo' hi' lo2 hi2 hl (hlv' k2 g1) (fun e => hm (e ▸ g1)) e2 g2 with h0 | h0 <;> omega
        rcases hlvn k h1 with c | ⟨c, hm, hl⟩ <;> rcases hlvn k' h2 with c' | ⟨c', hm', hl'⟩
        · rw [htokn1 k c] at h3; rw [htokn1 k' c'] at h4
          exact hI'.tokd (k - nid) (k' - nid) b lo hi lo' hi' (by rw [st0_lv]; simp; omega) (by rw [st0_lv]; simp; omega) (by omega) h3 h4
        · exact mixed k k' lo hi lo' hi' c c' hm' hl' h3 h4
        · exact (mixed k' k lo' hi' lo hi c' c hm hl h4 h3).symm
        · rw [htokn2 k c] at h3; rw [htokn2 k' c'] at h4
          exact hI.tokd k k' b lo hi lo' hi' hl hl' hne h3 h4
    have hExt : Ext g S' w gn (S'.app δ) w' := by
      refine ⟨⟨hE.le, fun j bb hj => ?_, fun k rr hk => ?_, hE.ty⟩, ?_, ?_, hE.size, fun b hb' => (hE.keep b hb').mono (fun o h => ownS b o h), hE.os, hE.tape, hE.output⟩
      · rw [hgb2 j (fun c => by rw [hfb j c.1 c.2] at hj; cases hj)]; exact hj
      · rw [htokn2 k (fun c => by have := (hf k c.1 (by omega)).2; rw [this] at hk; cases hk)]
        exact hk
      · intro b o v h
        exact (hE.new b o v h).imp id (Or.imp id (ownS b o))
      · intro b o hlt h
        rcases h with ⟨id, h1, h2⟩ | ⟨k, lo, hi, h1, h2, h3, h4⟩ | hjn
        rotate_right
        · exact ownS b o (hE.own b o hlt (.inr (.inr hjn)))
        · rcases hobjne id h1 with o1 | ⟨i, a1, a2, rfl⟩
          · exact .inl ⟨id, o1, (hold id o1).symm.trans h2⟩
          · have := (hnewb i a1 a2 b h2).1
            omega
        · rcases hlvn k h1 with c | ⟨c, hm, hl⟩
          · rw [htokn1 k c] at h2
            exact ownS b o (hE.own b o hlt (.inr (.inl ⟨k - nid, lo, hi, by rw [st0_lv]; simp; omega, h2, h3, h4⟩)))
          · rw [htokn2 k c] at h2
            exact .inr (.inl ⟨k, lo, hi, hl, h2, h3, h4⟩)
    refine hn v gn w' hInvN hExt ?_ (back_rel (g' := g') (gn := gn) rfl rfl hbk2 htk2 hrel hr)
    intro j hj hfj
    exact ⟨by rw [hgb2 j (by omega)]; exact hfj.1, by rw [htokn2 j (by omega)]; exact hfj.2⟩

end Go.Pv
