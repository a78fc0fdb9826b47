/- Abstract values: the equations by which code is reckoned. Nothing of any program. -/
import Derived.Test.YtbjeagcnakdmnaaPvR
set_option linter.unusedSimpArgs false
set_option linter.unusedVariables false
set_option linter.unusedSectionVars false
namespace Go.Pv
variable [GTab]
theorem wrap_i64_id {n : Int} (h1 : -9223372036854775808 ≤ n) (h2 : n ≤ 9223372036854775807) : IntKind.i64.wrap n = n := by
  simp only [IntKind.wrap, IntKind.signed, IntKind.bits, IntKind.max, IntKind.min]
  simp
  omega
theorem wrap_u8_id {n : Int} (h1 : 0 ≤ n) (h2 : n ≤ 255) : IntKind.u8.wrap n = n := by
  simp only [IntKind.wrap, IntKind.signed, IntKind.bits, IntKind.max, IntKind.min]
  simp
  omega
section
variable {P : Program} {m : Nat} {Q : Post} {S : PS}

def seqC (P : Program) (m : Nat) (y : Code) (Q : Post) : Post := seqK (VC P m y) Q
def condC (P : Program) (m : Nat) (x y : Code) (Q : Post) (S : PS) (p : PV) : Prop := condE P m (VC P m x) (VC P m y) Q S p
def loopC (P : Program) (m : Nat) (x : Code) (Q : Post) (S : PS) : Prop := ∃ n, loopN P m (VC P m x) Q n S
def blkC (i : Nat) (Q : Post) : Post := blkK i Q
def regD (draw : Bool) (ops : Array Oper) (nid0 : Nat) (Q : Post) (S : PS) (trs : List Tr) : Prop := regDone draw ops nid0 Q S trs

theorem VC_skip : VC P m .skip Q S = Q .normal S := rfl
theorem VC_exit {i} : VC P m (.exit i) Q S = Q (.exit i) S := rfl
theorem VC_ret : VC P m .ret Q S = Q .ret S := rfl
theorem VC_seq {x y} : VC P m (.seq x y) Q S = VC P m x (seqC P m y Q) S := rfl
theorem VC_cond {c x y} : VC P m (.cond c x y) Q S = condC P m x y Q S (S.ev c) := rfl
theorem VC_block {i x} : VC P m (.block i x) Q S = VC P m x (blkC i Q) S := rfl
theorem VC_loop {x} : VC P m (.loop x) Q S = loopC P m x Q S := rfl
theorem VC_region {id ops d} : VC P m (.region id ops d) Q S = regV P ops.toList d Q S (regE P S.nxt ops.toList ops.toList 0 S (regD d ops S.nxt Q) []) := rfl

theorem seqC_normal {y} : seqC P m y Q .normal S = VC P m y Q S := rfl
theorem seqC_exit {y i} : seqC P m y Q (.exit i) S = Q (.exit i) S := rfl
theorem seqC_ret {y} : seqC P m y Q .ret S = Q .ret S := rfl
theorem blkC_normal {i} : blkC i Q .normal S = Q .normal S := rfl
theorem blkC_exit {i j} : blkC i Q (.exit j) S = if j = i then Q .normal S else Q (.exit j) S := rfl
theorem blkC_ret {i} : blkC i Q .ret S = Q .ret S := rfl
theorem loopK_normal {α : Type} {I : α → PS} {μ : α → Nat} {a : α} : loopK m I μ a Q .normal S = ∃ a', μ a' < μ a ∧ Wk m S (I a') := rfl
theorem loopK_exit {α : Type} {I : α → PS} {μ : α → Nat} {a : α} {i} : loopK m I μ a Q (.exit i) S = Q (.exit i) S := rfl
theorem loopK_ret {α : Type} {I : α → PS} {μ : α → Nat} {a : α} : loopK m I μ a Q .ret S = Q .ret S := rfl
theorem retQ_ret {rs bs' nt' r} : retQ P m rs bs' nt' r .ret S = endK P m rs bs' nt' r S := rfl

theorem regD_false {ops nid0 trs} : regD false ops nid0 Q S trs = Q .normal { S with nxt := nid0 + 4 * ops.toList.length } := by
  unfold regD regDone
  simp
/-- A region that draws its order: the check stands alone. -/
def drawOk (ops : Array Oper) (trs : List Tr) : Prop := (edgesBack ops.toList && drawOkB ops.toList (Region.before ops) trs) = true
theorem regD_true {ops nid0 trs} : regD true ops nid0 Q S trs = (drawOk ops trs ∧ Q .normal { S with nxt := nid0 + 4 * ops.toList.length }) := by
  unfold regD regDone drawOk
  simp

theorem condC_true {x y} : condC P m x y Q S (.bool true) = VC P m x Q S := by
  unfold condC condE
  apply propext
  constructor
  · rintro ⟨b, h, h1, _⟩; cases h; exact h1 rfl
  · exact fun h => ⟨true, rfl, ⟨fun _ => h, fun e => (Bool.noConfusion e)⟩⟩
theorem condC_false {x y} : condC P m x y Q S (.bool false) = VC P m y Q S := by
  unfold condC condE
  apply propext
  constructor
  · rintro ⟨b, h, _, h1⟩; cases h; exact h1 rfl
  · exact fun h => ⟨false, rfl, ⟨fun e => (Bool.noConfusion e), fun _ => h⟩⟩
theorem condC_split {x y b} (ht : b = true → VC P m x Q S) (hf : b = false → VC P m y Q S) : condC P m x y Q S (.bool b) := ⟨b, rfl, ht, hf⟩

theorem loopC_of {x} {α : Type} (I : α → PS) (μ : α → Nat) (a0 : α) (h0 : Wk m S (I a0)) (hr : ∀ a, VC P m x (loopK m I μ a Q) (I a)) : loopC P m x Q S := ⟨0, α, I, μ, a0, h0, hr⟩
def unC (P : Program) (m : Nat) (x : Code) (n : Nat) (Q : Post) : Post := unK (loopN P m (VC P m x) Q n) Q
def loopU (P : Program) (m : Nat) (x : Code) (n : Nat) (Q : Post) (S : PS) : Prop := loopN P m (VC P m x) Q n S
/-- The first n rounds one by one. -/
theorem loopC_un {x} (n : Nat) (h : loopU P m x n Q S) : loopC P m x Q S := ⟨n, h⟩
theorem loopU_succ {x n} : loopU P m x (n + 1) Q S = VC P m x (unC P m x n Q) S := rfl
theorem unC_normal {x n} : unC P m x n Q .normal S = loopU P m x n Q S := rfl
theorem unC_exit {x n i} : unC P m x n Q (.exit i) S = Q (.exit i) S := rfl
theorem unC_ret {x n} : unC P m x n Q .ret S = Q .ret S := rfl

/-- A call, by its contract: β, τ name the boxes and tokens that the callee is handed. -/
theorem callE_box {nid : Nat} {o : Oper} {K : Dl → Prop} {fo : Operand} {as : Array Operand} {ts : Array TypeId} {f : FuncId} {caps : List PV}
    {bs bs' : List (List PV)} {nt nt' : Nat} {args : List PV} {r : PV} (hS : Fsp P f bs nt args bs' nt' r) (β τ : List Nat)
    (hop : o.op = .call { callee := .value fo, args := as, argTypes := ts }) (hfo : S.ev fo = .fn f caps) (hβ : β.length = bs.length) (hβn : nodupB β = true) (hτ : τ.length = nt) (hτn : nodupB τ = true)
    (hboxes : ∀ (i j : Nat) (cs : List PV), β[i]? = some j → bs[i]? = some cs → ∃ ds, S.obj j = some ds ∧ wkL (cellOK β τ) ds cs)
    (htoks : ∀ k ∈ τ, S.lv k = true)
    (hargs : wkL (argOK β τ) (as.toList.map (fun x => (S.ev x).un) ++ caps) args)
    (hnt : nt' ≤ 4) (hnb : bs'.length ≤ bs.length + 4) (hr : tokLt nt' bs.length (bs'.length - bs.length) r = true) (hbs : ∀ cs ∈ bs', ∀ p ∈ cs, tokLt1 nt' bs.length (bs'.length - bs.length) p = true) {c : Bool} (hcnd : c = true → cndAll S as.toList = true)
    (hg : gdOk c o { p := r.back β nid bs.length, wr := zipB (β ++ upto nid (bs'.length - bs.length)) (bs'.map fun cs => cs.map (PV.back1 β nid bs.length)), tk := newToks nid nt' ++ τ.map fun k => (k, false), rdB := β, rdT := τ, ok := True } = true)
    (hK : K { p := r.back β nid bs.length, wr := zipB (β ++ upto nid (bs'.length - bs.length)) (bs'.map fun cs => cs.map (PV.back1 β nid bs.length)), tk := newToks nid nt' ++ τ.map fun k => (k, false), rdB := β, rdT := τ, ok := True }) : callE P nid c o S K := by
  refine ⟨_, fun hc => ?_, hg, hK⟩
  obtain ⟨hal, hargs⟩ := wkL_get hargs
  have hfo' : (S.ev fo).un = .fn f caps := by rw [hfo]; rfl
  have h := call_trip (P := P) (nid := nid) (ins := fun x => (S.ev x).un) (S := S) (ok := True) (o := o) hop hfo' hS β τ hβ (nodupB_spec hβn) hτ (nodupB_spec hτn)
    (fun i j cs h1 h2 => by obtain ⟨ds, q1, q2⟩ := hboxes i j cs h1 h2; obtain ⟨q3, q4⟩ := wkL_get q2; exact ⟨ds, q1, q3, q4⟩) htoks (by rw [← hal]; simp) hargs hnt hnb hr
    hbs (fun j hj => by
      obtain ⟨i, hi⟩ := List.mem_iff_getElem?.1 hj
      have hil : i < bs.length := by rw [← hβ]; exact (List.getElem?_eq_some_iff.1 hi).1
      obtain ⟨ds, q1, _⟩ := hboxes i j bs[i] hi (by simp [hil])
      rw [q1]; simp)
  intro g S' a w next Q hI ho hb ht hf hn
  refine h g S' a w next Q hI (fun x hx => ?_) hb ht hf hn
  refine (ho x hx).un ?_
  have hx' : x = fo ∨ x ∈ as := by
    have := hx
    simp only [hop, Op.operands, Call.operands] at this
    simpa using this
  rcases hx' with rfl | hx'
  · rw [hfo]; rfl
  · exact List.all_eq_true.1 (hcnd hc) x (by simpa using hx')

/-- A pure call, that may tell of new boxes. -/
theorem callE_new {nid : Nat} {o : Oper} {K : Dl → Prop} {fo : Operand} {as : Array Operand} {ts : Array TypeId} {f : FuncId} {bs' : List (List PV)} {args : List PV} {nt' : Nat} {r : PV} (hS : Fsp P f [] 0 args bs' nt' r)
    (hop : o.op = .call { callee := .value fo, args := as, argTypes := ts }) (hfo : S.ev fo = .fn f []) (hargs : as.toList.map (fun x => (S.ev x).un.el) = args)
    (hnt : nt' ≤ 4) (hnb : bs'.length ≤ 4) (hr : tokLt nt' 0 bs'.length r = true) (hbs : ∀ cs ∈ bs', ∀ p ∈ cs, tokLt1 nt' 0 bs'.length p = true) {c : Bool} (hcnd : c = true → cndAll S as.toList = true)
    (hg : gdOk c o { p := r.back [] nid 0, wr := zipB (upto nid bs'.length) (bs'.map fun cs => cs.map (PV.back1 [] nid 0)), tk := newToks nid nt', ok := True } = true)
    (hK : K { p := r.back [] nid 0, wr := zipB (upto nid bs'.length) (bs'.map fun cs => cs.map (PV.back1 [] nid 0)), tk := newToks nid nt', ok := True }) : callE P nid c o S K := by
  have happ : newToks nid nt' ++ ([] : List Nat).map (fun k => (k, false)) = newToks nid nt' := by simp
  have hd : ({ p := r.back [] nid ([] : List (List PV)).length, wr := zipB ([] ++ upto nid (bs'.length - ([] : List (List PV)).length)) (bs'.map fun cs => cs.map (PV.back1 [] nid ([] : List (List PV)).length)), tk := newToks nid nt' ++ ([] : List Nat).map fun k => (k, false), rdB := [], rdT := [], ok := True } : Dl) =
      { p := r.back [] nid 0, wr := zipB (upto nid bs'.length) (bs'.map fun cs => cs.map (PV.back1 [] nid 0)), tk := newToks nid nt', ok := True } := by rw [happ]; rfl
  refine callE_box (bs := []) (nt := 0) hS [] [] hop hfo rfl rfl rfl rfl (by simp) (by simp) ?_ hnt (by simpa using hnb) hr hbs hcnd (by rw [hd]; exact hg) (by rw [hd]; exact hK)
  have key : ∀ (l : List Operand), wkL (argOK [] []) (l.map fun x => (S.ev x).un) (l.map fun x => (S.ev x).un.el) := by
    intro l
    induction l with
    | nil => trivial
    | cons x l ih => exact ⟨.inr (.inl rfl), ih⟩
  rw [List.append_nil, ← hargs]
  exact key _

/-- A pure call. -/
theorem callE_pure {nid : Nat} {o : Oper} {K : Dl → Prop} {fo : Operand} {as : Array Operand} {ts : Array TypeId} {f : FuncId} {args : List PV} {nt' : Nat} {r : PV} (hS : Fsp P f [] 0 args [] nt' r)
    (hop : o.op = .call { callee := .value fo, args := as, argTypes := ts }) (hfo : S.ev fo = .fn f []) (hargs : as.toList.map (fun x => (S.ev x).un.el) = args)
    (hnt : nt' ≤ 4) (hr : tokLt nt' 0 0 r = true) {c : Bool} (hcnd : c = true → cndAll S as.toList = true) (hg : gdOk c o { p := r.back [] nid 0, tk := newToks nid nt', ok := True } = true)
    (hK : K { p := r.back [] nid 0, tk := newToks nid nt', ok := True }) : callE P nid c o S K :=
  callE_new hS hop hfo hargs hnt (by simp) hr (by simp) hcnd hg hK

/-- What a function tells, reckoned. -/
def resOf (P : Program) (S : PS) (rs : List ResultVar) : PV := match resPV P S rs with | some l => one' l | none => .any

theorem endK_pure {rs r} : endK P 0 rs [] 0 r S = (resOk P S rs ∧ (resPV P S rs).isSome = true ∧ res3 [] [] (resOf P S rs) r) := by
  apply propext
  unfold endK resOf
  constructor
  · rintro ⟨τ, γ, h1, h2, h3, g1, g2, g3, h4, ⟨l, h5, h6⟩, h7⟩
    have : τ = [] := List.eq_nil_of_length_eq_zero h1
    subst this
    have : γ = [] := List.eq_nil_of_length_eq_zero g1
    subst this
    rw [h5]
    exact ⟨h4, rfl, h6⟩
  · rintro ⟨h1, h2, h3⟩
    cases hl : resPV P S rs with
    | none => rw [hl] at h2; cases h2
    | some l =>
      rw [hl] at h3
      exact ⟨[], [], rfl, rfl, by simp, rfl, rfl, fun i h => by omega, h1, ⟨l, rfl, h3⟩, fun i j ps h => by simp at h⟩

/-- .. with tokens, named by τ. -/
theorem endK_toks {rs r nt'} (τ : List Nat) (h1 : τ.length = nt') (h2 : nodupB τ = true) (h3 : (τ.all fun k => S.lv k) = true) (h : resOk P S rs ∧ (resPV P S rs).isSome = true ∧ res3 τ [] (resOf P S rs) r) : endK P 0 rs [] nt' r S := by
  obtain ⟨h4, h5, h6⟩ := h
  cases hl : resPV P S rs with
  | none => rw [hl] at h5; cases h5
  | some l =>
    unfold resOf at h6
    rw [hl] at h6
    exact ⟨τ, [], h1, h2, fun k hk => List.all_eq_true.1 h3 k hk, rfl, rfl, fun i h => by omega, h4, ⟨l, hl, h6⟩, fun i j ps h => by simp at h⟩

/-- .. over boxes, named by γ. -/
theorem endK_box {rs r nt' bs'} (τ γ : List Nat) (h1 : τ.length = nt') (h2 : nodupB τ = true) (h3 : (τ.all fun k => S.lv k) = true) (g1 : γ.length = bs'.length) (g2 : nodupB γ = true) (g3 : (upto 0 m).all (fun i => γ[i]? == some i) = true)
    (hw : ∀ (i j : Nat) (ps : List PV), γ[i]? = some j → bs'[i]? = some ps → ∃ qs, S.obj j = some qs ∧ wkL (res1 τ γ) qs ps)
    (h : resOk P S rs ∧ (resPV P S rs).isSome = true ∧ res3 τ γ (resOf P S rs) r) : endK P m rs bs' nt' r S := by
  obtain ⟨h4, h5, h6⟩ := h
  cases hl : resPV P S rs with
  | none => rw [hl] at h5; cases h5
  | some l =>
    unfold resOf at h6
    rw [hl] at h6
    refine ⟨τ, γ, h1, h2, fun k hk => List.all_eq_true.1 h3 k hk, g1, g2, fun i hi => ?_, h4, ⟨l, hl, h6⟩, hw⟩
    have := List.all_eq_true.1 g3 i (by rw [mem_upto]; omega)
    simpa using this
end

/-! ### A new box that is never written again -/
def chunk (sz : Nat) : Nat → List PV → List PV
  | 0, _ => []
  | n + 1, ps => (if sz = 1 then (ps.getD 0 .any).weak else .agg ((ps.take sz).map PV.weak)) :: chunk sz n (ps.drop sz)
theorem chunk_length {sz : Nat} : ∀ {n : Nat} {ps : List PV}, (chunk sz n ps).length = n
  | 0, _ => rfl
  | n + 1, ps => by simp [chunk, chunk_length]
theorem weak_cells (p : PV) : p.weak.cells = [p.weak] := by
  cases p <;> try rfl
  rename_i l; cases l <;> rfl
theorem chunk_size {sz : Nat} : ∀ {n : Nat} {ps : List PV}, n * sz ≤ ps.length → ∀ p ∈ chunk sz n ps, p.cells.length = sz
  | 0, _, _, p, h => by cases h
  | n + 1, ps, hl, p, h => by
    rw [Nat.add_mul] at hl
    simp only [chunk, List.mem_cons] at h
    rcases h with rfl | h
    · split
      · rename_i e; rw [weak_cells, e]; rfl
      · show ((ps.take sz).map PV.weak).length = sz
        simp; omega
    · exact chunk_size (by simp; omega) p h
theorem chunk_flat {sz : Nat} : ∀ {n : Nat} {ps : List PV}, n * sz ≤ ps.length → (chunk sz n ps).flatMap PV.cells = (ps.take (n * sz)).map PV.weak
  | 0, ps, _ => by simp [chunk]
  | n + 1, ps, hl => by
    rw [Nat.add_mul, Nat.one_mul] at hl ⊢
    simp only [chunk, List.flatMap_cons]
    rw [chunk_flat (by simp; omega)]
    have hh : (if sz = 1 then (ps.getD 0 .any).weak else .agg ((ps.take sz).map PV.weak)).cells = (ps.take sz).map PV.weak := by
      split
      · rename_i e
        subst e
        rw [weak_cells]
        cases ps with
        | nil => simp at hl
        | cons x xs => simp
      · rfl
    rw [hh, ← List.map_append]
    congr 1
    rw [Nat.add_comm, List.take_add]

def slOr (sz : Nat) (es : List PV) : PV :=
  match es with
  | [] => .sln sz []
  | es => .sl sz es
def frz1 (m : Nat) (ps : List PV) : PV → PV
  | .slb i off n sz => if i = m then (if off + n * sz ≤ ps.length then slOr sz (chunk sz n (ps.drop off)) else .any) else .slb i off n sz
  | .slg i n sz => if i = m then (if n * sz ≤ ps.length then slOr sz (chunk sz n ps) else .any) else .slg i n sz
  | .box i off => if i = m then .loc ((ps.drop off).map PV.weak) else .box i off
  | p => p
def frz2 (m : Nat) (ps : List PV) : PV → PV
  | .agg qs => .agg (qs.map (frz1 m ps))
  | p => frz1 m ps p
def frz3 (m : Nat) (ps : List PV) : PV → PV
  | .tup qs => .tup (qs.map (frz2 m ps))
  | p => frz2 m ps p

structure Frz (g g' : Gh) (m b : Nat) (vals : Array Value) (ps : List PV) : Prop where
  le : g.le g'
  blk : g.blk m = some b
  len : ps.length ≤ vals.size
  h : ∀ (o : Nat) (v : Value), o < ps.length → vals[o]? = some v → g'.h b o = some v
  one : ∀ (o : Nat) (v : Value), vals[o]? = some v → v.oneCell' = true
  rel : ∀ (o : Nat) (v : Value) (p : PV), vals[o]? = some v → ps[o]? = some p → PRel g'.h v p.weak

theorem frz1_rel {g g' : Gh} {m b : Nat} {vals : Array Value} {ps : List PV} (hz : Frz g g' m b vals ps) {v : Value} {p : PV} (r : Rel g v p) : Rel g' v (frz1 m ps p) := by
  have get : ∀ o, o < ps.length → vals[o]? = some (vals.getD o undef) := by
    intro o ho
    have : o < vals.size := Nat.lt_of_lt_of_le ho hz.len
    simp [this]
  unfold frz1
  split
  · rename_i i off n sz
    split
    · rename_i e
      subst e
      obtain ⟨b', cap, h1, rfl, h2, h3⟩ := r.slb_inv
      rw [hz.blk] at h1; cases h1
      split
      · rename_i hl
        have hl' : n * sz ≤ (ps.drop off).length := by simp; omega
        have hfl : ((chunk sz n (ps.drop off)).flatMap PV.cells).length = n * sz := by rw [chunk_flat hl']; simp; omega
        have key : PRel g'.h (.slice (some ⟨b, off, none⟩) n cap) (.sl sz (chunk sz n (ps.drop off))) := by
          refine .sl b off n cap sz _ (fun i => vals.getD (off + i) undef) chunk_length.symm h2 h3 (chunk_size hl') ?_ ?_ ?_
          · intro i hi
            rw [hfl] at hi
            exact hz.h (off + i) _ (by omega) (get _ (by omega))
          · intro i hi
            rw [hfl] at hi
            exact hz.one (off + i) _ (get _ (by omega))
          · intro i p hp
            rw [chunk_flat hl', List.getElem?_map] at hp
            cases hx : ((ps.drop off).take (n * sz))[i]? with
            | none => rw [hx] at hp; cases hp
            | some q =>
              rw [hx] at hp; cases hp
              have hi := (List.getElem?_eq_some_iff.1 hx).1
              simp only [List.length_take, List.length_drop] at hi
              rw [List.getElem?_take, if_pos (by omega), List.getElem?_drop] at hx
              exact hz.rel (off + i) _ q (get _ (by omega)) hx
        unfold slOr
        split
        · rename_i e2; rw [e2] at key; exact .pure _ _ (.sln _ _ _ _ _ _ key)
        · exact .pure _ _ key
      · exact .pure _ _ (.any _)
    · exact r.mono hz.le
  · rename_i i n sz
    split
    · rename_i e
      subst e
      obtain ⟨b', cap, T, m', h1, rfl, h2, h3, h4, h5⟩ := r.slg_inv
      rw [hz.blk] at h1; cases h1
      split
      · rename_i hl
        have hl' : n * sz ≤ ps.length := by omega
        have hfl : ((chunk sz n ps).flatMap PV.cells).length = n * sz := by rw [chunk_flat hl']; simp; omega
        have key : PRel g'.h (.slice (some ⟨b, 0, none⟩) n cap) (.sl sz (chunk sz n ps)) := by
          refine .sl b 0 n cap sz _ (fun i => vals.getD i undef) chunk_length.symm h2 h3 (chunk_size hl') ?_ ?_ ?_
          · intro i hi
            rw [hfl] at hi
            rw [Nat.zero_add]
            exact hz.h i _ (by omega) (get _ (by omega))
          · intro i hi
            rw [hfl] at hi
            exact hz.one i _ (get _ (by omega))
          · intro i p hp
            rw [chunk_flat hl', List.getElem?_map] at hp
            cases hx : (ps.take (n * sz))[i]? with
            | none => rw [hx] at hp; cases hp
            | some q =>
              rw [hx] at hp; cases hp
              have hi := (List.getElem?_eq_some_iff.1 hx).1
              simp only [List.length_take] at hi
              rw [List.getElem?_take, if_pos (by omega)] at hx
              exact hz.rel i _ q (get _ (by omega)) hx
        unfold slOr
        split
        · rename_i e2; rw [e2] at key; exact .pure _ _ (.sln _ _ _ _ _ _ key)
        · exact .pure _ _ key
      · exact .pure _ _ (.any _)
    · exact r.mono hz.le
  · rename_i i off
    split
    · rename_i e
      subst e
      obtain ⟨b', h1, rfl⟩ := r.box_inv
      rw [hz.blk] at h1; cases h1
      refine .pure _ _ (.loc b off _ (fun i => vals.getD (off + i) undef) ?_ ?_ ?_)
      · intro i hi
        simp only [List.length_map, List.length_drop] at hi
        exact hz.h (off + i) _ (by omega) (get _ (by omega))
      · intro i hi
        simp only [List.length_map, List.length_drop] at hi
        exact hz.one (off + i) _ (get _ (by omega))
      · intro i p hp
        rw [List.getElem?_map, List.getElem?_drop] at hp
        cases hx : ps[off + i]? with
        | none => rw [hx] at hp; cases hp
        | some q =>
          rw [hx] at hp; cases hp
          exact hz.rel (off + i) _ q (get _ (List.getElem?_eq_some_iff.1 hx).1) hx
    · exact r.mono hz.le
  · exact r.mono hz.le

theorem frz1_no {g g' : Gh} (hle : g.le g') {m b : Nat} (hb : g.blk m = some b) (ht : g.ty b = none) {ps : List PV} {v : Value} {p : PV} (r : Rel g v p) : Rel g' v (frz1 m ps p) := by
  unfold frz1
  split
  · split
    · rename_i e; subst e; exact absurd ht (r.slb_ty hb)
    · exact r.mono hle
  · split
    · rename_i e
      subst e
      obtain ⟨b', cap, T, m', h1, -, -, -, h4, -⟩ := r.slg_inv
      rw [hb] at h1; cases h1
      rw [ht] at h4; cases h4
    · exact r.mono hle
  · split
    · rename_i e; subst e; exact absurd ht (r.box_ty hb)
    · exact r.mono hle
  · exact r.mono hle
/-- A map's reference, as it is from now on. -/
def frm1 (m : Nat) (es : List (PV × PV)) : PV → PV
  | .mref i => if i = m then .mpure es else .mref i
  | p => p
theorem frm1_rel {g g' : Gh} (hle : g.le g') {m b : Nat} (hb : g.blk m = some b) {es : List (PV × PV)} (hm : PRel g'.h (.map (some b)) (.mpure es)) {v : Value} {p : PV} (r : Rel g v p) : Rel g' v (frm1 m es p) := by
  unfold frm1
  split
  · split
    · rename_i e
      subst e
      obtain ⟨b', h1, rfl⟩ := r.mref_inv
      rw [hb] at h1; cases h1
      exact .pure _ _ hm
    · exact r.mono hle
  · exact r.mono hle
/-- In all parts. -/
def deep2 (f : PV → PV) : PV → PV
  | .agg qs => .agg (qs.map f)
  | p => f p
def deep3 (f : PV → PV) : PV → PV
  | .tup qs => .tup (qs.map (deep2 f))
  | p => deep2 f p
theorem deep2_rel {g g' : Gh} {f : PV → PV} (hf : ∀ {v : Value} {p : PV}, Rel g v p → Rel g' v (f p)) {v : Value} {p : PV} (r : Rel g v p) : Rel g' v (deep2 f p) := by
  unfold deep2
  split
  · obtain ⟨vs, rfl, hn, ho, hp⟩ := r.agg_inv
    refine .agg vs _ (by simp [hn]) ho ?_
    intro i v q hv hq
    rw [List.getElem?_map] at hq
    rename_i qs
    cases hx : qs[i]? with
    | none => rw [hx] at hq; cases hq
    | some x => rw [hx] at hq; cases hq; exact hf (hp i v x hv hx)
  · exact hf r
theorem deep3_rel {g g' : Gh} {f : PV → PV} (hf : ∀ {v : Value} {p : PV}, Rel g v p → Rel g' v (f p)) {v : Value} {p : PV} (r : Rel g v p) : Rel g' v (deep3 f p) := by
  unfold deep3
  split
  · obtain ⟨vs, rfl, hn, hp⟩ := r.tup_inv
    refine .tup vs _ (by simp [hn]) ?_
    intro i v q hv hq
    rw [List.getElem?_map] at hq
    rename_i qs
    cases hx : qs[i]? with
    | none => rw [hx] at hq; cases hq
    | some x => rw [hx] at hq; cases hq; exact deep2_rel hf (hp i v x hv hx)
  · exact deep2_rel hf r
theorem frz3_deep (m : Nat) (ps : List PV) (p : PV) : frz3 m ps p = deep3 (frz1 m ps) p := by
  have h2 : ∀ p, frz2 m ps p = deep2 (frz1 m ps) p := fun p => by cases p <;> rfl
  unfold frz3 deep3
  split
  · exact congrArg PV.tup (List.map_congr_left fun q _ => h2 q)
  · exact h2 _

/-- The last new box, left as it is from now on. -/
theorem Fsp.freezeG {P : Program} {f : FuncId} {bs : List (List PV)} {nt : Nat} {args : List PV} {bs' : List (List PV)} {ps : List PV} {nt' : Nat} {r : PV} (F : PV → PV) (h : Fsp P f bs nt args (bs' ++ [ps]) nt' r) (hm : bs.length ≤ bs'.length)
    (hF : ∀ (g' : Gh) (w' : World) (b : Nat), InvW g' (st0 (bs' ++ [ps]) nt') w' → g'.blk bs'.length = some b → (∀ o, g'.h b o = none) →
      ∃ h2 : HMap, HMap.le g'.h h2 ∧ h2.j = g'.h.j ∧ (∀ c o, c ≠ b → h2 c o = g'.h c o) ∧ (∀ o v, h2 b o = some v → wcell w' b o = some v) ∧ ∀ {v : Value} {p : PV}, Rel g' v p → Rel { g' with h := h2 } v (F p)) :
    Fsp P f bs nt args bs' nt' (deep3 F r) where
  len := hm
  fn := h.fn
  calls := by
    intro g w vs hI hgb hgt hsz hargs
    refine (h.calls g w vs hI hgb hgt hsz hargs).mono ?_
    rintro e w' ⟨v, g', rfl, hI', hE, hblk, hnew, hrel⟩
    have hob : (st0 (bs' ++ [ps]) nt').obj bs'.length = some ps := by rw [st0_obj]; simp
    obtain ⟨b, q1, _, q6⟩ := hI'.objs _ ps hob
    have hbnew : w.heap.size ≤ b := by
      obtain ⟨b', t1, t2⟩ := hnew bs'.length hm (by simp)
      rw [q1] at t1; cases t1; exact t2
    obtain ⟨h2, hle, hjj, hoth, hin, hrl⟩ := hF g' w' b hI' q1 q6
    let g2 : Gh := { g' with h := h2 }
    have hle2 : g'.le g2 := ⟨hle, fun _ _ h => h, fun _ _ h => h, fun _ _ h => h⟩
    have hobs : ∀ i qs, (st0 bs' nt').obj i = some qs → (st0 (bs' ++ [ps]) nt').obj i = some qs ∧ i ≠ bs'.length := by
      intro i qs hi
      rw [st0_obj] at hi ⊢
      have := (List.getElem?_eq_some_iff.1 hi).1
      exact ⟨(List.getElem?_append_left this).trans hi, by omega⟩
    have hobn : ∀ i, (st0 bs' nt').obj i ≠ none → (st0 (bs' ++ [ps]) nt').obj i ≠ none ∧ i ≠ bs'.length := by
      intro i hi
      cases hx : (st0 bs' nt').obj i with
      | none => exact absurd hx hi
      | some qs => obtain ⟨a1, a2⟩ := hobs i qs hx; exact ⟨by simp [a1], a2⟩
    have hlv : ∀ k, (st0 bs' nt').lv k = (st0 (bs' ++ [ps]) nt').lv k := fun k => by rw [st0_lv, st0_lv]
    have hne : ∀ i, (st0 bs' nt').obj i ≠ none → ∀ c, g'.blk i = some c → c ≠ b := by
      intro i hi c hc e
      subst e
      obtain ⟨a1, a2⟩ := hobn i hi
      exact a2 (hI'.inj i bs'.length c a1 (by simp [hob]) hc q1)
    have hown : ∀ c o, Own g2 (st0 bs' nt') c o → Own g' (st0 (bs' ++ [ps]) nt') c o := by
      intro c o ho
      rcases ho with ⟨i, a1, a2⟩ | ⟨k, lo, hi, a1, a2⟩ | hjn
      · exact .inl ⟨i, (hobn i a1).1, a2⟩
      · exact .inr (.inl ⟨k, lo, hi, by rw [← hlv]; exact a1, a2⟩)
      · exact .inr (.inr (by rw [← hjj]; exact hjn))
    refine ⟨v, g2, rfl, ⟨?_, ?_, ?_, ?_, ?_, hI'.jnk_of (fun c m h => by rw [← hjj]; exact h) (fun _ _ _ => rfl) (fun c m o h => by rw [hoth c o (fun e => hI'.jnk_obj (by simp [hob]) q1 (by rw [← e]; exact h))]; exact (hI'.jnk c m h).2.1 o) (fun i c m _ hid hbk => ⟨(hobn i hid).1, hbk⟩) (fun k c m lo hi _ hk ht _ => ⟨by rw [← hlv]; exact hk, ht⟩), hI'.tys, hI'.glm hle⟩, ⟨HMap.le_trans hE.le hle, hE.ty, ?_, fun c o hc ho => hE.own c o hc (hown c o ho), hE.size, hE.keep, hE.os, hE.tape, hE.output⟩, hblk, fun i h1 h2 => hnew i h1 (by simp; omega), deep3_rel hrl hrel⟩
    · intro c o v hv
      by_cases e : c = b
      · subst e; exact hin o v hv
      · exact hI'.hw c o v (by rw [← hoth c o e]; exact hv)
    · intro i qs hi
      obtain ⟨a1, a2⟩ := hobs i qs hi
      obtain ⟨c, t1, t2, t6⟩ := hI'.objs i qs a1
      exact ⟨c, t1, t2.mono hle2, fun o => (hoth c o (hne i (by simp [hi]) c t1)).trans (t6 o)⟩
    · intro i i' c a1 a2 a3 a4
      exact hI'.inj i i' c (hobn i a1).1 (hobn i' a2).1 a3 a4
    · intro k hk
      rw [hlv] at hk
      obtain ⟨c, lo, hi, t1, t2⟩ := hI'.toks k hk
      refine ⟨c, lo, hi, t1, fun hl => ?_⟩
      obtain ⟨t3, t4, t5⟩ := t2 hl
      refine ⟨t3, fun o o1 o2 => ?_, fun i hi' => t5 i (hobn i hi').1⟩
      exact (hoth c o (fun e => t5 bs'.length (by simp [hob]) (by rw [e]; exact q1))).trans (t4 o o1 o2)
    · intro k k' c lo hi lo' hi' a1 a2
      rw [hlv] at a1 a2
      exact hI'.tokd k k' c lo hi lo' hi' a1 a2
    · intro c o v hv
      by_cases e : c = b
      · exact .inr (.inl (by rw [e]; exact hbnew))
      · exact hE.new c o v (by rw [← hoth c o e]; exact hv)

theorem Fsp.freeze {P : Program} {f : FuncId} {bs : List (List PV)} {nt : Nat} {args : List PV} {bs' : List (List PV)} {ps : List PV} {nt' : Nat} {r : PV} (h : Fsp P f bs nt args (bs' ++ [ps]) nt' r) (hm : bs.length ≤ bs'.length) :
    Fsp P f bs nt args bs' nt' (frz3 bs'.length ps r) := by
  rw [frz3_deep]
  refine h.freezeG (frz1 bs'.length ps) hm fun g' w' b hI' q1 q6 => ?_
  have hob : (st0 (bs' ++ [ps]) nt').obj bs'.length = some ps := by rw [st0_obj]; simp
  by_cases ht : g'.ty b = none
  · exact ⟨g'.h, HMap.le_refl _, rfl, fun _ _ _ => rfl, fun o v h => (by rw [q6] at h; cases h), fun r => frz1_no ⟨HMap.le_refl _, fun _ _ h => h, fun _ _ h => h, fun _ _ h => h⟩ q1 ht r⟩
  · obtain ⟨vals, T, fr, q2, _, q3, q4, q5, _⟩ := hI'.row hob q1 ht
    let h2 : HMap := { c := fun c o => if c = b ∧ o < ps.length then vals[o]? else g'.h c o, j := g'.h.j }
    have hle : HMap.le g'.h h2 := by
      refine ⟨fun c o v hv => ?_, fun _ _ h => h⟩
      show (if c = b ∧ o < ps.length then _ else _) = _
      rw [if_neg (fun e => by rw [e.1, q6] at hv; cases hv)]
      exact hv
    have hfz : Frz g' { g' with h := h2 } bs'.length b vals ps := by
      refine ⟨⟨hle, fun _ _ h => h, fun _ _ h => h, fun _ _ h => h⟩, q1, q3, fun o v ho hv => ?_, q4, fun o v p hv hp => (q5 o v p hv hp).weak.mono hle⟩
      show (if b = b ∧ o < ps.length then _ else _) = _
      rw [if_pos ⟨rfl, ho⟩]; exact hv
    refine ⟨h2, hle, rfl, fun c o e => if_neg (fun e' => e e'.1), fun o v hv => ?_, fun r => frz1_rel hfz r⟩
    have hv' : (if b = b ∧ o < ps.length then vals[o]? else g'.h b o) = some v := hv
    split at hv'
    · rw [wcell_cells q2]; exact one?_some hv' (q4 o v hv')
    · rw [q6] at hv'; cases hv'

/-- The last new map, left as it is from now on. -/
theorem Fsp.freezeM {P : Program} {f : FuncId} {bs : List (List PV)} {nt : Nat} {args : List PV} {bs' : List (List PV)} {es : List (PV × PV)} {nt' : Nat} {r : PV} (h : Fsp P f bs nt args (bs' ++ [[.mobj es]]) nt' r) (hm : bs.length ≤ bs'.length) :
    Fsp P f bs nt args bs' nt' (deep3 (frm1 bs'.length es) r) := by
  refine h.freezeG (frm1 bs'.length es) hm fun g' w' b hI' q1 q6 => ?_
  have hob : (st0 (bs' ++ [[.mobj es]]) nt').obj bs'.length = some [.mobj es] := by rw [st0_obj]; simp
  obtain ⟨ents, c, k1, k3, _⟩ := hI'.mapAt hob q1
  let h2 : HMap := { c := fun d o => if d = b ∧ o = 0 then some (encM ents c) else g'.h d o, j := g'.h.j }
  have hle : HMap.le g'.h h2 := by
    refine ⟨fun d o v hv => ?_, fun _ _ h => h⟩
    show (if d = b ∧ o = 0 then _ else _) = _
    rw [if_neg (fun e => by rw [e.1, q6] at hv; cases hv)]
    exact hv
  refine ⟨h2, hle, rfl, fun d o e => if_neg (fun e' => e e'.1), fun o v hv => ?_, fun r => frm1_rel (g' := { g' with h := h2 }) ⟨hle, fun _ _ h => h, fun _ _ h => h, fun _ _ h => h⟩ q1 ?_ r⟩
  · have hv' : (if b = b ∧ o = 0 then some (encM ents c) else g'.h b o) = some v := hv
    split at hv'
    · rename_i e; obtain ⟨_, rfl⟩ := e; cases hv'; exact wcell_map k1
    · rw [q6] at hv'; cases hv'
  · obtain ⟨hw, es', a, b', c', d, e⟩ := k3
    exact .mpure b ents c es es' (if_pos ⟨rfl, rfl⟩) hw a b' c' (fun i x q h1 h2 => (d i x q h1 h2).mono hle) (fun i x q h1 h2 => (e i x q h1 h2).mono hle)

end Go.Pv
