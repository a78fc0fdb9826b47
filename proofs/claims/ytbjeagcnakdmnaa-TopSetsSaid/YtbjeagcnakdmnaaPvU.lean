/- Abstract values: a function run to its end, by reckoning. Nothing of any program. -/
import Derived.Test.YtbjeagcnakdmnaaPvT
import Derived.Test.YtbjeagcnakdmnaaPvIs
set_option linter.unusedSimpArgs false
set_option linter.unusedVariables false
set_option linter.unusedSectionVars false
namespace Go.Pv
variable [GTab]

abbrev Cl := FuncId → List (List PV) → Nat → List PV → Option (List (List PV) × Nat × PV)
def Cl.Ok (P : Program) (cl : Cl) : Prop := ∀ f bs nt args bs' nt' r, cl f bs nt args = some (bs', nt', r) → Fsp P f bs nt args bs' nt' r
def noCl : Cl := fun _ _ _ _ => none
theorem noCl_ok (P : Program) : noCl.Ok P := fun _ _ _ _ _ _ _ h => by cases h

/-! ### Numbers in a row -/
def idx : List Nat → Nat → Option Nat
  | [], _ => none
  | x :: xs, k => if Nat.beq x k then some 0 else (match idx xs k with | some i => some (i + 1) | none => none)
theorem idx_get : ∀ {l : List Nat} {k i : Nat}, idx l k = some i → l[i]? = some k
  | [], _, _, h => by cases h
  | x :: xs, k, i, h => by
    unfold idx at h
    split at h
    · rename_i e; cases h; rw [Nat.beq_eq] at e; simp [e]
    · split at h
      · rename_i j hj; cases h; simpa using idx_get hj
      · cases h

def addN (l : List Nat) (x : Nat) : List Nat := match idx l x with | some _ => l | none => l ++ [x]

/-! ### Calls -/
def capR (β : List Nat) : PV → PV
  | .box j off => match idx β j with | some i => .box i off | none => .any
  | q => q.weak
theorem capR_ok (β : List Nat) (q : PV) : argB β q (capR β q) := by
  unfold capR
  split
  · rename_i j off
    split
    · rename_i i hi; exact .inl ⟨i, j, off, rfl, rfl, idx_get hi⟩
    · exact .inr rfl
  · exact .inr rfl
def argR (β τ : List Nat) : PV → PV
  | .box j off => match idx β j with | some i => .box i off | none => .any
  | .fn f qs => .fn f (qs.map (capR β))
  | .slt sz es k => match idx τ k with | some i => .slt sz es i | none => .sl sz es
  | .mref j => match idx β j with | some i => .mref i | none => .any
  | q => q.el
theorem argR_ok (β τ : List Nat) (q : PV) : argOK β τ q (argR β τ q) := by
  unfold argR
  split
  · rename_i j off
    split
    · rename_i i hi; exact .inl ⟨i, j, off, rfl, rfl, idx_get hi⟩
    · exact .inr (.inl rfl)
  · rename_i f qs
    refine .inr (.inr (.inr (.inl ⟨f, qs, _, rfl, rfl, by simp, fun i q p hq hp => ?_⟩)))
    rw [List.getElem?_map, hq] at hp
    cases hp
    exact capR_ok β q
  · split
    · rename_i i hi; exact .inr (.inr (.inl ⟨_, _, _, i, rfl, rfl, idx_get hi⟩))
    · exact .inr (.inl rfl)
  · split
    · rename_i i hi; exact .inr (.inr (.inr (.inr (.inl ⟨i, _, rfl, rfl, idx_get hi⟩))))
    · exact .inr (.inl rfl)
  · exact .inr (.inl rfl)
def cellR (β τ : List Nat) : PV → PV
  | .box j off => match idx β j with | some i => .box i off | none => .any
  | .slb j off n sz => match idx β j with | some i => .slb i off n sz | none => .any
  | .nbp T j => match idx β j with | some i => .nbp T i | none => .any
  | .bsl e es k => match idx τ k with | some i => .bsl e es i | none => .sl 1 es
  | .slt sz es k => match idx τ k with | some i => .slt sz es i | none => .sl sz es
  | .mref j => match idx β j with | some i => .mref i | none => .any
  | q => q.weak
theorem cellR_ok (β τ : List Nat) (q : PV) : cellOK β τ q (cellR β τ q) := by
  unfold cellR
  split
  · split
    · rename_i i hi; exact .inr (.inr (.inl ⟨i, _, _, rfl, rfl, idx_get hi⟩))
    · exact .inr (.inl rfl)
  · split
    · rename_i i hi; exact .inr (.inr (.inr (.inl ⟨i, _, _, _, _, rfl, rfl, idx_get hi⟩)))
    · exact .inr (.inl rfl)
  · split
    · rename_i i hi; exact .inr (.inr (.inr (.inr (.inl ⟨_, i, _, rfl, rfl, idx_get hi⟩))))
    · exact .inr (.inl rfl)
  · split
    · rename_i i hi; exact .inr (.inr (.inr (.inr (.inr (.inl ⟨_, _, _, i, rfl, rfl, idx_get hi⟩)))))
    · exact .inr (.inl rfl)
  · split
    · rename_i i hi; exact .inl ⟨_, _, _, i, rfl, rfl, idx_get hi⟩
    · exact .inr (.inl rfl)
  · split
    · rename_i i hi; exact .inr (.inr (.inr (.inr (.inr (.inr (.inl ⟨i, _, rfl, rfl, idx_get hi⟩))))))
    · exact .inr (.inl rfl)
  · exact .inr (.inl rfl)
theorem wkL_map {R : PV → PV → Prop} {f : PV → PV} (h : ∀ q, R q (f q)) : ∀ l, wkL R l (l.map f)
  | [] => trivial
  | q :: l => ⟨h q, wkL_map h l⟩

def boxesIn : List PV → List Nat → List Nat
  | [], acc => acc
  | .box i _ :: l, acc => boxesIn l (addN acc i)
  | _ :: l, acc => boxesIn l acc
def boxesOf : List PV → List Nat → List Nat
  | [], acc => acc
  | .box i _ :: l, acc => boxesOf l (addN acc i)
  | .fn _ qs :: l, acc => boxesOf l (boxesIn qs acc)
  | .mref i :: l, acc => boxesOf l (addN acc i)
  | _ :: l, acc => boxesOf l acc
def toksOf (S : PS) : List PV → List Nat → List Nat
  | [], acc => acc
  | .slt _ _ k :: l, acc => toksOf S l (match S.lv k with | true => addN acc k | false => acc)
  | .bsl _ _ k :: l, acc => toksOf S l (match S.lv k with | true => addN acc k | false => acc)
  | _ :: l, acc => toksOf S l acc
def objsOf (S : PS) : List Nat → Option (List (List PV))
  | [] => some []
  | i :: l =>
    match S.obj i, objsOf S l with
    | some x, some xs => some (x :: xs)
    | _, _ => none
theorem objsOf_get {S : PS} : ∀ {β : List Nat} {dss : List (List PV)}, objsOf S β = some dss → dss.length = β.length ∧ ∀ (i j : Nat), β[i]? = some j → ∃ ds, dss[i]? = some ds ∧ S.obj j = some ds
  | [], dss, h => by cases h; exact ⟨rfl, fun i j h => by simp at h⟩
  | b :: β, dss, h => by
    unfold objsOf at h
    split at h
    · rename_i x xs hx hxs
      cases h
      obtain ⟨h1, h2⟩ := objsOf_get hxs
      refine ⟨by simp [h1], fun i j hi => ?_⟩
      cases i with
      | zero => simp at hi; subst hi; exact ⟨x, rfl, hx⟩
      | succ i => obtain ⟨ds, q1, q2⟩ := h2 i j (by simpa using hi); exact ⟨ds, by simpa using q1, q2⟩
    · cases h
def toksOfAll (S : PS) : List (List PV) → List Nat → List Nat
  | [], acc => acc
  | ds :: l, acc => toksOfAll S l (toksOf S ds acc)

def callDl (nid m : Nat) (β τ : List Nat) (bs' : List (List PV)) (nt' : Nat) (r : PV) : Dl :=
  { p := r.back β nid m, wr := zipB (β ++ upto nid (bs'.length - m)) (bs'.map fun cs => cs.map (PV.back1 β nid m)), tk := newToks nid nt' ++ τ.map fun k => (k, false), rdB := β, rdT := τ, ok := True }

def callI1 (cl : Cl) (nid : Nat) (S : PS) (f : FuncId) (ins : List PV) (β : List Nat) (bs : List (List PV)) (τ : List Nat) : Option Dl :=
  match cl f bs τ.length (ins.map (argR β τ)) with
  | some (bs', nt', r) =>
    match nodupB β && nodupB τ && (τ.all fun k => S.lv k) && Nat.ble nt' 4 && Nat.ble bs'.length (bs.length + 4) && tokLt nt' bs.length (bs'.length - bs.length) r && (bs'.all fun cs => cs.all fun p => tokLt1 nt' bs.length (bs'.length - bs.length) p) with
    | true => some (callDl nid bs.length β τ bs' nt' r)
    | false => none
  | none => none
def callI3 (cl : Cl) (nid : Nat) (S : PS) (f : FuncId) (ins : List PV) (β : List Nat) (dss : List (List PV)) (τ : List Nat) : Option Dl := callI1 cl nid S f ins β (dss.map fun ds => ds.map (cellR β τ)) τ
def callI2 (cl : Cl) (nid : Nat) (S : PS) (f : FuncId) (ins : List PV) (β : List Nat) : Option Dl :=
  match objsOf S β with
  | some dss =>
    match callI3 cl nid S f ins β dss (toksOfAll S dss []) with
    | some δ => some δ
    | none => callI3 cl nid S f ins β dss (toksOfAll S dss (toksOf S ins []))
  | none => none
def callI (cl : Cl) (nid : Nat) (o : Oper) (S : PS) : Option Dl :=
  match o.op with
  | .call { callee := .value fo, args := as, argTypes := _ } =>
    match S.ev fo with
    | .fn f caps =>
      match cndAll S as.toList with
      | true =>
        let ins := as.toList.map (fun x => (S.ev x).un) ++ caps
        callI2 cl nid S f ins (boxesOf ins [])
      | false => none
    | _ => none
  | _ => none

theorem callI_ok {P : Program} {cl : Cl} (hcl : cl.Ok P) {nid : Nat} {o : Oper} {S : PS} {δ : Dl} (h : callI cl nid o S = some δ) : LTripR P nid o S δ := by
  unfold callI at h
  split at h
  · rename_i fo as ts hop
    split at h
    · rename_i f caps hfo
      split at h
      · rename_i hcnd
        generalize hins : as.toList.map (fun x => (S.ev x).un) ++ caps = ins at h
        simp only at h
        generalize boxesOf ins [] = β at h
        unfold callI2 at h
        split at h
        · rename_i dss hdss
          have key : ∀ τ, callI3 cl nid S f ins β dss τ = some δ → LTripR P nid o S δ := by
            intro τ h
            unfold callI3 at h
            have hdl : (dss.map fun ds => ds.map (cellR β τ)).length = dss.length := List.length_map ..
            generalize hbs : (dss.map fun ds => ds.map (cellR β τ)) = bs at h hdl
            unfold callI1 at h
            split at h
            · rename_i bs' nt' r hc
              split at h
              · rename_i hchk
                cases h
                simp only [Bool.and_eq_true, Nat.ble_eq, List.all_eq_true] at hchk
                obtain ⟨⟨⟨⟨⟨⟨h1, h2⟩, h3⟩, h4⟩, h4'⟩, h5⟩, h6⟩ := hchk
                obtain ⟨q1, q2⟩ := objsOf_get hdss
                have hFS := hcl _ _ _ _ _ _ _ hc
                obtain ⟨δ, t1, t2, t3⟩ := callE_box (K := fun δ => δ = callDl nid bs.length β τ bs' nt' r) (c := true) (S := S) (o := { o with guard := none }) (nid := nid) hFS β τ hop hfo (by rw [hdl, q1]) h1 rfl h2
                  (fun i j cs hi hcs => by
                    obtain ⟨ds, r1, r2⟩ := q2 i j hi
                    rw [← hbs, List.getElem?_map, r1] at hcs
                    cases hcs
                    exact ⟨ds, r2, wkL_map (cellR_ok β τ) ds⟩)
                  h3 (by rw [hins]; exact wkL_map (argR_ok β τ) ins) h4 h4' h5 h6 (fun _ => hcnd) rfl rfl
                subst t3
                have := t1 rfl
                exact fun g S' a w next Q => this g S' a w next Q
              · cases h
            · cases h
          split at h
          · rename_i δ' h1
            cases h
            exact key _ h1
          · exact key _ h
        · cases h
      · cases h
    · cases h
  · cases h

/-! ### A region -/
/-- What stands for an operation that is not run. -/
def dum : Dl := { p := .bool false, ok := False }

/-- In a flagged function slices are made as boxes. -/
def wbI (P : Program) (nid : Nat) (o : Oper) (S : PS) : Option Dl :=
  match o.op with
  | .buildSlice t 0 ⟨[]⟩ =>
    match tk P t with
    | .sl e =>
      match zc P e with
      | some zs => match Nat.blt 0 (tsz P e) && Nat.beq zs.length (tsz P e) with | true => some { p := .sl0 (tsz P e), tk := [(nid, true)], ok := True } | false => none
      | none => none
    | _ => none
  | .makeSlice t x y =>
    match S.ev x, S.ev y, tk P t with
    | .int _ n, .int _ c, .sl e =>
      match zc P e with
      | some zs =>
        match Nat.blt 0 (tsz P e) && Nat.beq zs.length (tsz P e) && Nat.blt 0 n.toNat && le0 n && le0 (c - n) && le0 (281474976710656 - (tby P e : Int) * c) && le0 (9223372036854775807 - c) with
        | true => some { p := .slb nid 0 n.toNat (tsz P e), wr := [(nid, some (List.replicate c.toNat zs).flatten)], ok := True }
        | false => none
      | none => none
    | _, _, _ => none
  | _ => none
theorem wbI_ok {P : Program} {nid : Nat} {o : Oper} {S : PS} {δ : Dl} (h : wbI P nid o S = some δ) : LTripR P nid o S δ := by
  unfold wbI at h
  split at h
  · rename_i t hop
    split at h
    · rename_i e ht
      split at h
      · rename_i zs hz
        split at h
        · rename_i hc
          cases h
          simp only [Bool.and_eq_true, Nat.blt_eq, Nat.beq_eq] at hc
          exact buildSlice0 hop rfl ht rfl hc.1 hz hc.2
        · cases h
      · cases h
    · cases h
  · rename_i t x y hop
    split at h
    · rename_i k n k' c e hx hy ht
      split at h
      · rename_i zs hz
        split at h
        · rename_i hc
          cases h
          simp only [Bool.and_eq_true, Nat.blt_eq, Nat.beq_eq] at hc
          obtain ⟨⟨⟨⟨⟨⟨h1, h2⟩, h3⟩, h4⟩, h5⟩, h6⟩, h7⟩ := hc
          have h5 := le0_le h5
          have h6 := le0_le h6
          have h7 := le0_le h7
          exact makeSlice_box hop hx hy ht rfl h1 hz h2 (le0_le h4) (by omega) (by omega) (by omega)
        · cases h
      · cases h
    · cases h
  · cases h

def dI1 (P : Program) (cl : Cl) (nid : Nat) (o : Oper) (S : PS) : Option Dl :=
  match isCallV o.op with
  | true => callI cl nid o S
  | false => match okStep P nid o S with | true => some (stepD P nid o S) | false => none
theorem dI1_ok {P : Program} {cl : Cl} (hcl : cl.Ok P) {nid : Nat} {o : Oper} {S : PS} {δ : Dl} (h : dI1 P cl nid o S = some δ) : LTripR P nid o S δ := by
  unfold dI1 at h
  split at h
  · exact callI_ok hcl h
  · split at h
    · rename_i hk; cases h; exact stepD_sound (okStep_ok hk)
    · cases h

def dI (P : Program) (cl : Cl) (wb : Bool) (nid : Nat) (o : Oper) (S : PS) : Option Dl :=
  match wb with
  | true => match wbI P nid o S with | some δ => some δ | none => dI1 P cl nid o S
  | false => dI1 P cl nid o S
theorem dI_ok {P : Program} {cl : Cl} (hcl : cl.Ok P) {wb : Bool} {nid : Nat} {o : Oper} {S : PS} {δ : Dl} (h : dI P cl wb nid o S = some δ) : LTripR P nid o S δ := by
  unfold dI at h
  split at h
  · split at h
    · rename_i hw; cases h; exact wbI_ok hw
    · exact dI1_ok hcl h
  · exact dI1_ok hcl h

def regI (P : Program) (cl : Cl) (wb : Bool) (nid0 : Nat) (full : List Oper) : List Oper → Nat → PS → Option (PS × List Tr)
  | [], _, S => some (S, [])
  | o :: os, i, S =>
    match gcond full S o with
    | none => none
    | some false =>
      match dstOk o S.n with
      | true => match regI P cl wb nid0 full os (i + 1) (S.put o false dum) with | some (S', trs) => some (S', Tr.of dum :: trs) | none => none
      | false => none
    | some true =>
      match dI P cl wb (nid0 + 4 * i) o S with
      | some δ =>
        match dstOk o S.n with
        | true => match regI P cl wb nid0 full os (i + 1) (S.put o true δ) with | some (S', trs) => some (S', Tr.of δ :: trs) | none => none
        | false => none
      | none => none

theorem dstOk_lt {o : Oper} {n : Nat} (h : dstOk o n = true) : ∀ d, o.dst = some d → d < n := by
  intro d e
  unfold dstOk at h
  rw [e] at h
  simpa using h
theorem regI_chain {P : Program} {cl : Cl} (hcl : cl.Ok P) {wb : Bool} {nid0 : Nat} {full : List Oper} : ∀ {os : List Oper} {i : Nat} {S S' : PS} {trs : List Tr}, regI P cl wb nid0 full os i S = some (S', trs) →
    ∃ L, Chain P nid0 full os i S L S' ∧ L.map (fun x => Tr.of x.δ) = trs
  | [], i, S, S', trs, h => by cases h; exact ⟨[], .nil i S, rfl⟩
  | o :: os, i, S, S', trs, h => by
    unfold regI at h
    split at h
    · cases h
    · rename_i hg
      split at h
      · rename_i hd
        split at h
        · rename_i S₁ trs₁ hr
          cases h
          obtain ⟨L, h1, h2⟩ := regI_chain hcl hr
          exact ⟨⟨S, false, dum⟩ :: L, .cons o os i S false dum L S' hg (fun e => by cases e) (fun _ => ⟨rfl, rfl⟩) (dstOk_lt hd) h1, by simp [h2]⟩
        · cases h
      · cases h
    · rename_i hg
      split at h
      · rename_i δ hδ
        split at h
        · rename_i hd
          split at h
          · rename_i S₁ trs₁ hr
            cases h
            obtain ⟨L, h1, h2⟩ := regI_chain hcl hr
            exact ⟨⟨S, true, δ⟩ :: L, .cons o os i S true δ L S' hg (fun _ => dI_ok hcl hδ) (fun e => by cases e) (dstOk_lt hd) h1, by simp [h2]⟩
          · cases h
        · cases h
      · cases h

/-! ### Code -/
def hasK : List Nat → Nat → Bool
  | [], _ => false
  | x :: xs, k => if Nat.beq x k then true else hasK xs k
theorem hasK_iff : ∀ {l : List Nat} {k : Nat}, hasK l k = true ↔ k ∈ l
  | [], k => by simp [hasK]
  | x :: xs, k => by
    unfold hasK
    by_cases e : x = k
    · simp [e, Nat.beq_refl]
    · have : Nat.beq x k = false := by cases hb : Nat.beq x k with | false => rfl | true => exact absurd (Nat.eq_of_beq_eq_true hb) e
      simp [this, hasK_iff, Ne.symm e, e]
/-- Each place once. -/
def tidyL {α : Type} : List Nat → List (Nat × α) → List (Nat × α)
  | _, [] => []
  | seen, (k, x) :: l => match hasK seen k with | true => tidyL seen l | false => (k, x) :: tidyL (k :: seen) l
theorem tidyL_lkp {α : Type} (d : α) : ∀ (l : List (Nat × α)) (seen : List Nat) (t : Nat), t ∉ seen → lkp d (tidyL seen l) t = lkp d l t
  | [], seen, t, h => rfl
  | (k, x) :: l, seen, t, h => by
    unfold tidyL
    split
    · rename_i hk
      have : k ≠ t := fun e => h (by rw [← e]; exact hasK_iff.1 hk)
      rw [tidyL_lkp d l seen t h]
      simp [lkp, this]
    · by_cases e : k = t
      · simp [lkp, e]
      · simp only [lkp, if_neg e]
        exact tidyL_lkp d l (k :: seen) t (by simp [h, Ne.symm e])
def PS.tidy (S : PS) : PS := { n := S.n, env := tidyL [] S.env, objs := tidyL [] S.objs, live := tidyL [] S.live, nxt := S.nxt }
theorem PS.tidy_same (S : PS) : S.same S.tidy := by
  intro l
  cases l with
  | t i => exact congrArg SV.pv (tidyL_lkp _ S.env [] i (by simp)).symm
  | b i => exact congrArg SV.ob (tidyL_lkp _ S.objs [] i (by simp)).symm
  | k i => exact congrArg SV.lv (tidyL_lkp _ S.live [] i (by simp)).symm
theorem Wk.tidy (m : Nat) (S : PS) : Wk m S S.tidy := by
  intro g tmps w hI hF hp
  have hs := S.tidy_same
  exact ⟨g, ⟨InvW.same hs hI.w, fun t => (by rw [← hs.get t]; exact hI.env t), hI.size⟩, hF, ⟨(Ext.same (Ext.refl g S w) (fun _ => rfl) hs).toW, fun _ _ => rfl⟩⟩

def lpI (f : PS → Option (Exit × PS)) : Nat → PS → Option (Exit × PS)
  | 0, _ => none
  | n + 1, S =>
    match f S with
    | some (.normal, S') => lpI f n S'.tidy
    | r => r

def regD' (ops : Array Oper) (d : Bool) (trs : List Tr) : Bool :=
  match d with
  | true => edgesBack ops.toList && drawOkB ops.toList (Region.before ops) trs
  | false => true

/-- A number, reckoned ahead of what wants it. -/
def forceN {α : Type} (n : Nat) (k : Nat → α) : α :=
  match n with
  | 0 => k 0
  | m + 1 => k (m + 1)
theorem forceN_eq {α : Type} (n : Nat) (k : Nat → α) : forceN n k = k n := by cases n <;> rfl
def PS.fix (S : PS) (x : Nat) : PS := forceN S.n fun n' => forceN x fun x' => { n := n', env := S.env, objs := S.objs, live := S.live, nxt := x' }
theorem PS.fix_eq (S : PS) (x : Nat) : S.fix x = { S with nxt := x } := by simp only [PS.fix, forceN_eq]

/-! ### The code of an iterator -/
def lpY (f : PS → Option Code → Option (Exit × PS × Option Code)) : Nat → PS → Option Code → Option (Exit × PS × Option Code)
  | 0, _, _ => none
  | n + 1, S, pe =>
    match f S pe with
    | some (.normal, S', pe') => lpY f n S'.tidy pe'
    | r => r
/-- A call of the loop's yield: where its result goes, and what it is given. -/
def yAt (K : Yc) (full : List Oper) (S : PS) (o : Oper) : Option (Nat × List PV) :=
  match o.op, gcond full S o, o.dst with
  | .call { callee := .value fo, args := as, argTypes := _ }, some true, some d =>
    match (S.ev fo).un with
    | .yld y => match Nat.beq y K.y && (S.ev fo).cnd && cndAll S as.toList && Nat.beq as.toList.length K.ps.toList.length && Nat.blt d S.n with
      | true => some (d, as.toList.map fun x => (S.ev x).un)
      | false => none
    | _ => none
  | _, _, _ => none
def regYI (P : Program) (cl : Cl) (wb : Bool) (K : Yc) (rnd : PS → Option (Exit × PS)) (full : List Oper) : List Oper → Nat → Nat → PS → Option Code → Option (PS × Option Code × Nat)
  | [], i, nid0, S, pe => some (S, pe, nid0 + 4 * i)
  | o :: os, i, nid0, S, pe =>
    match yAt K full S o with
    | some (d, qs) =>
      match pe with
      | some _ => none
      | none =>
        match rnd (ybeg K S qs (nid0 + 4 * i)) with
        | some (.normal, S3) => regYI P cl wb K rnd full os (i + 1) S3.nxt (yst K S d true S3) none
        | some (.exit j, S3) => regYI P cl wb K rnd full os (i + 1) S3.nxt (yst K S d false S3) (some (.exit j))
        | some (.ret, S3) => regYI P cl wb K rnd full os (i + 1) S3.nxt (yst K S d false S3) (some .ret)
        | _ => none
    | none =>
      match gcond full S o with
      | none => none
      | some false =>
        match dstOk o S.n with
        | true => regYI P cl wb K rnd full os (i + 1) nid0 (S.put o false dum) pe
        | false => none
      | some true =>
        match dI P cl wb (nid0 + 4 * i) o S with
        | some δ =>
          match dstOk o S.n with
          | true => regYI P cl wb K rnd full os (i + 1) nid0 (S.put o true δ) pe
          | false => none
        | none => none
/-- The first place from which on all come last. -/
def splP (ops : Array Oper) : Nat → Nat → Nat
  | p, 0 => p
  | p, f + 1 => match splitB ops p with | true => p | false => splP ops (p + 1) f
def splI (P : Program) (cl : Cl) (wb : Bool) (K : Yc) (rnd : PS → Option (Exit × PS)) (ops : Array Oper) (p : Nat) (S : PS) (pe : Option Code) : Option (Exit × PS × Option Code) :=
  match splitB ops p with
  | true =>
    match regI P cl wb S.nxt (ops.toList.take p) (ops.toList.take p) 0 S with
    | some (S', trs) =>
      match edgesBack (ops.toList.take p) && drawOkB (ops.toList.take p) (Region.before (ops.toList.take p).toArray) trs with
      | true =>
        match regYI P cl wb K rnd ops.toList (ops.toList.drop p) p S.nxt (S'.fix (S.nxt + 4 * p)) pe with
        | some (S2, pe', nx) => some (.normal, S2.fix nx, pe')
        | none => none
      | false => none
    | none => none
  | false => none
def itI (P : Program) (cl : Cl) (wb : Bool) (K : Yc) (rnd : PS → Option (Exit × PS)) (n : Nat) : Code → PS → Option Code → Option (Exit × PS × Option Code)
  | .skip, S, pe => some (.normal, S, pe)
  | .label _, S, pe => some (.normal, S, pe)
  | .exit i, S, pe => some (.exit i, S, pe)
  | .ret, S, pe => some (.ret, S, pe)
  | .seq x y, S, pe => match itI P cl wb K rnd n x S pe with | some (.normal, S', pe') => itI P cl wb K rnd n y S' pe' | r => r
  | .cond c x y, S, pe => match S.ev c with | .bool true => itI P cl wb K rnd n x S pe | .bool false => itI P cl wb K rnd n y S pe | _ => none
  | .block i x, S, pe => match itI P cl wb K rnd n x S pe with | some (.exit j, S', pe') => (match Nat.beq j i with | true => some (.normal, S', pe') | false => some (.exit j, S', pe')) | r => r
  | .loop x, S, pe => lpY (itI P cl wb K rnd n x) n S pe
  | .region _ ops true, S, pe =>
    match regI P cl wb S.nxt ops.toList ops.toList 0 S with
    | some (S', trs) => match regD' ops true trs with | true => some (.normal, S'.fix (S.nxt + 4 * ops.toList.length), pe) | false => none
    | none => splI P cl wb K rnd ops (splP ops 0 ops.toList.length) S pe
  | .region _ ops false, S, pe =>
    match regYI P cl wb K rnd ops.toList ops.toList 0 S.nxt S pe with
    | some (S', pe', nx) => some (.normal, S'.fix nx, pe')
    | none => none
  | _, _, _ => none

section
variable {P : Program} {K : Yc} {rnd : PS → Option (Exit × PS)}
theorem yAt_ok {full : List Oper} {S : PS} {o : Oper} {d : Nat} {qs : List PV} (h : yAt K full S o = some (d, qs)) :
    ∃ fo as ts, o.op = .call { callee := .value fo, args := as, argTypes := ts } ∧ gcond full S o = some true ∧ o.dst = some d ∧ d < S.n ∧ (S.ev fo).un = .yld K.y ∧ (S.ev fo).cnd = true ∧ cndAll S as.toList = true ∧ as.size = K.ps.size ∧ qs = as.toList.map fun x => (S.ev x).un := by
  unfold yAt at h
  split at h
  · rename_i fo as ts d' hop hgd hds
    split at h
    · rename_i y hy
      split at h
      · rename_i hc
        cases h
        simp only [Bool.and_eq_true, Nat.beq_eq, Nat.blt_eq] at hc
        obtain ⟨⟨⟨⟨h1, h1'⟩, h2⟩, h3⟩, h4⟩ := hc
        subst h1
        exact ⟨fo, as, ts, hop, hgd, hds, h4, hy, h1', h2, by simpa using h3, rfl⟩
      · cases h
    · cases h
  · cases h
def RndOk (P : Program) (K : Yc) (rnd : PS → Option (Exit × PS)) : Prop :=
  ∀ S1 e S3, rnd S1 = some (e, S3) → ∀ f : Bool → PS → Option Code → Prop, yrK f e S3 → ∀ l, PWPR P K.k l 1 K.assign (yasK P K f) S1
theorem regYI_ok {cl : Cl} (hcl : cl.Ok P) {wb : Bool} (hr : RndOk P K rnd) (hpn : ∀ p ∈ K.ps.toList, p < K.n) {ops : Array Oper} {Q : YPost} (hno : ∀ S pe, ¬ Q .outgrown S pe) : ∀ {os : List Oper} {i nid0 : Nat} {S : PS} {pe : Option Code} {S' : PS} {pe' : Option Code} {nx : Nat},
    ops.toList.drop i = os → regYI P cl wb K rnd ops.toList os i nid0 S pe = some (S', pe', nx) → Q .normal { S' with nxt := nx } pe' → YOps P K ops Q (List.range' i os.length) S (nid0 + 4 * i) pe
  | [], i, nid0, S, pe, S', pe', nx, hd, h, hq => by
    cases h
    exact YOps.nil hq
  | o :: os, i, nid0, S, pe, S', pe', nx, hd, h, hq => by
    have ho : ops[i]? = some o := by
      have := congrArg (fun l : List Oper => l[0]?) hd
      simpa using this
    have hd' : ops.toList.drop (i + 1) = os := by
      have := congrArg (List.drop 1) hd
      simpa [Nat.add_comm] using this
    show YOps P K ops Q (i :: List.range' (i + 1) os.length) S (nid0 + 4 * i) pe
    unfold regYI at h
    split at h
    · rename_i d qs hy
      obtain ⟨fo, as, ts, h1, h2, h3, h4, h5, h5', h6, h7, rfl⟩ := yAt_ok hy
      split at h
      · cases h
      · have key : ∀ (e : Exit) (S3 : PS) (b : Bool) (pe1 : Option Code), rnd (ybeg K S (as.toList.map fun x => (S.ev x).un) (nid0 + 4 * i)) = some (e, S3) →
            regYI P cl wb K rnd ops.toList os (i + 1) S3.nxt (yst K S d b S3) pe1 = some (S', pe', nx) →
            (∀ f : Bool → PS → Option Code → Prop, f b S3 pe1 → yrK f e S3) → YOps P K ops Q (i :: List.range' (i + 1) os.length) S (nid0 + 4 * i) none := by
          intro e S3 b pe1 hrn hrest hf
          refine YOps.yield ho h1 h2 h3 h4 h5 h5' h6 h7 hpn (hr _ _ _ hrn _ (hf _ ?_))
          exact YOps.le (by omega) (regYI_ok hcl hr hpn hno hd' hrest hq)
        split at h
        · rename_i S3 hrn; exact key _ _ true none hrn h (fun f hf => hf)
        · rename_i j S3 hrn; exact key _ _ false _ hrn h (fun f hf => hf)
        · rename_i S3 hrn; exact key _ _ false _ hrn h (fun f hf => hf)
        · cases h
    · split at h
      · cases h
      · rename_i hg
        split at h
        · rename_i hds
          have := regYI_ok hcl hr hpn hno hd' h hq
          exact YOps.op hno ho hg (fun e => by cases e) (fun _ => ⟨rfl, rfl⟩) (dstOk_lt hds) (by rwa [show nid0 + 4 * i + 4 = nid0 + 4 * (i + 1) by omega])
        · cases h
      · rename_i hg
        split at h
        · rename_i δ hδ
          split at h
          · rename_i hds
            have := regYI_ok hcl hr hpn hno hd' h hq
            exact YOps.op hno ho hg (fun _ => dI_ok hcl hδ) (fun e => by cases e) (dstOk_lt hds) (by rwa [show nid0 + 4 * i + 4 = nid0 + 4 * (i + 1) by omega])
          · cases h
        · cases h
theorem itI_ok (hm : P.follows .mixedOrders = true) {cl : Cl} (hcl : cl.Ok P) {wb : Bool} (hr : RndOk P K rnd) (hpn : ∀ p ∈ K.ps.toList, p < K.n) {n : Nat} : ∀ {c : Code} {S S' : PS} {pe pe' : Option Code} {e : Exit} {Q : YPost}, (∀ S pe, ¬ Q .outgrown S pe) → itI P cl wb K rnd n c S pe = some (e, S', pe') → Q e S' pe' → YWP P K c Q S pe
  | .skip, S, S', pe, pe', e, Q, hno, h, hq => by cases h; exact YWP.skip hq
  | .label _, S, S', pe, pe', e, Q, hno, h, hq => by cases h; exact YWP.label hq
  | .exit _, S, S', pe, pe', e, Q, hno, h, hq => by cases h; exact YWP.exit hq
  | .ret, S, S', pe, pe', e, Q, hno, h, hq => by cases h; exact YWP.ret hq
  | .seq x y, S, S', pe, pe', e, Q, hno, h, hq => by
    unfold itI at h
    split at h
    · rename_i S₁ p₁ h1
      exact YWP.seq (itI_ok hm hcl hr hpn (fun S pe h => hno S pe h) h1 (itI_ok hm hcl hr hpn (Q := Q) hno h hq))
    · rename_i hne
      refine YWP.seq (itI_ok hm hcl hr hpn (fun S pe h => hno S pe h) h ?_)
      cases e with
      | normal => exact absurd h (hne _ _)
      | _ => exact hq
  | .cond c x y, S, S', pe, pe', e, Q, hno, h, hq => by
    unfold itI at h
    split at h
    · rename_i hc; exact YWP.cond hc (fun _ => itI_ok hm hcl hr hpn hno h hq) (fun e => by cases e)
    · rename_i hc; exact YWP.cond hc (fun e => by cases e) (fun _ => itI_ok hm hcl hr hpn hno h hq)
    · cases h
  | .block i x, S, S', pe, pe', e, Q, hno, h, hq => by
    unfold itI at h
    split at h
    · rename_i j S₁ p₁ h1
      split at h
      · rename_i hb
        cases h
        rw [Nat.beq_eq] at hb
        subst hb
        exact YWP.block (itI_ok hm hcl hr hpn (fun S pe h => hno S pe h) h1 (by show (if j = j then _ else _); rw [if_pos rfl]; exact hq))
      · rename_i hb
        cases h
        have : ¬ j = i := fun e => by rw [e, Nat.beq_refl] at hb; cases hb
        exact YWP.block (itI_ok hm hcl hr hpn (fun S pe h => hno S pe h) h1 (by show (if j = i then _ else _); rw [if_neg this]; exact hq))
    · rename_i hne
      refine YWP.block (itI_ok hm hcl hr hpn (fun S pe h => hno S pe h) h ?_)
      cases e with
      | exit j => exact absurd h (hne _ _ _)
      | _ => exact hq
  | .loop x, S, S', pe, pe', e, Q, hno, h, hq => by
    unfold itI at h
    refine YWP.loop (α := { z : Nat × PS × Option Code // lpY (itI P cl wb K rnd n x) z.1 z.2.1 z.2.2 = some (e, S', pe') }) (fun z => z.1.2.1) (fun z => z.1.2.2) (fun z => z.1.1) ⟨(n, S, pe), h⟩ (Wk.refl _ _) rfl ?_
    rintro ⟨⟨k, T, pT⟩, hz⟩
    simp only at hz ⊢
    cases k with
    | zero => cases hz
    | succ k =>
      unfold lpY at hz
      split at hz
      · rename_i S₁ p₁ h1
        exact itI_ok hm hcl hr hpn (fun S pe h => hno S pe h) h1 ⟨⟨(k, S₁.tidy, p₁), hz⟩, Nat.lt_succ_self k, Wk.tidy _ _, rfl⟩
      · rename_i hne
        refine itI_ok hm hcl hr hpn (fun S pe h => hno S pe h) hz ?_
        cases e with
        | normal => exact absurd hz (hne _ _)
        | _ => exact hq
  | .region _ ops true, S, S', pe, pe', e, Q, hno, h, hq => by
    unfold itI at h
    split at h
    · rename_i S₁ trs hrg
      split at h
      · rename_i hd
        cases h
        rw [PS.fix_eq] at hq
        obtain ⟨L, h1, h2⟩ := regI_chain hcl hrg
        refine YWP.region_chain hm h1 ⟨fun e => ?_, ⟨rfl, hq⟩⟩
        rw [h2]
        exact hd
      · cases h
    · unfold splI at h
      split at h
      · rename_i hsp
        split at h
        · rename_i S₁ trs hrg
          split at h
          · rename_i hd
            split at h
            · rename_i S2 p2 nx hy
              cases h
              rw [PS.fix_eq] at hq
              obtain ⟨L, h1, h2⟩ := regI_chain hcl hrg
              rw [← h2] at hd
              refine YWP.region_split hm hsp h1 hd ?_
              have := regYI_ok hcl hr hpn hno (os := ops.toList.drop (splP ops 0 ops.toList.length)) rfl hy hq
              rw [PS.fix_eq] at this
              simpa using this
            · cases h
          · cases h
        · cases h
      · cases h
  | .region _ ops false, S, S', pe, pe', e, Q, hno, h, hq => by
    unfold itI at h
    split at h
    · rename_i S₁ p₁ nx hrg
      cases h
      rw [PS.fix_eq] at hq
      have := regYI_ok hcl hr hpn hno (os := ops.toList) (i := 0) rfl hrg hq
      refine YWP.region ?_
      rw [List.range_eq_range']
      simpa using this
    · cases h
  | .goto _, _, _, _, _, _, _, _, h, _ => by cases h
  | .scope _, _, _, _, _, _, _, _, h, _ => by cases h
  | .rangeFunc .., _, _, _, _, _, _, _, h, _ => by cases h
  | .refuse _, _, _, _, _, _, _, _, h, _ => by cases h
end
def rfEnd (S : PS) (S' : PS) : Option Code → Option (Exit × PS)
  | none => some (.normal, { n := S.n, env := kpE (S.nxt + 1) S.env, objs := S'.objs, live := S'.live, nxt := S'.nxt })
  | some (.exit j) => some (.exit j, { n := S.n, env := kpE (S.nxt + 1) S.env, objs := S'.objs, live := S'.live, nxt := S'.nxt })
  | some .ret => some (.ret, { n := S.n, env := kpE (S.nxt + 1) S.env, objs := S'.objs, live := S'.live, nxt := S'.nxt })
  | _ => none
def rfI (P : Program) (cl : Cl) (wb : Bool) (n : Nat) (gop : Operand) (ps : Array Tmp) (assign body : Code) (rnd : PS → Option (Exit × PS)) (S : PS) : Option (Exit × PS) :=
  match S.ev gop with
  | .fn gf caps =>
    match P.funcs[gf]? with
    | some fn =>
      match fn.body, fn.results.toList with
      | some c, [] =>
        match rdOk assign && rdOk body && !(fn.name == "runtime.NumGoroutine") && Nat.ble (caps.length + 1) fn.ntmps && (ps.toList.all fun p => Nat.blt p S.n) with
        | true =>
          match itI P cl wb (ycOf S ps assign body) rnd n c (itS S fn.ntmps caps) none with
          | some (.normal, S', pe) => rfEnd S S' pe
          | some (.ret, S', pe) => rfEnd S S' pe
          | _ => none
        | false => none
      | _, _ => none
    | none => none
  | _ => none
theorem rfI_ok {P : Program} (hm : P.follows .mixedOrders = true) {cl : Cl} (hcl : cl.Ok P) {wb : Bool} {n m : Nat} {gop : Operand} {ps : Array Tmp} {assign body : Code} {rnd : PS → Option (Exit × PS)} {S S' : PS} {e : Exit} {Q : Post}
    (hr : rdOk assign = true → rdOk body = true → RndOk P (ycOf S ps assign body) rnd) (h : rfI P cl wb n gop ps assign body rnd S = some (e, S')) (hq : Q e S') : PWP P m (.rangeFunc gop ps assign body) Q S := by
  unfold rfI at h
  split at h
  · rename_i gf caps hg
    split at h
    · rename_i fn hf
      split at h
      · rename_i c hb hres
        split at h
        · rename_i hc
          simp only [Bool.and_eq_true, Nat.ble_eq, Bool.not_eq_true', List.all_eq_true, Nat.blt_eq] at hc
          obtain ⟨⟨⟨⟨h1, h2⟩, h3⟩, h4⟩, h5⟩ := hc
          have hend : ∀ (S1 : PS) (pe : Option Code), rfEnd S S1 pe = some (e, S') → ∀ e1 : Exit, (e1 = .normal ∨ e1 = .ret) → ryK S Q e1 S1 pe := by
            intro S1 pe hx e1 he1
            refine ⟨he1, ?_⟩
            unfold rfEnd at hx
            split at hx
            · cases hx; exact hq
            · cases hx; exact hq
            · cases hx; exact hq
            · cases hx
          have hno : ∀ S1 pe, ¬ ryK S Q .outgrown S1 pe := fun S1 pe hx => by rcases hx.1 with h | h <;> cases h
          have hres' : fn.results = #[] := by
            rw [← Array.toList_inj]; exact hres
          split at h
          · rename_i S1 pe hi
            exact PWP.rangeIn hg hf hb h3 hres' h4 (itI_ok hm hcl (hr h1 h2) (fun p hp => h5 p hp) hno hi (hend _ _ h _ (.inl rfl)))
          · rename_i S1 pe hi
            exact PWP.rangeIn hg hf hb h3 hres' h4 (itI_ok hm hcl (hr h1 h2) (fun p hp => h5 p hp) hno hi (hend _ _ h _ (.inr rfl)))
          · cases h
        · cases h
      · cases h
    · cases h
  · cases h

def exI (P : Program) (cl : Cl) (wb : Bool) (n : Nat) : Code → PS → Option (Exit × PS)
  | .skip, S => some (.normal, S)
  | .label _, S => some (.normal, S)
  | .exit i, S => some (.exit i, S)
  | .goto l, S => some (.goto l, S)
  | .ret, S => some (.ret, S)
  | .seq x y, S => match exI P cl wb n x S with | some (.normal, S') => exI P cl wb n y S' | r => r
  | .cond c x y, S => match S.ev c with | .bool true => exI P cl wb n x S | .bool false => exI P cl wb n y S | _ => none
  | .block i x, S => match exI P cl wb n x S with | some (.exit j, S') => (match Nat.beq j i with | true => some (.normal, S') | false => some (.exit j, S')) | r => r
  | .loop x, S => lpI (exI P cl wb n x) n S
  | .region _ ops d, S =>
    match regI P cl wb S.nxt ops.toList ops.toList 0 S with
    | some (S', trs) => match regD' ops d trs with | true => some (.normal, S'.fix (S.nxt + 4 * ops.toList.length)) | false => none
    | none => none
  | .scope x, S => match exI P cl wb n x S with | some (.goto _, _) => none | r => r
  | .rangeFunc gop ps assign body, S => rfI P cl wb n gop ps assign body (fun S1 => match exI P cl wb n assign S1 with | some (.normal, S2) => exI P cl wb n body S2 | _ => none) S
  | _, _ => none
/-- Code of a round. -/
theorem exI_okR {P : Program} (hm : P.follows .mixedOrders = true) {cl : Cl} (hcl : cl.Ok P) {wb : Bool} {n m l k : Nat} : ∀ {c : Code} {S S' : PS} {e : Exit} {Q : Post}, rdOk c = true → (∀ S', ¬ Q .outgrown S') → exI P cl wb n c S = some (e, S') → Q e S' → PWPR P m l k c Q S
  | .skip, S, S', e, Q, _, _, h, hq => by cases h; exact fun g a w hI hd hF _ => wpIn_skip ⟨g, S, hq, hI, .refl hd, hF, ExtP.refl _ _ _ _⟩
  | .exit i, S, S', e, Q, _, _, h, hq => by cases h; exact fun g a w hI hd hF _ => wpIn_exit ⟨g, S, hq, hI, .refl hd, hF, ExtP.refl _ _ _ _⟩
  | .ret, S, S', e, Q, _, _, h, hq => by cases h; exact fun g a w hI hd hF _ => wpIn_ret ⟨g, S, hq, hI, .refl hd, hF, ExtP.refl _ _ _ _⟩
  | .seq x y, S, S', e, Q, hc, ho, h, hq => by
    simp only [rdOk, Bool.and_eq_true] at hc
    unfold exI at h
    have key : PWPR P m l k x (seqK (fun Q' S' => PWPR P m l k y Q' S') Q) S := by
      split at h
      · rename_i S₁ h1
        exact exI_okR hm hcl hc.1 (fun S' h => ho S' h) h1 (exI_okR hm hcl (Q := Q) hc.2 ho h hq)
      · rename_i hne
        refine exI_okR hm hcl hc.1 (fun S' h => ho S' h) h ?_
        cases e with
        | normal => exact absurd h (hne _)
        | _ => exact hq
    intro g a w hI hd hF hp
    refine wpIn_seq (wpIn_mono (key g a w hI hd hF hp) ?_)
    rintro e a' w' ⟨g', S', h1, h2, h3, h4, h5⟩
    cases e with
    | normal => exact wpIn_mono (h1 g' a' w' h2 h3.1 h4 (fun i hi => by rw [h5.pin i hi]; exact hp i hi)) (fun e a₂ w₂ x => cpost_trans h5 h3 x)
    | _ => exact ⟨g', S', h1, h2, h3, h4, h5⟩
  | .cond c x y, S, S', e, Q, hc, ho, h, hq => by
    simp only [rdOk, Bool.and_eq_true] at hc
    unfold exI at h
    intro g a w hI hd hF hp
    have he := ev_rel (a := a) hI.w.gl hI.env c
    split at h
    · rename_i hcc
      rw [hcc] at he
      exact wpIn_cond_true he.bool_inv (exI_okR hm hcl hc.1 ho h hq g a w hI hd hF hp)
    · rename_i hcc
      rw [hcc] at he
      exact wpIn_cond_false he.bool_inv (exI_okR hm hcl hc.2 ho h hq g a w hI hd hF hp)
    · cases h
  | .block i x, S, S', e, Q, hc, ho, h, hq => by
    unfold exI at h
    have key : PWPR P m l k x (blkK i Q) S := by
      split at h
      · rename_i j S₁ h1
        split at h
        · rename_i hb
          cases h
          rw [Nat.beq_eq] at hb
          subst hb
          exact exI_okR hm hcl hc (fun S' h => ho S' h) h1 (by show (if j = j then _ else _); rw [if_pos rfl]; exact hq)
        · rename_i hb
          cases h
          have : ¬ j = i := fun e => by rw [e, Nat.beq_refl] at hb; cases hb
          exact exI_okR hm hcl hc (fun S' h => ho S' h) h1 (by show (if j = i then _ else _); rw [if_neg this]; exact hq)
      · rename_i hne
        refine exI_okR hm hcl hc (fun S' h => ho S' h) h ?_
        cases e with
        | exit j => exact absurd h (hne _ _)
        | _ => exact hq
    intro g a w hI hd hF hp
    refine wpIn_block (wpIn_mono (key g a w hI hd hF hp) ?_)
    rintro e a' w' ⟨g', S', h1, h2⟩
    cases e with
    | exit j =>
      simp only [Exit.inBlock, blkK] at h1 ⊢
      split
      · rename_i e; rw [if_pos e] at h1; exact ⟨g', S', h1, h2⟩
      · rename_i e; rw [if_neg e] at h1; exact ⟨g', S', h1, h2⟩
    | _ => exact ⟨g', S', h1, h2⟩
  | .region id ops draw, S, S', e, Q, hc, ho, h, hq => by
    simp only [rdOk, Bool.and_eq_true, Bool.not_eq_true'] at hc
    unfold exI at h
    split at h
    · rename_i S₁ trs hr
      split at h
      · rename_i hd
        cases h
        rw [PS.fix_eq] at hq
        obtain ⟨L, hC, h2⟩ := regI_chain hcl hr
        have hK : regDone draw ops S.nxt Q S₁ (L.map fun x => Tr.of x.δ) := ⟨fun e => by subst e; rw [h2]; exact hd, hq⟩
        have hd' : ∀ o ∈ ops, ∀ c, o.op ≠ .defer c := fun o hm' => noDefer_ok (List.all_eq_true.1 hc.1 o (by simpa using hm'))
        intro g a w hI hdf hF hp
        have hlet : ¬ LetsOut (cpost m g S w a.defers Q) := by
          rintro ⟨a', w', g', S', h1, -⟩
          exact ho S' h1
        cases draw with
        | false => exact wpIn_region (wpOps_round hd' hlet _ _ _ (reg_ops hC hK g a w hI hdf hF hp))
        | true =>
          refine wpIn_region_draw fun t => wpOps_round hd' hlet _ _ _ ?_
          simp only [Region.schedule, hm, Bool.true_or, if_true]
          exact wpAny_sound ops.size t _ a _ (reg_any hC hK g a w hI hdf hF hp)
      · cases h
    · cases h
  | .loop _, _, _, _, _, hc, _, _, _ => by cases hc
  | .scope _, _, _, _, _, hc, _, _, _ => by cases hc
  | .label _, _, _, _, _, hc, _, _, _ => by cases hc
  | .goto _, _, _, _, _, hc, _, _, _ => by cases hc
  | .rangeFunc .., _, _, _, _, hc, _, _, _ => by cases hc
  | .refuse _, _, _, _, _, hc, _, _, _ => by cases hc
theorem rnd_ok {P : Program} (hm : P.follows .mixedOrders = true) {cl : Cl} (hcl : cl.Ok P) {wb : Bool} {n : Nat} {K : Yc} (h1 : rdOk K.assign = true) (h2 : rdOk K.body = true) :
    RndOk P K (fun S1 => match exI P cl wb n K.assign S1 with | some (.normal, S2) => exI P cl wb n K.body S2 | _ => none) := by
  intro S1 e S3 hr f hf l
  simp only at hr
  split at hr
  · rename_i S2 ha
    refine exI_okR hm hcl h1 (fun S' h => by cases h.1) ha ⟨rfl, fun l => exI_okR hm hcl h2 (fun S' h => h) hr hf⟩
  · cases hr

theorem exI_ok {P : Program} (hm : P.follows .mixedOrders = true) {cl : Cl} (hcl : cl.Ok P) {wb : Bool} {n m : Nat} : ∀ {c : Code} {S S' : PS} {e : Exit} {Q : Post}, exI P cl wb n c S = some (e, S') → Q e S' → PWP P m c Q S
  | .skip, S, S', e, Q, h, hq => by cases h; exact PWP.skip hq
  | .label _, S, S', e, Q, h, hq => by cases h; exact PWP.label hq
  | .exit _, S, S', e, Q, h, hq => by cases h; exact PWP.exit hq
  | .goto _, S, S', e, Q, h, hq => by cases h; exact PWP.goto hq
  | .ret, S, S', e, Q, h, hq => by cases h; exact PWP.ret hq
  | .seq x y, S, S', e, Q, h, hq => by
    unfold exI at h
    split at h
    · rename_i S₁ h1
      exact PWP.seq (exI_ok hm hcl h1 (exI_ok hm hcl (Q := Q) h hq))
    · rename_i hne
      refine PWP.seq (exI_ok hm hcl h ?_)
      cases e with
      | normal => exact absurd h (hne _)
      | _ => exact hq
  | .cond c x y, S, S', e, Q, h, hq => by
    unfold exI at h
    split at h
    · rename_i hc; exact PWP.cond hc (fun _ => exI_ok hm hcl h hq) (fun e => by cases e)
    · rename_i hc; exact PWP.cond hc (fun e => by cases e) (fun _ => exI_ok hm hcl h hq)
    · cases h
  | .block i x, S, S', e, Q, h, hq => by
    unfold exI at h
    split at h
    · rename_i j S₁ h1
      split at h
      · rename_i hb
        cases h
        rw [Nat.beq_eq] at hb
        subst hb
        exact PWP.block (exI_ok hm hcl h1 (by show (if j = j then _ else _); rw [if_pos rfl]; exact hq))
      · rename_i hb
        cases h
        have : ¬ j = i := fun e => by rw [e, Nat.beq_refl] at hb; cases hb
        exact PWP.block (exI_ok hm hcl h1 (by show (if j = i then _ else _); rw [if_neg this]; exact hq))
    · rename_i hne
      refine PWP.block (exI_ok hm hcl h ?_)
      cases e with
      | exit j => exact absurd h (hne _ _)
      | _ => exact hq
  | .loop x, S, S', e, Q, h, hq => by
    unfold exI at h
    refine PWP.loop (α := { z : Nat × PS // lpI (exI P cl wb n x) z.1 z.2 = some (e, S') }) (fun z => z.1.2) (fun z => z.1.1) ⟨(n, S), h⟩ (Wk.refl _ _) ?_
    rintro ⟨⟨k, T⟩, hz⟩
    simp only at hz ⊢
    cases k with
    | zero => cases hz
    | succ k =>
      unfold lpI at hz
      split at hz
      · rename_i S₁ h1
        exact exI_ok hm hcl h1 ⟨⟨(k, S₁.tidy), hz⟩, Nat.lt_succ_self k, Wk.tidy _ _⟩
      · rename_i hne
        refine exI_ok hm hcl hz ?_
        cases e with
        | normal => exact absurd hz (hne _)
        | _ => exact hq
  | .region _ ops d, S, S', e, Q, h, hq => by
    unfold exI at h
    split at h
    · rename_i S₁ trs hr
      split at h
      · rename_i hd
        cases h
        rw [PS.fix_eq] at hq
        obtain ⟨L, h1, h2⟩ := regI_chain hcl hr
        refine PWP.region_chain hm h1 ⟨fun e => ?_, hq⟩
        subst e
        rw [h2]
        exact hd
      · cases h
    · cases h
  | .scope x, S, S', e, Q, h, hq => by
    unfold exI at h
    split at h
    · cases h
    · rename_i hne
      refine PWP.scope (exI_ok hm hcl h ?_)
      cases e with
      | goto l => exact absurd h (hne _ _)
      | _ => exact hq
  | .rangeFunc gop ps assign body, S, S', e, Q, h, hq => by
    unfold exI at h
    exact rfI_ok hm hcl (fun h1 h2 => rnd_ok (K := ycOf S ps assign body) hm hcl h1 h2) h hq
  | .refuse _, _, _, _, _, h, _ => by cases h

/-! ### A function -/
def resR1 (τ γ : List Nat) : PV → PV
  | .slt sz es k => match idx τ k with | some i => .slt sz es i | none => .sl sz es
  | .slb j off n sz => match idx γ j with | some i => .slb i off n sz | none => .any
  | .box j off => match idx γ j with | some i => .box i off | none => .any
  | .nbp T j => match idx γ j with | some i => .nbp T i | none => .any
  | .bsl e es k => match idx τ k with | some i => .bsl e es i | none => .sl 1 es
  | .mref j => match idx γ j with | some i => .mref i | none => .any
  | q => q.weak
def resR2 (τ γ : List Nat) : PV → PV
  | .agg qs => .agg (qs.map (resR1 τ γ))
  | .fn f qs => .fn f (qs.map (resR1 τ γ))
  | q => resR1 τ γ q
def resR3 (τ γ : List Nat) : PV → PV
  | .tup qs => .tup (qs.map (resR2 τ γ))
  | q => resR2 τ γ q
theorem weak_form {q : PV} : (∀ sz es k, q.weak ≠ .slt sz es k) ∧ (∀ i off n sz, q.weak ≠ .slb i off n sz) ∧ (∀ i off, q.weak ≠ .box i off) ∧ (∀ ps, q.weak ≠ .agg ps) ∧ (∀ ps, q.weak ≠ .tup ps) ∧ (∀ T i, q.weak ≠ .nbp T i) ∧ (∀ e es k, q.weak ≠ .bsl e es k) ∧ (∀ i, q.weak ≠ .mref i) := by
  cases q <;> first | (simp [PV.weak]; done) | (rename_i l; cases l <;> simp [PV.weak])
theorem weak_slg {q : PV} : ∀ i n sz, q.weak ≠ .slg i n sz := by
  cases q <;> first | (simp [PV.weak]; done) | (rename_i l; cases l <;> simp [PV.weak])
theorem resR1_ok (τ γ : List Nat) (q : PV) : res1 τ γ q (resR1 τ γ q) := by
  unfold resR1
  split
  · split
    · rename_i i hi; exact ⟨rfl, rfl, idx_get hi⟩
    · exact .inl rfl
  · split
    · rename_i i hi; exact ⟨rfl, rfl, rfl, idx_get hi⟩
    · rfl
  · split
    · rename_i i hi; exact ⟨rfl, idx_get hi⟩
    · rfl
  · split
    · rename_i i hi; exact ⟨rfl, idx_get hi⟩
    · rfl
  · split
    · rename_i i hi; exact ⟨rfl, rfl, idx_get hi⟩
    · exact .inl rfl
  · split
    · rename_i i hi; exact idx_get hi
    · rfl
  · unfold res1
    split
    · rename_i h; exact absurd h (weak_form.1 _ _ _)
    · rename_i h; exact absurd h (weak_form.2.1 _ _ _ _)
    · rename_i h; exact absurd h (weak_slg _ _ _)
    · rename_i h; exact absurd h (weak_form.2.2.1 _ _)
    · rename_i h; exact absurd h (weak_form.2.2.2.2.2.1 _ _)
    · rename_i h; exact absurd h (weak_form.2.2.2.2.2.2.1 _ _ _)
    · rename_i h; exact absurd h (weak_form.2.2.2.2.2.2.2 _)
    · rename_i h; exact .inl h
    · rfl
theorem resR1_agg {τ γ : List Nat} {q : PV} {ps : List PV} (h : resR1 τ γ q = .agg ps) : False := by
  unfold resR1 at h
  split at h
  · split at h <;> cases h
  · split at h <;> cases h
  · split at h <;> cases h
  · split at h <;> cases h
  · split at h <;> cases h
  · split at h <;> cases h
  · exact weak_form.2.2.2.1 _ h
theorem resR1_tup {τ γ : List Nat} {q : PV} {ps : List PV} (h : resR1 τ γ q = .tup ps) : False := by
  unfold resR1 at h
  split at h
  · split at h <;> cases h
  · split at h <;> cases h
  · split at h <;> cases h
  · split at h <;> cases h
  · split at h <;> cases h
  · split at h <;> cases h
  · exact weak_form.2.2.2.2.1 _ h
theorem weak_fn {q : PV} {f : FuncId} {ps : List PV} (h : q.weak = .fn f ps) : ∃ f ps, q = .fn f ps := by
  cases q <;> first | exact ⟨_, _, rfl⟩ | (cases h; done) | (rename_i l; cases l <;> cases h)
theorem resR1_fn {τ γ : List Nat} {q : PV} {f : FuncId} {ps : List PV} (h : resR1 τ γ q = .fn f ps) : ∃ f ps, q = .fn f ps := by
  unfold resR1 at h
  split at h
  · split at h <;> cases h
  · split at h <;> cases h
  · split at h <;> cases h
  · split at h <;> cases h
  · split at h <;> cases h
  · split at h <;> cases h
  · exact weak_fn h
theorem weak_sl {q : PV} {sz : Nat} {es : List PV} (h : q.weak = .sl sz es) : q.el = .sl sz es := by
  cases q <;> first | exact h | cases h
theorem resR1_sl {τ γ : List Nat} {q : PV} {sz : Nat} {es : List PV} (h : resR1 τ γ q = .sl sz es) : q.el = .sl sz es := by
  unfold resR1 at h
  split at h
  · split at h
    · cases h
    · exact h
  · split at h <;> cases h
  · split at h <;> cases h
  · split at h <;> cases h
  · split at h
    · cases h
    · exact h
  · split at h <;> cases h
  · exact weak_sl h
theorem resR2_ok (τ γ : List Nat) (q : PV) : res2 τ γ q (resR2 τ γ q) := by
  unfold resR2
  split
  · exact .inr ⟨_, rfl, wkL_map (resR1_ok τ γ) _⟩
  · exact .inr ⟨_, rfl, wkL_map (resR1_ok τ γ) _⟩
  · rename_i hne hne2
    unfold res2
    split
    · rename_i h; exact (resR1_agg h).elim
    · rename_i h
      obtain ⟨f, ps, rfl⟩ := resR1_fn h
      exact absurd rfl (hne2 f ps)
    · rename_i h; exact .inl (resR1_sl h)
    · exact resR1_ok τ γ q
theorem resR3_ok (τ γ : List Nat) (q : PV) : res3 τ γ q (resR3 τ γ q) := by
  unfold resR3
  split
  · exact ⟨_, rfl, wkL_map (resR2_ok τ γ) _⟩
  · rename_i hne
    unfold res3
    split
    · rename_i h
      unfold resR2 at h
      split at h
      · cases h
      · cases h
      · exact (resR1_tup h).elim
    · exact resR2_ok τ γ q

/-- The boxes that a result tells of. -/
def boxs1 (S : PS) : PV → List Nat → List Nat
  | .slb j _ _ _, acc => match S.obj j with | some _ => addN acc j | none => acc
  | .box j _, acc => match S.obj j with | some _ => addN acc j | none => acc
  | .mref j, acc => match S.obj j with | some _ => addN acc j | none => acc
  | _, acc => acc
def boxsL (S : PS) : List PV → List Nat → List Nat
  | [], acc => acc
  | q :: l, acc => boxsL S l (boxs1 S q acc)
def boxs2 (S : PS) : PV → List Nat → List Nat
  | .agg qs, acc => boxsL S qs acc
  | .fn _ qs, acc => boxsL S qs acc
  | q, acc => boxs1 S q acc
def boxsL2 (S : PS) : List PV → List Nat → List Nat
  | [], acc => acc
  | q :: l, acc => boxsL2 S l (boxs2 S q acc)
def boxs3 (S : PS) : PV → List Nat → List Nat
  | .tup qs, acc => boxsL2 S qs acc
  | q, acc => boxs2 S q acc

/-- The tokens that a result tells of. -/
def toksR1 (S : PS) : PV → List Nat → List Nat
  | .slt _ _ k, acc => match S.lv k with | true => addN acc k | false => acc
  | .agg qs, acc => toksOf S qs acc
  | .fn _ qs, acc => toksOf S qs acc
  | _, acc => acc
def toksRs (S : PS) : List PV → List Nat → List Nat
  | [], acc => acc
  | q :: l, acc => toksRs S l (toksR1 S q acc)
def toksR (S : PS) : PV → List Nat → List Nat
  | .tup qs, acc => toksRs S qs acc
  | q, acc => toksR1 S q acc

def okRes (P : Program) (S : PS) : List ResultVar → Bool
  | [] => true
  | .tmp _ :: rs => okRes P S rs
  | .cell a t :: rs =>
    (match S.get a with
    | .box id off => (match S.obj id with | some ps => okLd P t (ps.drop off) | none => false)
    | _ => false) && okRes P S rs
theorem okRes_ok {P : Program} {S : PS} : ∀ {rs : List ResultVar}, okRes P S rs = true → resOk P S rs
  | [], _ => trivial
  | .tmp _ :: rs, h => okRes_ok (rs := rs) h
  | .cell a t :: rs, h => by
    unfold okRes at h
    rw [Bool.and_eq_true] at h
    refine ⟨?_, okRes_ok h.2⟩
    have h1 := h.1
    split at h1
    · rename_i id off hg
      simp only [hg]
      split at h1
      · rename_i ps ho; simp only [ho]; exact okLd_ok h1
      · cases h1
    · cases h1

def endI2 (m : Nat) (S : PS) (q : PV) (γ : List Nat) (dss : List (List PV)) (τ : List Nat) : Option (List (List PV) × Nat × PV) :=
  match nodupB τ && (τ.all fun k => S.lv k) && nodupB γ && ((upto 0 m).all fun i => γ[i]? == some i) with
  | true => some (dss.map fun ds => ds.map (resR1 τ γ), τ.length, resR3 τ γ q)
  | false => none
def endI1 (m : Nat) (S : PS) (q : PV) (γ : List Nat) : Option (List (List PV) × Nat × PV) :=
  match objsOf S γ with
  | some dss => endI2 m S q γ dss (toksR S q (toksOfAll S dss []))
  | none => none
def endI (P : Program) (rs : List ResultVar) (m : Nat) (S : PS) : Option (List (List PV) × Nat × PV) :=
  match resPV P S rs, okRes P S rs with
  | some l, true => endI1 m S (one' l) (boxs3 S (one' l) (upto 0 m))
  | _, _ => none
theorem endI_ok {P : Program} {rs : List ResultVar} {m : Nat} {S : PS} {bs' : List (List PV)} {nt' : Nat} {r : PV} (h : endI P rs m S = some (bs', nt', r)) : m ≤ bs'.length ∧ endK P m rs bs' nt' r S := by
  unfold endI at h
  split at h
  · rename_i l hl ho
    generalize boxs3 S (one' l) (upto 0 m) = γ at h
    unfold endI1 at h
    split at h
    · rename_i dss hd
      generalize toksR S (one' l) (toksOfAll S dss []) = τ at h
      unfold endI2 at h
      split at h
      · rename_i hk
        cases h
        simp only [Bool.and_eq_true, List.all_eq_true] at hk
        obtain ⟨⟨⟨k1, k2⟩, k3⟩, k4⟩ := hk
        obtain ⟨q1, q2⟩ := objsOf_get hd
        have g3 : ∀ i, i < m → γ[i]? = some i := fun i hi => by have := k4 i (by rw [mem_upto]; omega); simpa using this
        refine ⟨?_, τ, γ, rfl, k1, k2, by simp [q1], k3, g3, okRes_ok ho, ⟨l, hl, resR3_ok _ _ _⟩, fun i j ps hj hi => ?_⟩
        · rw [List.length_map, q1]
          cases m with
          | zero => exact Nat.zero_le _
          | succ m => exact (List.getElem?_eq_some_iff.1 (g3 m (by omega))).1
        · rw [List.getElem?_map] at hi
          obtain ⟨ds, r1, r2⟩ := q2 i j hj
          rw [r1] at hi
          cases hi
          exact ⟨ds, r2, wkL_map (resR1_ok τ γ) ds⟩
      · cases h
    · cases h
  · cases h

/-- New boxes are left as they are from now on. -/
def frzGo (m nt' : Nat) : List (List PV) → PV → List (List PV) × Nat × PV
  | [], r => ([], nt', r)
  | ps :: rest, r => match Nat.ble m rest.length with | true => (match ps with | [.mobj es] => frzGo m nt' rest (deep3 (frm1 rest.length es) r) | ps => frzGo m nt' rest (frz3 rest.length ps r)) | false => ((ps :: rest).reverse, nt', r)
theorem frzGo_ok {P : Program} {f : FuncId} {bs : List (List PV)} {nt : Nat} {args : List PV} {nt' : Nat} : ∀ {rev : List (List PV)} {r : PV} {bs' : List (List PV)} {n : Nat} {r' : PV}, Fsp P f bs nt args rev.reverse nt' r → frzGo bs.length nt' rev r = (bs', n, r') → Fsp P f bs nt args bs' n r'
  | [], r, bs', n, r', h, e => by cases e; exact h
  | ps :: rest, r, bs', n, r', h, e => by
    unfold frzGo at e
    split at e
    · rename_i hm
      rw [Nat.ble_eq] at hm
      rw [List.reverse_cons] at h
      split at e
      · have := h.freezeM (by simpa using hm)
        rw [List.length_reverse] at this
        exact frzGo_ok this e
      · have := h.freeze (by simpa using hm)
        rw [List.length_reverse] at this
        exact frzGo_ok this e
    · cases e; exact h
def frzI (wb : Bool) (m : Nat) (x : List (List PV) × Nat × PV) : List (List PV) × Nat × PV :=
  match wb with
  | true => x
  | false =>
    match x.2.2 with
    | .fn _ (_ :: _) => x
    | _ => frzGo m x.2.1 x.1.reverse x.2.2
theorem frzI_ok {P : Program} {f : FuncId} {bs : List (List PV)} {nt : Nat} {args : List PV} {wb : Bool} {x y : List (List PV) × Nat × PV} (h : Fsp P f bs nt args x.1 x.2.1 x.2.2) (e : frzI wb bs.length x = y) : Fsp P f bs nt args y.1 y.2.1 y.2.2 := by
  unfold frzI at e
  split at e
  · subst e; exact h
  split at e
  · subst e; exact h
  · exact frzGo_ok (by rw [List.reverse_reverse]; exact h) e

def fnI (P : Program) (cl : Cl) (wb : Bool) (n : Nat) (fn : Func) (bs : List (List PV)) (nt : Nat) (args : List PV) : Option (List (List PV) × Nat × PV) :=
  match fn.body with
  | some c =>
    match !(fn.name == "runtime.NumGoroutine") && Nat.ble args.length fn.ntmps with
    | true =>
      match exI P cl wb n c (stF fn.ntmps args bs nt (Nat.max bs.length nt)) with
      | some (.normal, S) => (endI P fn.results.toList bs.length S).map (frzI wb bs.length)
      | some (.ret, S) => (endI P fn.results.toList bs.length S).map (frzI wb bs.length)
      | _ => none
    | false => none
  | none => none

/-- wbf: the flagged functions, by who calls, and who is called. -/
def runJ (P : Program) (or : Cl) (wbf : Nat → Nat → Bool) (n : Nat) : Nat → Nat → Cl
  | 0, _ => or
  | d + 1, u => fun f bs nt args =>
    match or f bs nt args with
    | some r => some r
    | none =>
      match P.funcs[f]? with
      | some fn => fnI P (runJ P or wbf n d f) (wbf u f) n fn bs nt args
      | none => none

theorem runJ_ok {P : Program} (hm : P.follows .mixedOrders = true) {or : Cl} (hor : or.Ok P) {wbf : Nat → Nat → Bool} {n : Nat} : ∀ {d u : Nat}, (runJ P or wbf n d u).Ok P
  | 0, _ => hor
  | d + 1, u => by
    intro f bs nt args bs' nt' r h
    unfold runJ at h
    split at h
    · rename_i hr; exact hor _ _ _ _ _ _ _ (by rw [hr]; exact h)
    · split at h
      · rename_i fn hf
        unfold fnI at h
        split at h
        · rename_i c hb
          split at h
          · rename_i hchk
            rw [Bool.and_eq_true, Nat.ble_eq, Bool.not_eq_true'] at hchk
            have key : ∀ {e : Exit} {S : PS}, exI P (runJ P or wbf n d f) (wbf u f) n c (stF fn.ntmps args bs nt (Nat.max bs.length nt)) = some (e, S) → (e = .normal ∨ e = .ret) →
                (endI P fn.results.toList bs.length S).map (frzI (wbf u f) bs.length) = some (bs', nt', r) → Fsp P f bs nt args bs' nt' r := by
              intro e S he hee hend
              cases hx : endI P fn.results.toList bs.length S with
              | none => rw [hx] at hend; cases hend
              | some x =>
                rw [hx] at hend
                obtain ⟨x1, x2, x3⟩ := x
                obtain ⟨h1, h2⟩ := endI_ok hx
                have hfs : Fsp P f bs nt args x1 x2 x3 := by
                  refine Fsp.of' hm hf hb hchk.1 h1 hchk.2 ⟨Nat.le_max_left _ _, Nat.le_max_right _ _⟩ (exI_ok hm (runJ_ok hm hor) he ?_)
                  rcases hee with rfl | rfl <;> exact h2
                exact frzI_ok (x := (x1, x2, x3)) (y := (bs', nt', r)) hfs (Option.some.inj hend)
            split at h
            · rename_i S he; exact key he (.inl rfl) h
            · rename_i S he; exact key he (.inr rfl) h
            · cases h
          · cases h
        · cases h
      · cases h

def runI (P : Program) (or : Cl) (wbf : Nat → Bool) (n : Nat) (d : Nat) : Cl := runJ P or (fun _ f => wbf f) n d 0
theorem runI_ok {P : Program} (hm : P.follows .mixedOrders = true) {or : Cl} (hor : or.Ok P) {wbf : Nat → Bool} {n : Nat} {d : Nat} : (runI P or wbf n d).Ok P := runJ_ok hm hor
def ranToJ (P : Program) (or : Cl) (wbf : Nat → Nat → Bool) (n d : Nat) (f : FuncId) (args : List PV) (r : PV → Bool) : Bool :=
  match runJ P or wbf n d 0 f [] 0 args with
  | some ([], 0, q) => r q
  | _ => false

/-- A function, run at what is given: for 'kernel_rfl'. -/
def ranTo (P : Program) (or : Cl) (wbf : Nat → Bool) (n d : Nat) (f : FuncId) (args : List PV) (r : PV → Bool) : Bool :=
  match runI P or wbf n d f [] 0 args with
  | some ([], 0, q) => r q
  | _ => false

def isTrue : PV → Bool
  | .bool true => true
  | _ => false
end Go.Pv
