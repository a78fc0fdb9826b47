/- Abstract values: equality of structs and arrays of bools, integers, strings. Nothing of any program. -/
import Derived.Test.YtbjeagcnakdmnaaPvN
import Derived.DeepKeys
set_option linter.unusedSimpArgs false
set_option linter.unusedVariables false
set_option linter.unusedSectionVars false
namespace Go.Pv
variable [GTab]

def toV : PV → Value
  | .bool b => .bool b
  | .int k n => .int k n
  | .str s => .string ⟨⟨s⟩⟩
  | _ => undef
def scal : PV → Bool
  | .bool _ => true
  | .int _ _ => true
  | .str _ => true
  | _ => false
def scals : List PV → Bool
  | [] => true
  | p :: ps => scal p && scals ps
def litEq : Lit → Lit → Bool
  | .bool a, .bool b => a == b
  | .int k a, .int k' b => decide (k = k') && a == b
  | .string a, .string b => a == b
  | _, _ => false
def litsEq : List Lit → List Lit → Bool
  | [], [] => true
  | a :: as, b :: bs => litEq a b && litsEq as bs
  | _, _ => false
def plain1 : Lit → Bool
  | .bool _ => true
  | .int _ _ => true
  | .string _ => true
  | _ => false
def plains : List Lit → Bool
  | [] => true
  | a :: as => plain1 a && plains as

theorem litEq_iff {a b : Lit} (h : plain1 a = true) : litEq a b = true ↔ a = b := by
  cases a <;> cases b <;> simp [litEq, plain1] at *
theorem litsEq_iff : ∀ {as bs : List Lit}, plains as = true → (litsEq as bs = true ↔ as = bs)
  | [], [], _ => by simp [litsEq]
  | [], _ :: _, _ => by simp [litsEq]
  | _ :: _, [], _ => by simp [litsEq]
  | a :: as, b :: bs, h => by
    simp only [plains, Bool.and_eq_true] at h
    simp [litsEq, litEq_iff h.1, litsEq_iff h.2]

/-- Whether two are the same; none: it can't be told. -/
def aggEq (P : Program) (t : TypeId) (ps qs : List PV) : Option Bool :=
  match P.keyLits 12 t (ps.map toV), P.keyLits 12 t (qs.map toV) with
  | some a, some b => match plains a && (scals ps && scals qs) with | true => some (litsEq a b) | false => none
  | _, _ => none

theorem scals_get : ∀ {ps : List PV}, scals ps = true → ∀ {i : Nat} {p : PV}, ps[i]? = some p → scal p = true
  | [], _, i, p, h => by simp at h
  | q :: ps, hs, i, p, h => by
    simp only [scals, Bool.and_eq_true] at hs
    cases i with
    | zero => simp at h; subst h; exact hs.1
    | succ i => exact scals_get hs.2 (by simpa using h)
theorem scal_rel {g : Gh} {v : Value} {p : PV} (r : Rel g v p) (h : scal p = true) : v = toV p := by
  cases p with
  | bool b => exact r.bool_inv
  | int k n => exact r.int_inv
  | str s => exact r.str_inv
  | _ => cases h
theorem aggs_rel {g : Gh} {v : Value} {ps : List PV} (r : Rel g v (.agg ps)) (h : scals ps = true) : v = .agg (ps.map toV).toArray := by
  obtain ⟨vs, rfl, hn, _, hp⟩ := r.agg_inv
  congr 1
  apply Array.ext'
  apply List.ext_getElem?
  intro i
  rw [Array.getElem?_toList]
  simp only [List.getElem?_map]
  by_cases hi : i < vs.size
  · have h1 : vs[i]? = some vs[i] := by simp [hi]
    have h2 : ps[i]? = some (ps[i]'(by omega)) := by rw [List.getElem?_eq_getElem]
    rw [h1, h2]
    exact congrArg some (scal_rel (hp i _ _ h1 h2) (scals_get h h2))
  · rw [Array.getElem?_eq_none (by omega), List.getElem?_eq_none (by omega)]; rfl

theorem keyLits_formed {P : Program} {t : TypeId} {d : Nat} {cs : List Value} {l : List Lit} (ht : (tk P t).isAgg = true) (h : P.keyLits d t cs = some l) : (Value.agg cs.toArray).formed P t = true := by
  cases d with
  | zero => cases h
  | succ d =>
    unfold Program.keyLits at h
    unfold Value.formed
    unfold tk at ht
    cases hu : P.underlying t with
    | none => rw [hu] at ht; cases ht
    | some u =>
      rw [hu] at h ht
      cases u <;> (try (cases ht; done))
      · simp only at h ⊢
        split at h
        · rename_i hc; simp [hc]
        · cases h
      · simp only at h ⊢
        split at h
        · rename_i hc; simp [hc.1]
        · cases h

def eqR (op : BinOp) (b : Bool) : Bool :=
  match op with
  | .eql => b
  | _ => !b

theorem agg_eq_sound {P : Program} {nid : Nat} {o : Oper} {ins : Operand → PV} {S : PS} {op : BinOp} {t yt : TypeId} {x y : Operand} {ps qs : List PV} {b : Bool} (h : o.op = .binOp op t x y yt) (hx : ins x = .agg ps) (hy : ins y = .agg qs)
    (hb : aggEq P t ps qs = some b) (ht : (tk P t).isAgg = true) (hk : P.keyTypeAt 12 t = true) (hg : P.eqGuardType P.depth t = false) (hop : op = .eql ∨ op = .neq) {ok : Prop} :
    LTrip P nid o ins S { p := .bool (eqR op b), ok := ok } := by
  refine .still fun g S' ρ w _ ho _ => ?_
  have h1 := ho x (by simp [h, Op.operands])
  have h2 := ho y (by simp [h, Op.operands])
  rw [hx] at h1; rw [hy] at h2
  unfold aggEq at hb
  split at hb
  · rename_i la lb ha hb'
    split at hb
    · rename_i hs
      cases hb
      simp only [Bool.and_eq_true] at hs
      have e1 := aggs_rel h1 hs.2.1
      have e2 := aggs_rel h2 hs.2.2
      obtain ⟨r, hr, hiff⟩ := run_equalIn_deep (P := P) (10000 - 12) 12 t hk w 12 12 _ _ la lb (keyLits_formed ht ha) (keyLits_formed ht hb') (by simpa [Value.cells] using ha) (by simpa [Value.cells] using hb')
      have hr' : r = litsEq la lb := by
        rw [← litsEq_iff hs.1] at hiff
        cases r <;> cases hq : litsEq la lb <;> simp_all
      subst hr'
      rcases hop with rfl | rfl
      · refine ⟨.bool _, ?_, .pure _ _ (.bool _)⟩
        simp only [execOp, h, e1, e2]
        simp [run_eqGuard_agg w _ t _ _ _ _ hg, run_eql_struct, hr, eqR]
      · refine ⟨.bool _, ?_, .pure _ _ (.bool _)⟩
        simp only [execOp, h, e1, e2]
        simp [run_eqGuard_agg w _ t _ _ _ _ hg, run_neq_struct, hr, eqR]
    · cases hb
  · cases hb
end Go.Pv
