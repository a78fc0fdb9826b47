/- Abstract values: lists of relations, one by one; a function that tells a slice of its own. Nothing of any program. -/
import Derived.Test.YtbjeagcnakdmnaaPvZ
set_option linter.unusedSectionVars false
namespace Go.Pv
variable [GTab]
theorem wkL_nil {R : PV → PV → Prop} : wkL R [] [] := trivial
theorem wkL_cons {R : PV → PV → Prop} {q p : PV} {qs ps : List PV} (h : R q p) (r : wkL R qs ps) : wkL R (q :: qs) (p :: ps) := ⟨h, r⟩
def bs (l : List UInt8) : List PV := l.map fun x => .int .u8 (x.toNat : Int)
section
theorem callE_p {P : Program} {S : PS} {nid : Nat} {o : Oper} {K : Dl → Prop} {fo : Operand} {ar : Array Operand} {ts : Array TypeId} {f : FuncId} {args : List PV} {nt' : Nat} {r : PV} {c : Bool} (hS : Fsp P f [] 0 args [] nt' r)
    (hK : K { p := r.back [] nid 0, tk := newToks nid nt', ok := True })
    (hop : o.op = .call { callee := .value fo, args := ar, argTypes := ts } := by rfl) (hfo : S.ev fo = .fn f [] := by rfl) (hargs : ar.toList.map (fun x => (S.ev x).un.el) = args := by rfl)
    (hnt : nt' ≤ 4 := by decide) (hr : tokLt nt' 0 0 r = true := by rfl) (hcnd : c = true → cndAll S ar.toList = true := by exact fun _ => by rfl)
    (hg : gdOk c o { p := r.back [] nid 0, tk := newToks nid nt', ok := True } = true := by first | rfl | simp [gdOk, newToks]) : callE P nid c o S K :=
  callE_pure hS hop hfo hargs hnt hr hcnd hg hK
theorem Fsp.ofs {P : Program} {f : FuncId} {fn : Func} {c : Code} {bs bs' : List (List PV)} {nt nt' : Nat} {args : List PV} {r : PV} {nx : Nat} (hm : P.follows .mixedOrders = true) (hf : P.funcs[f]? = some fn) (hb : fn.body = some c) (hn : args.length ≤ fn.ntmps)
    (h : VC P bs.length c (retQ P bs.length fn.results.toList bs' nt' r) (stF fn.ntmps args bs nt nx))
    (hname : (fn.name == "runtime.NumGoroutine") = false := by decide) (hlen : bs.length ≤ bs'.length := by first | exact Nat.le_refl _ | simp) (hx : bs.length ≤ nx ∧ nt ≤ nx := by exact ⟨by decide, by decide⟩) : Fsp P f bs nt args bs' nt' r :=
  Fsp.of hm hf hb hname hlen hn hx h
theorem Wk.at (m : Nat) (S T : PS) (β τ : List (Nat × Nat)) (em : List Nat) (n : T.n ≤ S.n) (env : ∀ x ∈ T.env, wkV β τ em (S.get x.1) x.2)
    (objs : ∀ x ∈ T.objs, match x.2 with | none => True | some ps => ∃ i, lko β x.1 = some i ∧ ∃ qs, S.obj i = some qs ∧ wkL (wkC β τ em) qs ps)
    (live : ∀ x ∈ T.live, x.2 = true → x.1 ∈ em ∨ ∃ k, lko τ x.1 = some k ∧ S.lv k = true := by simp [PS.get, PS.obj, PS.lv, lkp_hit, lkp_miss, lkp_nil, lko]) (bn : nodupB (β.map (·.2)) = true := by rfl) (tn : nodupB (τ.map (·.2)) = true := by rfl) (ed : ∀ k ∈ em, lko τ k = none := by simp [lko])
    (bx : ∀ x ∈ β, x.1 < T.nxt := by simp) (tx : ∀ x ∈ τ, x.1 < T.nxt := by simp) (ex : ∀ k ∈ em, k < T.nxt := by simp) (pin : ∀ i, i < m → lko β i = some i := by exact fun i hi => absurd hi (Nat.not_lt_zero i)) : Wk m S T :=
  Wk.by m S T β τ em n env objs live bn tn ed bx tx ex pin
end
end Go.Pv
