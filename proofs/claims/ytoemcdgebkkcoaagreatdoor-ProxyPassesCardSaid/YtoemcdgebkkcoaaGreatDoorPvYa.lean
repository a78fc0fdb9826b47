/- Abstract values: lists of relations, one by one; a function that tells a slice of its own. Nothing of any program. -/
import Derived.Test.YtoemcdgebkkcoaaGreatDoorPvBc
set_option linter.unusedSectionVars false
namespace Go.Pv
variable [GTab]
theorem wkL_nil {R : PV → PV → Prop} : wkL R [] [] := trivial
theorem wkL_cons {R : PV → PV → Prop} {q p : PV} {qs ps : List PV} (h : R q p) (r : wkL R qs ps) : wkL R (q :: qs) (p :: ps) := ⟨h, r⟩
theorem endK_tok1 {P : Program} {S : PS} {t sz k : Nat} {es : List PV} (h : S.get t = .slt sz es k) (hl : S.lv k = true) : endK P 0 [.tmp t] [] 1 (.slt sz es 0) S :=
 endK_toks [k] rfl rfl (by simp [hl]) ⟨trivial, rfl, by simp [resOf, resPV, one', res3, res2, res1, h]⟩
theorem bs_byteOf (l : List UInt8) : (bs l).map byteOf = l := by
 induction l with
 | nil => rfl
 | cons x l ih =>
  rw [show bs (x :: l) = .int .u8 (x.toNat : Int) :: bs l from rfl, List.map_cons, ih]
  congr 1
  simp [byteOf]
theorem bs_isByte (l : List UInt8) : (bs l).all isByte = true := by
 induction l with
 | nil => rfl
 | cons x l ih => rw [show bs (x :: l) = .int .u8 (x.toNat : Int) :: bs l from rfl, List.all_cons, ih]; rfl
section
theorem callE_p {P : Program} {S : PS} {nid : Nat} {o : Oper} {K : Dl → Prop} {fo : Operand} {ar : Array Operand} {ts : Array TypeId} {f : FuncId} {args : List PV} {nt' : Nat} {r : PV} {c : Bool} (hS : Fsp P f [] 0 args [] nt' r)
 (hK : K { p := r.back [] nid 0, tk := newToks nid nt', ok := True })
 (hop : o.op = .call { callee := .value fo, args := ar, argTypes := ts } := by rfl) (hfo : S.ev fo = .fn f [] := by rfl) (hargs : ar.toList.map (fun x => (S.ev x).un.el) = args := by rfl)
 (hnt : nt' ≤ 4 := by decide) (hr : tokLt nt' 0 0 r = true := by rfl) (hcnd : c = true → cndAll S ar.toList = true := by exact fun _ => by rfl)
 (hg : gdOk c o { p := r.back [] nid 0, tk := newToks nid nt', ok := True } = true := by first | rfl | simp [gdOk, newToks]) : callE P nid c o S K :=
 callE_pure hS hop hfo hargs hnt hr hcnd hg hK
theorem Fsp.ofs {P : Program} {f : FuncId} {fn : Func} {c : Code} {bs bs' : List (List PV)} {nt nt' : Nat} {args : List PV} {r : PV} {nx : Nat} (hm : P.follows .mixedOrders = true) (hf : P.funcs[f]? = some fn) (hb : fn.body = some c) (hn : args.length ≤ fn.ntmps)
 (h : VC P bs.length c (retQ P bs.length fn.results.toList bs' nt' r) (stF fn.ntmps args bs nt nx))
 (hname : (fn.name == "runtime.NumGoroutine") = false := by decide) (hlen : bs.length ≤ bs'.length := by first | exact Nat.le_refl _ | simp) (hx : bs.length ≤ nx ∧ nt ≤ nx := by exact ⟨by decide, by decide⟩) : Fsp P f bs nt args bs' nt' r :=
 Fsp.of hm hf hb hname hlen hn hx h
theorem Wk.at (m : Nat) (S T : PS) (β τ : List (Nat × Nat)) (em : List Nat) (n : T.n ≤ S.n) (env : ∀ x ∈ T.env, wkV β τ em (S.get x.1) x.2)
 (objs : ∀ x ∈ T.objs, match x.2 with | none => True | some ps => ∃ i, lko β x.1 = some i ∧ ∃ qs, S.obj i = some qs ∧ wkL (wkC β τ em) qs ps)
 (live : ∀ x ∈ T.live, x.2 = true → x.1 ∈ em ∨ ∃ k, lko τ x.1 = some k ∧ S.lv k = true := by simp [PS.get, PS.obj, PS.lv, lkp_hit, lkp_miss, lkp_nil, lko]) (bn : nodupB (β.map (·.2)) = true := by rfl) (tn : nodupB (τ.map (·.2)) = true := by rfl) (ed : ∀ k ∈ em, lko τ k = none := by simp [lko])
 (bx : ∀ x ∈ β, x.1 < T.nxt := by simp) (tx : ∀ x ∈ τ, x.1 < T.nxt := by simp) (ex : ∀ k ∈ em, k < T.nxt := by simp) (pin : ∀ i, i < m → lko β i = some i := by exact fun i hi => absurd hi (Nat.not_lt_zero i)) : Wk m S T :=
 Wk.by m S T β τ em n env objs live bn tn ed bx tx ex pin
end
section
theorem and_o {p q : Prop} (h : q) (hp : p := by first | omega | (unfold drawOk; kernel_rfl) | (simp; done) | (simp; omega)) : p ∧ q := ⟨hp, h⟩
theorem callE_bx {P : Program} {S : PS} {nid : Nat} {o : Oper} {K : Dl → Prop} {fo : Operand} {ar : Array Operand} {ts : Array TypeId} {f : FuncId} {caps : List PV} {bs bs' : List (List PV)} {nt nt' : Nat} {args : List PV} {r : PV} {c : Bool} (hS : Fsp P f bs nt args bs' nt' r) (β τ : List Nat)
 (hK : K { p := r.back β nid bs.length, wr := zipB (β ++ upto nid (bs'.length - bs.length)) (bs'.map fun cs => cs.map (PV.back1 β nid bs.length)), tk := newToks nid nt' ++ τ.map fun k => (k, false), rdB := β, rdT := τ, ok := True })
 (hop : o.op = .call { callee := .value fo, args := ar, argTypes := ts } := by rfl) (hfo : S.ev fo = .fn f caps := by rfl) (hβ : β.length = bs.length := by rfl) (hβn : nodupB β = true := by rfl) (hτ : τ.length = nt := by rfl) (hτn : nodupB τ = true := by rfl)
 (hboxes : ∀ (i j : Nat) (cs : List PV), β[i]? = some j → bs[i]? = some cs → ∃ ds, S.obj j = some ds ∧ wkL (cellOK β τ) ds cs := by exact (fun i j cs h1 h2 => by (rcases i with _ | _ | _ | i <;> simp at h1 h2 <;> (subst h1; subst h2; exact ⟨_, rfl, (by (repeat' (first | exact wkL_nil | refine wkL_cons ?_ ?_)); all_goals (first | exact .inl ⟨_, _, _, _, rfl, rfl, rfl⟩ | exact .inr (.inr (.inr (.inr (.inl ⟨_, _, _, rfl, rfl, rfl⟩)))) | exact .inr (.inr (.inr (.inr (.inr (.inl ⟨_, _, _, _, rfl, rfl, rfl⟩))))) | exact .inr (.inr (.inr (.inr (.inr (.inr ⟨_, _, rfl, rfl, rfl⟩))))) | exact .inr (.inl rfl) | exact .inr (.inr (.inl ⟨_, _, _, rfl, rfl, rfl⟩))))⟩))))
 (htoks : ∀ k ∈ τ, S.lv k = true := by simp [PS.lv, lkp_hit, lkp_miss, lkp_nil])
 (hargs : wkL (argOK β τ) (ar.toList.map (fun x => (S.ev x).un) ++ caps) args := by (repeat' (first | exact wkL_nil | refine wkL_cons ?_ ?_)); all_goals (first | exact .inl ⟨_, _, _, rfl, rfl, rfl⟩ | exact .inr (.inl rfl) | exact .inr (.inr (.inl ⟨_, _, _, _, rfl, rfl, rfl⟩)) | exact .inr (.inr (.inr (.inl ⟨_, _, _, rfl, rfl, rfl, (wkL_get (by (repeat' (first | exact wkL_nil | refine wkL_cons ?_ ?_)); all_goals (first | exact .inl ⟨_, _, _, rfl, rfl, rfl⟩ | exact .inr rfl))).2⟩))) | exact .inr (.inr (.inr (.inr ⟨_, _, rfl, rfl, rfl⟩))) | exact .inr (.inr (.inr (.inr (.inl ⟨_, _, rfl, rfl, rfl⟩)))) | exact .inr (.inr (.inr (.inr (.inr ⟨_, _, rfl, rfl, wkL_get (by (repeat' (first | exact wkL_nil | refine wkL_cons ?_ ?_)); all_goals (first | exact .inr rfl | exact .inl ⟨_, _, rfl, rfl, rfl⟩))⟩))))))
 (hnt : nt' ≤ 4 := by decide) (hnb : bs'.length ≤ bs.length + 4 := by simp) (hr : tokLt nt' bs.length (bs'.length - bs.length) r = true := by rfl) (hbs : ∀ cs ∈ bs', ∀ p ∈ cs, tokLt1 nt' bs.length (bs'.length - bs.length) p = true := by simp [tokLt1]) (hcnd : c = true → cndAll S ar.toList = true := by exact fun _ => by rfl)
 (hg : gdOk c o { p := r.back β nid bs.length, wr := zipB (β ++ upto nid (bs'.length - bs.length)) (bs'.map fun cs => cs.map (PV.back1 β nid bs.length)), tk := newToks nid nt' ++ τ.map fun k => (k, false), rdB := β, rdT := τ, ok := True } = true := by first | rfl | simp [gdOk, newToks]) : callE P nid c o S K :=
 callE_box hS β τ hop hfo hβ hβn hτ hτn hboxes htoks hargs hnt hnb hr hbs hcnd hg hK
theorem Wk.ax {m : Nat} {S T : PS} (β τ : List (Nat × Nat)) (em : List Nat)
 (objs : ∀ x ∈ T.objs, match x.2 with | none => True | some ps => ∃ i, lko β x.1 = some i ∧ ∃ qs, S.obj i = some qs ∧ wkL (wkC β τ em) qs ps)
 (n : T.n ≤ S.n := by simp) (env : ∀ x ∈ T.env, wkV β τ em (S.get x.1) x.2 := by simp [wkV, PV.el, PV.weak, PS.get, PS.obj, PS.lv, lkp_hit, lkp_miss, lkp_nil, lko])
 (live : ∀ x ∈ T.live, x.2 = true → x.1 ∈ em ∨ ∃ k, lko τ x.1 = some k ∧ S.lv k = true := by simp [PS.get, PS.obj, PS.lv, lkp_hit, lkp_miss, lkp_nil, lko]) (bn : nodupB (β.map (·.2)) = true := by rfl) (tn : nodupB (τ.map (·.2)) = true := by rfl) (ed : ∀ k ∈ em, lko τ k = none := by simp [lko])
 (bx : ∀ x ∈ β, x.1 < T.nxt := by simp) (tx : ∀ x ∈ τ, x.1 < T.nxt := by simp) (ex : ∀ k ∈ em, k < T.nxt := by simp) (pin : ∀ i, i < m → lko β i = some i := by exact fun i hi => absurd hi (Nat.not_lt_zero i)) : Wk m S T :=
 Wk.by m S T β τ em n env objs live bn tn ed bx tx ex pin
end
end Go.Pv
