/- Abstract values: a law's row where package-level variables are laid. Nothing of any program. -/
import Derived.Test.YtoemcdgebkkcoaaDoorPvX
import Derived.Test.YtoemcdgebkkcoaaDoorPvZ
import Derived.LaidMore
import Derived.Stop.Joined
import Derived.LaidLaws
import Derived.MakeChecks
set_option linter.unusedSimpArgs false
set_option linter.unusedVariables false
set_option linter.unusedSectionVars false
namespace Go.Pv
open Go.RowKit Go.ChangeShapes Go.WideShapes
variable [GTab]

theorem laid_mem {P : Program} {w : World} {n : String} {d : DataW Unit} : ∀ {l : List (String × DataW Unit)} {ps : List MemPlace}, DataW.LaidVars P w l ps → (n, d) ∈ l →
    ∃ g t cs fuel p, P.globalNamed n = some g ∧ (P.globals[g]?).map (·.type) = some t ∧ w.var? P n = some cs ∧ DataW.trod (fun _ => ()) P w 0 (fun _ => true) false fuel t cs.toList = some (d, p)
  | [], _, _, h => by cases h
  | (m, e) :: r, ps, hl, h => by
    obtain ⟨g, t, cs, fuel, p, q, h1, h2, h3, h4, h5, -⟩ := hl
    rcases List.mem_cons.1 h with e' | h
    · cases e'; exact ⟨g, t, cs, fuel, p, h1, h2, h3, h4⟩
    · exact laid_mem h5 h

/-- The numbers of a row. -/
def dInts (k : IntKind) {H : Type} : List (DataW H) → List PV
  | [] => []
  | .lit (.int _ n) :: r => .int k n :: dInts k r
  | _ :: r => .any :: dInts k r
def dParts {H : Type} : DataW H → List (DataW H)
  | .agg l => l
  | _ => []

theorem loc_of_ints {P : Program} {w : World} {laid : List (String × DataW Unit)} {places : List MemPlace} (hl : DataW.LaidVars P w laid places) {name : String} {d : DataW Unit} (hm : (name, d) ∈ laid) {g : Nat} {t e : TypeId} {k : IntKind} {n : Nat}
    (hg : P.globalNamed name = some g) (ht : (P.globals[g]?).map (·.type) = some t) (hu : P.underlying t = some (.array n e)) (he : P.underlying e = some (.int k)) (hc : P.cellsOf e = 1) (hct : P.cellsOf t = n)
    {ps : List PV} (hps : pvsEq ps (dInts k (dParts d)) = true) : PRel (allH w) (.pointer (some ⟨g, 0, none⟩)) (.loc ps) := by
  obtain ⟨g', t', cs, fuel, p, h1, h2, h3, h4⟩ := laid_mem hl hm
  obtain rfl := Option.some.inj (hg.symm.trans h1)
  obtain rfl := Option.some.inj (ht.symm.trans h2)
  obtain rfl := pvsEq_eq hps
  obtain ⟨xs, m, rfl, hx, hlen, hn, hel⟩ := DataW.trod_array hu h4
  simp only [Prod.mk.injEq] at hx
  obtain ⟨rfl, -⟩ := hx
  have each : ∀ i, i < n → ∃ z : Int, cs[i]? = some (.int k z) ∧ (xs.map (·.1))[i]? = some (.lit (.int k z)) := by
    intro i hi
    have h5 := hel i hi
    rw [hc, Nat.mul_one] at h5
    have hxi : i < xs.length := by omega
    rw [List.getElem?_eq_getElem hxi] at h5
    obtain ⟨z, e1, e2, -⟩ := DataW.trod_int he h5
    have hcl : cs.toList.length = n := by rw [hlen, hct]
    refine ⟨z, ?_, ?_⟩
    · have : ((cs.toList.drop i).take 1)[0]? = some (.int k z) := by rw [e1]; rfl
      rw [List.getElem?_take_of_lt (by omega), List.getElem?_drop] at this
      simpa using this
    · rw [List.getElem?_map, List.getElem?_eq_getElem hxi, e2]; rfl
  have hdl : ∀ (l : List (DataW Unit)), (dInts k l).length = l.length := by
    intro l
    induction l with
    | nil => rfl
    | cons x l ih =>
      unfold dInts
      split <;> simp_all
  have hdg : ∀ (l : List (DataW Unit)) (i : Nat) (z : Int), l[i]? = some (.lit (.int k z)) → (dInts k l)[i]? = some (.int k z) := by
    intro l
    induction l with
    | nil => intro i z h; simp at h
    | cons x l ih =>
      intro i z h
      cases i with
      | zero => simp at h; subst h; rfl
      | succ i =>
        have := ih i z (by simpa using h)
        unfold dInts
        split <;> simp_all
  have hlen2 : (dInts k (dParts (.agg (xs.map (·.1)) : DataW Unit))).length = n := by
    rw [hdl]; show (xs.map (·.1)).length = n; simp [hn]
  refine .loc g 0 _ (fun i => (cs[i]?).getD undef) (fun i hi => ?_) (fun i hi => ?_) (fun i q hq => ?_)
  · rw [hlen2] at hi
    obtain ⟨z, e1, -⟩ := each i hi
    show one? (w.cell? _) = _
    rw [Nat.zero_add, World.var?_cell h1 h3 i, e1]; rfl
  · rw [hlen2] at hi
    obtain ⟨z, e1, -⟩ := each i hi
    simp only [e1]; rfl
  · have hi : i < n := by rw [← hlen2]; exact (List.getElem?_eq_some_iff.1 hq).1
    obtain ⟨z, e1, e2⟩ := each i hi
    have := hdg _ i z e2
    rw [show dInts k (dParts (.agg (xs.map (·.1)) : DataW Unit)) = dInts k (xs.map (·.1)) from rfl] at hq
    rw [this] at hq
    cases hq
    simp only [e1]
    exact .int k z

/-- A law, its row's core, where variables are laid. -/
theorem lawInLaid {C : Checked} {os : Os} {f : FuncId} {fn : Func} {s : ChangeSpec} {H : Type} {enc : TypeId × Value → H} {t : TypeId} {Gs : List (PV → Prop)} {laid : List (String × DataW Unit)}
    (own : ownKnob C.prog.godebug = none) (started : os.Started) (noInit : C.prog.inits.idxOf? f = none) (hfn : C.prog.funcs[f]? = some fn)
    (witness : ∃ (w : World) (tape : Tape) (i : Input), w.os = os ∧ (w.forCall tape i).Shaped C.prog ∧ i.vars = [] ∧ Input.okWide C.prog (w.forCall tape i) .any w.heap.size f i ∧
      ((s.pre enc C.prog fn [] false (w.forCall tape i).memory i.args ∧ laidMetH C.prog laid (w.forCall tape i).memory) ∧ sizedMet enc C.prog fn (OpenSpec.ofChange s) false (w.forCall tape i).memory i.args) ∧ ({} : Assume).holds C.prog (lone (Frame.enter C.prog f i.args .normal) [] (w.forCall tape i)))
    (hdec : DecVs C.prog fn.params.toList Gs) (hvs : s.vars = []) (hrt : fn.resultTypes = #[t]) (ht : C.prog.underlying t = some .bool)
    (hsp : ∀ (ds : List (DataW H)), ds.length = fn.params.toList.length → (s.fn H ds).results = [.lit (.bool true)] ∧ (s.fn H ds).args = ds ∧ (s.fn H ds).vars = [])
    (hl : laidOutB C.prog = true) (hr : (fn.params.toList.all fun t => C.prog.readableRec t && Nat.blt t C.prog.types.size) = true)
    (hgl : ∀ W, laidMetH C.prog laid W → ∀ k ps, gat GTab.tab k = some ps → PRel (allH W) (.pointer (some ⟨k, 0, none⟩)) (.loc ps))
    (hS : ∀ qs, GVs Gs qs → Fsp C.prog f [] 0 qs [] 0 (.bool true)) :
    ReturnsInHanded {} C os f .any (fun w args => (s.pre enc C.prog fn [] false w args ∧ laidMetH C.prog laid w) ∧ sizedMet enc C.prog fn (OpenSpec.ofChange s) false w args) (s.post enc C.prog fn false true false false) := by
  refine returnsInHanded_of_change_and (C := C) (X := fun w _ => laidMetH C.prog laid w) (fun _ _ _ hh h => h.of_heap hh) own started noInit hfn witness ?_
  intro W base args ds gs before hval hW _ _ hL _
  have hW' := hW
  obtain ⟨p, q, hA, hV, rfl, hfz, hnd⟩ := hW
  obtain ⟨h1, qs, h2, h3, h4⟩ := hdec.run (b0 := base) (fun j t v ha hb => hval j t v (by simpa using ha) (by simpa using hb)) hA
  have hlen : ds.length = fn.params.toList.length := by
    have : ∀ {ts : List TypeId} {vs : List Value} {ds : List (DataW H)} {ps : List MemPlace}, DataW.TrodAll enc C.prog W 0 (fun _ => true) true ts vs ds ps → ds.length = ts.length := by
      intro ts
      induction ts with
      | nil => intro vs ds ps h; obtain ⟨-, rfl, -⟩ := trodAll_nil h; rfl
      | cons t ts ih => intro vs ds ps h; obtain ⟨_, _, _, _, _, _, -, rfl, -, -, h2⟩ := trodAll_cons h; simp [ih h2]
    exact this hA
  obtain ⟨k1, k2, k3⟩ := hsp ds hlen
  refine (Fsp.law (hS qs h4) (w := W) (hgl W hL) (vs := args) (by rw [← h2]; simp) (fun i v p hv hp => h3 i v p (by simpa using hv) hp)).mono fun e W' ⟨he, hb⟩ => ⟨.bool true, he, ?_⟩
  exact post_true hW' hvs hrt ht k1 k2 k3 hl hr hb

end Go.Pv
