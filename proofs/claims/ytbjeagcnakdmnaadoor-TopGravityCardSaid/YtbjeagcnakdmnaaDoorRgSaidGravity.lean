/- A variable that is rows of numbers (arrays in an array), as it is laid. -/
import Derived.Test.YtbjeagcnakdmnaaDoorPvXj
import Derived.Test.YtbjeagcnakdmnaaDoorGrK
import Derived.Test.YtbjeagcnakdmnaaDoorRows
import Derived.Deep.DeepWitnessRowRef
import Derived.Test.YtbjeagcnakdmnaaDoorCards
import Derived.Test.YtbjeagcnakdmnaaDoorTie
set_option linter.unusedVariables false
namespace Go.Pv
open Go.RowKit Go.ChangeShapes Go.WideShapes
variable [GTab]
theorem loc_of_arrs {P : Program} {w : World} {laid : List (String × DataW Unit)} {places : List MemPlace} (hl : DataW.LaidVars P w laid places) {name : String} {d : DataW Unit} (hm : (name, d) ∈ laid) {g : Nat} {t e : TypeId} {n m : Nat} {e2 : TypeId} {k : IntKind}
    (hg : P.globalNamed name = some g) (ht : (P.globals[g]?).map (·.type) = some t) (hu : P.underlying t = some (.array n e)) (he : P.underlying e = some (.array m e2)) (hk : P.underlying e2 = some (.int k)) (hc1 : P.cellsOf e2 = 1) (h0 : 0 < m)
    (hc : P.cellsOf e = m) (hct : P.cellsOf t = n * m)
    {ps : List PV} (hps : pvsEq ps (dRows d) = true) : PRel (allH w) (.pointer (some ⟨g, 0, none⟩)) (.loc ps) := by
  obtain ⟨g', t', cs, fuel, p, h1, h2, h3, h4⟩ := laid_mem hl hm
  obtain rfl := Option.some.inj (hg.symm.trans h1)
  obtain rfl := Option.some.inj (ht.symm.trans h2)
  obtain rfl := pvsEq_eq hps
  obtain ⟨xs, fu, rfl, hx, hlen, hn, hel⟩ := DataW.trod_array hu h4
  simp only [Prod.mk.injEq] at hx
  obtain ⟨rfl, -⟩ := hx
  have hcl : cs.toList.length = n * m := by rw [hlen, hct]
  have row : ∀ i, i < n → ∃ ds : List (DataW Unit), (xs.map (·.1))[i]? = some (.agg ds) ∧ ds.length = m ∧ ∀ j, j < m → ∃ (k : IntKind) (z : Int), cs[i * m + j]? = some (.int k z) ∧ ds[j]? = some (.lit (.int k z)) := by
    intro i hi
    have h5 := hel i hi
    rw [hc] at h5
    have hxi : i < xs.length := by omega
    rw [List.getElem?_eq_getElem hxi] at h5
    obtain ⟨ys, fu', rfl, hy, hlen', hn', hf⟩ := DataW.trod_array he h5
    refine ⟨ys.map (·.1), by rw [List.getElem?_map, List.getElem?_eq_getElem hxi, hy]; rfl, by rw [List.length_map, hn'], fun j hj => ?_⟩
    have h6 := hf j hj
    rw [hc1, Nat.mul_one, List.getElem?_eq_getElem (show j < ys.length by omega)] at h6
    obtain ⟨z, e1, e3, -⟩ := DataW.trod_int hk h6
    have hb : i * m + m ≤ n * m := by
      have := Nat.mul_le_mul_right m (show i + 1 ≤ n by omega)
      rw [Nat.add_mul, Nat.one_mul] at this; exact this
    refine ⟨k, z, ?_, ?_⟩
    · have : ((((cs.toList.drop (i * m)).take m).drop j).take 1)[0]? = some (.int k z) := by rw [e1]; rfl
      rw [List.getElem?_take_of_lt (by omega), List.getElem?_drop, Nat.add_zero, List.getElem?_take_of_lt hj, List.getElem?_drop] at this
      simpa using this
    · rw [List.getElem?_map, List.getElem?_eq_getElem (show j < ys.length by omega), e3]; rfl
  have hflat : dRows (.agg (xs.map (·.1)) : DataW Unit) = ((xs.map (·.1)).map fun x => dAll (dParts x)).flatMap id := by
    show (xs.map (·.1)).flatMap _ = _
    rw [List.flatMap_def, List.flatMap_def, List.map_id]
  have hall : ∀ l ∈ (xs.map (·.1)).map (fun x => dAll (dParts x)), l.length = m := by
    intro l hl
    obtain ⟨i, hi⟩ := List.mem_iff_getElem?.1 hl
    rw [List.getElem?_map] at hi
    have hin : i < n := by
      obtain ⟨y, hy, _⟩ := Option.map_eq_some_iff.1 hi
      have := (List.getElem?_eq_some_iff.1 hy).1
      simp at this; omega
    obtain ⟨ds, q1, q2, _⟩ := row i hin
    rw [q1] at hi
    cases hi
    show (dAll ds).length = m
    rw [dAll_length, q2]
  have hget : ∀ q, q < n * m → ∃ (k : IntKind) (z : Int), cs[q]? = some (.int k z) ∧ (dRows (.agg (xs.map (·.1)) : DataW Unit))[q]? = some (.int k z) := by
    intro q hq
    have hi : q / m < n := Nat.div_lt_of_lt_mul (by rw [Nat.mul_comm]; exact hq)
    have hj : q % m < m := Nat.mod_lt _ h0
    obtain ⟨ds, q1, q2, q3⟩ := row (q / m) hi
    obtain ⟨k, z, e1, e2⟩ := q3 (q % m) hj
    refine ⟨k, z, ?_, ?_⟩
    · rw [show q / m * m + q % m = q by rw [Nat.mul_comm]; exact Nat.div_add_mod q m] at e1; exact e1
    · rw [hflat, get_append_flat _ hall h0, List.getElem?_map, q1]
      exact dAll_get ds _ e2
  have hlen2 : (dRows (.agg (xs.map (·.1)) : DataW Unit)).length = n * m := by
    rw [hflat]
    have : ∀ (L : List (List PV)), (∀ l ∈ L, l.length = m) → (L.flatMap id).length = L.length * m := by
      intro L
      induction L with
      | nil => intro _; simp
      | cons l L ih =>
        intro h
        rw [List.flatMap_cons, List.length_append, ih (fun l hl => h l (List.mem_cons_of_mem _ hl)), List.length_cons, Nat.add_mul, Nat.one_mul]
        have := h l (List.mem_cons_self ..)
        simp only [id]; omega
    rw [this _ hall]; simp [hn]
  refine .loc g 0 _ (fun i => (cs[i]?).getD undef) (fun i hi => ?_) (fun i hi => ?_) (fun i q hq => ?_)
  · rw [hlen2] at hi
    obtain ⟨k, z, e1, -⟩ := hget i hi
    show one? (w.cell? _) = _
    rw [Nat.zero_add, World.var?_cell h1 h3 i, e1]; rfl
  · rw [hlen2] at hi
    obtain ⟨k, z, e1, -⟩ := hget i hi
    simp only [e1]; rfl
  · have hi : i < n * m := by rw [← hlen2]; exact (List.getElem?_eq_some_iff.1 hq).1
    obtain ⟨k, z, e1, e2⟩ := hget i hi
    rw [e2] at hq; cases hq
    simp only [e1]
    exact .int k z
end Go.Pv

/- The frame of the seat's rows: the package-level variables as they are laid; requests as arguments. -/
set_option maxRecDepth 100000
namespace Go.Proofs.YtbjeagcnakdmnaaDoor
open Go.Pv Go.Proofs.Sh

def flds (P : Program) (t : TypeId) : Array Field := match P.underlying t with | some (.struct fs) => fs | _ => #[]
theorem own : ownKnob Tryd.prog.godebug = none := by kernel_rfl
theorem laidOut : laidOutB Tryd.prog = true := by kernel_rfl
def laidV : List (String × DataW Unit) := [("glazier/gravity.halves", Rows.laid_glazier_gravity_halves)]
theorem tabIs : Tryd.gtab.tab = [(0, (gat Tryd.gtab.tab 0).getD [])] := by kernel_rfl
theorem glOf (W : World) (h : laidMetH Tryd.prog laidV W) : ∀ k ps, gat GTab.tab k = some ps → PRel (allH W) (.pointer (some ⟨k, 0, none⟩)) (.loc ps) := by
  intro k ps hk
  rw [MakeChecks.laidMetH_plain _ _ _ (by kernel_rfl)] at h
  obtain ⟨places, hl, -, -⟩ := h
  have hk1 : gat Tryd.gtab.tab k = some ps := hk
  have h0 : pvsEq ((gat Tryd.gtab.tab 0).getD []) (dRows (Rows.laid_glazier_gravity_halves : DataW Unit)) = true := by kernel_rfl
  have hk0 : k = 0 := by
    rw [tabIs] at hk1
    unfold gat at hk1
    split at hk1
    · rename_i hb; exact (Nat.eq_of_beq_eq_true hb).symm
    · cases hk1
  rcases hk0 with rfl
  · rw [hk1] at h0
    exact loc_of_arrs (m := 2) hl (by simp [laidV]) (show Tryd.prog.globalNamed "glazier/gravity.halves" = some 0 by kernel_rfl) (show (Tryd.prog.globals[0]?).map (·.type) = some 80 by kernel_rfl) (show Tryd.prog.underlying 80 = some (.array 10 79) by kernel_rfl) (show Tryd.prog.underlying 79 = some (.array 2 3) by kernel_rfl) (show Tryd.prog.underlying 3 = some (.int .i64) by kernel_rfl) (by kernel_rfl) (by decide) (by kernel_rfl) (by kernel_rfl) h0
theorem door_met (os : Os) (args : Array Value) : laidMetH Tryd.prog laidV ((World.doorLaid Tryd.prog 400 os).forCall (fun _ _ => 0) ⟨#[], args, []⟩).memory :=
  laidMetH_of_parts3 (fuel := 8) (laidMet_of_run' 8 (by kernel_rfl) (by kernel_rfl)) (by kernel_rfl) (by kernel_rfl)


def WOk {H : Type} (P : Program) (t : TypeId) (d : DataW H) : Prop := ∀ n ∈ d.weights P t, n ≤ reachBytes
theorem weach {H : Type} {P : Program} {t : TypeId} {ts : List TypeId} {d : DataW H} {ds : List (DataW H)} (h : ∀ n ∈ DataW.weightsEach P (t :: ts) (d :: ds), n ≤ reachBytes) : WOk P t d ∧ ∀ n ∈ DataW.weightsEach P ts ds, n ≤ reachBytes := by
  rw [DataW.weightsEach] at h
  exact ⟨fun n hn => h n (List.mem_append_left _ hn), fun n hn => h n (List.mem_append_right _ hn)⟩
/-- A row, element by element. -/
theorem row_of {α H : Type} (pv : α → PV) (Q : α → DataW H → Prop) : ∀ {es : List PV} {elems : List (DataW H)}, elems.length = es.length → (∀ (i : Nat) (p : PV) (q : DataW H), es[i]? = some p → elems[i]? = some q → ∃ x, p = pv x ∧ Q x q) →
    ∃ l : List α, es = l.map pv ∧ l.length = elems.length ∧ ∀ (i : Nat) (x : α) (q : DataW H), l[i]? = some x → elems[i]? = some q → Q x q
  | [], [], _, _ => ⟨[], rfl, rfl, fun i x q h => by simp at h⟩
  | p :: es, q :: elems, hl, h => by
    obtain ⟨x, rfl, hx⟩ := h 0 p q rfl rfl
    obtain ⟨l, rfl, h2, h3⟩ := row_of pv Q (es := es) (elems := elems) (by simpa using hl) (fun i p' q' h1 h2 => h (i + 1) p' q' (by simpa using h1) (by simpa using h2))
    refine ⟨x :: l, rfl, by simp [h2], fun i y q' h4 h5 => ?_⟩
    cases i with
    | zero => simp at h4 h5; subst h4; subst h5; exact hx
    | succ i => exact h3 i y q' (by simpa using h4) (by simpa using h5)
theorem nat_u8 {n : Int} (h : (Lit.int .u8 n).wf = true) : ∃ a : UInt8, n = (a.toNat : Int) := by
  simp [Lit.wf] at h
  obtain ⟨h1, h2⟩ := h
  have h3 : IntKind.u8.min = 0 := by decide
  have h4 : IntKind.u8.max = 255 := by decide
  refine ⟨UInt8.ofNat n.toNat, ?_⟩
  rw [UInt8.toNat_ofNat', Nat.mod_eq_of_lt (by omega)]; omega
theorem i64_wf {n : Int} (h : (Lit.int .i64 n).wf = true) : -9223372036854775808 ≤ n ∧ n ≤ 9223372036854775807 := by
  simp [Lit.wf] at h
  have h3 : IntKind.i64.min = -9223372036854775808 := by decide
  have h4 : IntKind.i64.max = 9223372036854775807 := by decide
  omega
open Rg
theorem u8_nat {n : Int} (h : (Lit.int .u8 n).wf = true) : ∃ a : Nat, n = (a : Int) ∧ a < 256 := by
  simp [Lit.wf] at h
  obtain ⟨h1, h2⟩ := h
  have h3 : IntKind.u8.min = 0 := by decide
  have h4 : IntKind.u8.max = 255 := by decide
  exact ⟨n.toNat, by omega, by omega⟩
theorem i8_wf {n : Int} (h : (Lit.int .i8 n).wf = true) : -128 ≤ n ∧ n ≤ 127 := by
  simp [Lit.wf] at h
  have h3 : IntKind.i8.min = -128 := by decide
  have h4 : IntKind.i8.max = 127 := by decide
  omega
theorem in64_wf {n : Int} (h : (Lit.int .i64 n).wf = true) : In64 n := by have := i64_wf h; unfold In64; omega
def dRtG (H : Type) (d : DataW H) (p : PV) : Prop := dAgg (dSt [dInt .i64, dInt .i64, dInt .i64, dInt .i64]) H d p
theorem decdRtG : DecD Tryd.prog 26 (dSt [dInt .i64, dInt .i64, dInt .i64, dInt .i64]) := by
  have hm : (flds Tryd.prog 26).toList.map (fun f => (f.offset, f.type)) = [(0, 3), (1, 3), (2, 3), (3, 3)] := by kernel_rfl
  have hc : Tryd.prog.cellsOf 26 = 4 := by kernel_rfl
  refine DecD.struct (fs := flds Tryd.prog 26) (by kernel_rfl) ?_
  rw [hc]
  generalize (flds Tryd.prog 26).toList = fs at hm
  have hlen : fs.length = 4 := by simpa using congrArg List.length hm
  match fs, hlen, hm with
  | [f0, f1, f2, f3], _, hm =>
    simp only [List.map_cons, List.map_nil, List.cons.injEq, Prod.mk.injEq, and_true] at hm
    obtain ⟨⟨o0, t0⟩, ⟨o1, t1⟩, ⟨o2, t2⟩, o3, t3⟩ := hm
    refine .cons (0) f0 [f1, f2, f3] _ _ 4 o0 (by rw [t0]; exact .int (by kernel_rfl)) ?_
    rw [t0, show Tryd.prog.cellsOf 3 = 1 by kernel_rfl]
    refine .cons (0 + 1) f1 [f2, f3] _ _ 4 o1 (by rw [t1]; exact .int (by kernel_rfl)) ?_
    rw [t1, show Tryd.prog.cellsOf 3 = 1 by kernel_rfl]
    refine .cons (0 + 1 + 1) f2 [f3] _ _ 4 o2 (by rw [t2]; exact .int (by kernel_rfl)) ?_
    rw [t2, show Tryd.prog.cellsOf 3 = 1 by kernel_rfl]
    refine .cons (0 + 1 + 1 + 1) f3 [] _ _ 4 o3 (by rw [t3]; exact .int (by kernel_rfl)) ?_
    rw [t3, show Tryd.prog.cellsOf 3 = 1 by kernel_rfl]
    exact .nil 4
theorem drt_of {H : Type} {d : DataW H} {p : PV} (h : dRtG H d p) : ∃ w : Rt, p = rpv w ∧ RtIn w := by
  obtain ⟨ps, rfl, ds, rfl, h⟩ := h
  obtain ⟨_, _, d0, _, rfl, rfl, ⟨x0, rfl, -, w0⟩, _, _, d1, _, rfl, rfl, ⟨x1, rfl, -, w1⟩, _, _, d2, _, rfl, rfl, ⟨x2, rfl, -, w2⟩, _, _, d3, _, rfl, rfl, ⟨x3, rfl, -, w3⟩, rfl, rfl⟩ := h
  exact ⟨⟨x0, x1, x2, x3⟩, rfl, in64_wf w0, in64_wf w1, in64_wf w2, in64_wf w3⟩
theorem urts : Tryd.prog.underlying 22 = some (.slice 26) := by kernel_rfl
theorem decdRtGs : DecD Tryd.prog 22 (dSl 4 dRtG) := by
  have := DecD.sl (P := Tryd.prog) (t := 22) (e := 26) (G := dRtG) urts decdRtG (by rw [show Tryd.prog.cellsOf 26 = 4 by kernel_rfl]; decide) (fun H d ps hl h => ⟨.agg ps, rfl, ps, rfl, h⟩)
  rwa [show Tryd.prog.cellsOf 26 = 4 by kernel_rfl] at this
theorem decEdRtGs : DecE Tryd.prog 22 (dOne (dSl 4 dRtG)) := .ofC decdRtGs (.inr (.inr (.inr ⟨_, urts⟩)))
theorem drts_of {H : Type} {d : DataW H} {ps : List PV} (h : dSl 4 dRtG H d ps) : ∃ X : List Rt, ps = [.sl 4 (rts X)] ∧ (∀ r ∈ X, RtIn r) := by
  obtain ⟨es, rfl, hl, h⟩ := h
  rcases h with ⟨rfl, rfl⟩ | ⟨elems, spare, rfl, hlen, hall⟩
  · exact ⟨[], rfl, fun r h => by cases h⟩
  · obtain ⟨X, rfl, h2, h3⟩ := row_of rpv (fun r _ => RtIn r) hlen (fun i p q h1 h2 => by
      obtain ⟨x, e, hx⟩ := drt_of (hall i p q h1 h2)
      exact ⟨x, e, hx⟩)
    exact ⟨X, rfl, fun r hr => by
      obtain ⟨i, hi, rfl⟩ := List.mem_iff_getElem.1 hr
      exact h3 _ _ _ (List.getElem?_eq_getElem hi) (List.getElem?_eq_getElem (by omega))⟩
end Go.Proofs.YtbjeagcnakdmnaaDoor

/- TopGravity: the given statement, proved. No condition. -/
set_option maxRecDepth 100000
set_option linter.unusedVariables false
namespace Go.Proofs.YtbjeagcnakdmnaaDoor
open Go.Pv Go.Proofs.Sh Rg

theorem topGravity_reads (os : Os) {H : Type} (enc : TypeId × Value → H) : ∃ places, DataW.whole enc Tryd.prog ((World.doorLaid Tryd.prog 400 os).forCall (fun _ _ => 0) ⟨#[], #[.slice none 0 0, .int .i8 0, .int .i8 0, .int .i8 0, .int .i8 0, .int .u8 0, .int .u8 0, .int .u8 0, .int .u8 0, .int .u8 0], []⟩).memory Tryd.f3.params.toList Rows.topGravitySpec.vars false #[.slice none 0 0, .int .i8 0, .int .i8 0, .int .i8 0, .int .i8 0, .int .u8 0, .int .u8 0, .int .u8 0, .int .u8 0, .int .u8 0].toList 8 = some ([.nil, .lit (.int .i8 0), .lit (.int .i8 0), .lit (.int .i8 0), .lit (.int .i8 0), .lit (.int .u8 0), .lit (.int .u8 0), .lit (.int .u8 0), .lit (.int .u8 0), .lit (.int .u8 0)], [], places) :=
  ⟨[], by kernel_rfl⟩
theorem topGravity_lifted (os : Os) (started : os.Started) (H : Type) (enc : TypeId × Value → H) (F : Stop.Interp) :
    ReturnsInHanded {} Tryd.checked os 3 .any ((OpenSpec.ofChange Rows.topGravitySpec).preRow enc Tryd.prog Tryd.f3 [] false laidV) (((OpenSpec.ofChange Rows.topGravitySpec).at F).post enc Tryd.prog Tryd.f3 false true false false) := by
  obtain ⟨places, hx⟩ := topGravity_reads os enc
  refine lawRow (C := Tryd.checked) (s0 := Rows.topGravitySpec) (s := OpenSpec.ofChange Rows.topGravitySpec) (t := 4) (Gs := [dOne (dSl 4 dRtG), dOne (dInt .i8), dOne (dInt .i8), dOne (dInt .i8), dOne (dInt .i8), dOne (dInt .u8), dOne (dInt .u8), dOne (dInt .u8), dOne (dInt .u8), dOne (dInt .u8)]) own started (by kernel_rfl) Tryd.func3
    (witness_row_atRef (enc := enc) (C := Tryd.checked) false (World.doorLaid Tryd.prog 400 os) #[.slice none 0 0, .int .i8 0, .int .i8 0, .int .i8 0, .int .i8 0, .int .u8 0, .int .u8 0, .int .u8 0, .int .u8 0, .int .u8 0] rfl (by kernel_rfl) (by kernel_rfl) (by kernel_rfl)
      (OpenSpec.preRow_of_cond 8 hx (by kernel_rfl) (fun k hk => by cases hk) (by kernel_rfl) (door_met os _)))
    (.cons 22 _ _ _ decEdRtGs (.cons 23 _ _ _ (.ofC (DecD.int (k := .i8) (by kernel_rfl)) (.inr (.inr (.inl ⟨.i8, by kernel_rfl⟩)))) (.cons 23 _ _ _ (.ofC (DecD.int (k := .i8) (by kernel_rfl)) (.inr (.inr (.inl ⟨.i8, by kernel_rfl⟩)))) (.cons 23 _ _ _ (.ofC (DecD.int (k := .i8) (by kernel_rfl)) (.inr (.inr (.inl ⟨.i8, by kernel_rfl⟩)))) (.cons 23 _ _ _ (.ofC (DecD.int (k := .i8) (by kernel_rfl)) (.inr (.inr (.inl ⟨.i8, by kernel_rfl⟩)))) (.cons 5 _ _ _ (.ofC (DecD.int (k := .u8) (by kernel_rfl)) (.inr (.inr (.inl ⟨.u8, by kernel_rfl⟩)))) (.cons 5 _ _ _ (.ofC (DecD.int (k := .u8) (by kernel_rfl)) (.inr (.inr (.inl ⟨.u8, by kernel_rfl⟩)))) (.cons 5 _ _ _ (.ofC (DecD.int (k := .u8) (by kernel_rfl)) (.inr (.inr (.inl ⟨.u8, by kernel_rfl⟩)))) (.cons 5 _ _ _ (.ofC (DecD.int (k := .u8) (by kernel_rfl)) (.inr (.inr (.inl ⟨.u8, by kernel_rfl⟩)))) (.cons 5 _ _ _ (.ofC (DecD.int (k := .u8) (by kernel_rfl)) (.inr (.inr (.inl ⟨.u8, by kernel_rfl⟩)))) .nil)))))))))) rfl rfl rfl rfl Tryd.underlying4 ?_ laidOut (by kernel_rfl) glOf ?_
  · intro ds h
    match ds, h with
    | [_, _, _, _, _, _, _, _, _, _], _ => exact ⟨rfl, rfl, rfl⟩
  · rintro ds qs hcond hwt ⟨d0, _, p0, _, rfl, rfl, g0, d1, _, p1, _, rfl, rfl, g1, d2, _, p2, _, rfl, rfl, g2, d3, _, p3, _, rfl, rfl, g3, d4, _, p4, _, rfl, rfl, g4, d5, _, p5, _, rfl, rfl, g5, d6, _, p6, _, rfl, rfl, g6, d7, _, p7, _, rfl, rfl, g7, d8, _, p8, _, rfl, rfl, g8, d9, _, p9, _, rfl, rfl, g9, rfl, rfl⟩
    rw [Tryd.params3] at hwt
    obtain ⟨w0, hwt⟩ := weach hwt
    obtain ⟨w1, hwt⟩ := weach hwt
    obtain ⟨w2, hwt⟩ := weach hwt
    obtain ⟨w3, hwt⟩ := weach hwt
    obtain ⟨w4, hwt⟩ := weach hwt
    obtain ⟨w5, hwt⟩ := weach hwt
    obtain ⟨w6, hwt⟩ := weach hwt
    obtain ⟨w7, hwt⟩ := weach hwt
    obtain ⟨w8, hwt⟩ := weach hwt
    obtain ⟨w9, hwt⟩ := weach hwt
    obtain ⟨x0, e0, q0⟩ := drts_of g0
    cases e0
    obtain ⟨x1, e1, rfl, v1⟩ := g1
    cases e1
    obtain ⟨x2, e2, rfl, v2⟩ := g2
    cases e2
    obtain ⟨x3, e3, rfl, v3⟩ := g3
    cases e3
    obtain ⟨x4, e4, rfl, v4⟩ := g4
    cases e4
    obtain ⟨x5, e5, rfl, v5⟩ := g5
    cases e5
    obtain ⟨x6, e6, rfl, v6⟩ := g6
    cases e6
    obtain ⟨x7, e7, rfl, v7⟩ := g7
    cases e7
    obtain ⟨x8, e8, rfl, v8⟩ := g8
    cases e8
    obtain ⟨x9, e9, rfl, v9⟩ := g9
    cases e9
    obtain ⟨n5, rfl, u5⟩ := u8_nat v5
    obtain ⟨n6, rfl, u6⟩ := u8_nat v6
    obtain ⟨n7, rfl, u7⟩ := u8_nat v7
    obtain ⟨n8, rfl, u8⟩ := u8_nat v8
    obtain ⟨n9, rfl, u9⟩ := u8_nat v9
    exact grav_fs x0 q0 x1 x2 x3 x4 n5 n6 n7 n8 n9 (i8_wf v1) (i8_wf v2) (i8_wf v3) (i8_wf v4) u5 u6 u7 u8 u9

theorem topGravity_holds : Rows.TopGravitySaid :=
  OpenClaim.holds_of_cond 3 Tryd.f3 rfl rfl rfl rfl rfl rfl rfl ⟨rfl, rfl, rfl, rfl, rfl⟩ rfl rfl rfl rfl rfl (by kernel_rfl) Tryd.func3 (by kernel_rfl)
    (of_decide_eq_true (by kernel_rfl)) (by unfold Func.isWrapper; first | (rw [if_pos (by decide +kernel)]; kernel_rfl) | (rw [if_neg (by decide +kernel)]; exact ⟨rfl, rfl⟩))
    (fun os started H enc _ F => by rw [OpenClaim.pre_eq_preRow]; exact topGravity_lifted os started H enc F)

theorem topGravity_card_holds : Rows.TopGravityCardSaid :=
  Claim7.holds_tied_plain_at .later [] [.data] true (true, "6857a647fca0fd5394b979f6ec48b0d21ffb90402751b194313498932d35f333") false
    topGravity_holds (fun _ h => by cases h) (by kernel_rfl) (fun _ h => by cases h) topGravity_row_tie rfl ⟨rfl, rfl⟩ (by kernel_rfl) rfl
    (fun f fn hf hfn => by
      obtain rfl : f = 3 := Option.some.inj ((show Tryd.prog.funcNamed Rows.topGravityRow.func = some 3 by kernel_rfl).symm.trans hf) |>.symm
      obtain rfl : fn = Tryd.f3 := (Option.some.inj (Tryd.func3.symm.trans hfn)).symm
      exact ⟨by kernel_rfl, fun j t ht => by
        rw [Tryd.params3] at ht
        have hm : t ∈ [22, 23, 23, 23, 23, 5, 5, 5, 5, 5] := by simpa using Array.mem_of_getElem? ht
        have hall : ([22, 23, 23, 23, 23, 5, 5, 5, 5, 5].all fun u => !Tryd.prog.wantsStandIn u) = true := by kernel_rfl
        exact (show Tryd.prog.wantsStandIn t = false by simpa using List.all_eq_true.1 hall t hm)⟩)
    (by kernel_rfl)
end Go.Proofs.YtbjeagcnakdmnaaDoor
