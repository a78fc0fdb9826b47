/- The frame of the seat's rows: the package-level variables as they are laid; requests as arguments. -/
import Derived.Test.YtnaldfmohncbhaaDoorRtJ
import Derived.Test.YtnaldfmohncbhaaDoorRtG
import Derived.Test.YtnaldfmohncbhaaDoorPvXj
import Derived.Test.YtnaldfmohncbhaaDoorPvXb
import Derived.Test.YtnaldfmohncbhaaDoorPvXd
import Derived.Test.YtnaldfmohncbhaaDoorRows
import Derived.Deep.DeepWitnessRowRef
set_option maxRecDepth 100000
namespace Go.Proofs.YtnaldfmohncbhaaDoor
open Go.Pv Go.Proofs.Sh

def flds (P : Program) (t : TypeId) : Array Field := match P.underlying t with | some (.struct fs) => fs | _ => #[]
theorem flds_at {fs : Array Field} {j o : Nat} {T : TypeId} (h : (fs[j]?).map (fun f => (f.offset, f.type)) = some (o, T)) {f : Field} (hf : fs[j]? = some f) : f.offset = o ∧ f.type = T := by
  rw [hf] at h; simp at h; exact h
theorem own : ownKnob Tryd.prog.godebug = none := by kernel_rfl
theorem laidOut : laidOutB Tryd.prog = true := by kernel_rfl
def laidV : List (String × DataW Unit) := [("glazier/rights.rules", Rows.laid_glazier_rights_rules)]
theorem tabIs : Tryd.gtab.tab = [(0, (gat Tryd.gtab.tab 0).getD [])] := by kernel_rfl
theorem glOf (W : World) (h : laidMetH Tryd.prog laidV W) : ∀ k ps, gat GTab.tab k = some ps → PRel (allH W) (.pointer (some ⟨k, 0, none⟩)) (.loc ps) := by
  intro k ps hk
  rw [MakeChecks.laidMetH_plain _ _ _ (by kernel_rfl)] at h
  obtain ⟨places, hl, -, -⟩ := h
  have hk1 : gat Tryd.gtab.tab k = some ps := hk
  have h0 : pvsEq ((gat Tryd.gtab.tab 0).getD []) (dInts .u8 (dParts (Rows.laid_glazier_rights_rules : DataW Unit))) = true := by kernel_rfl
  have hk0 : k = 0 := by
    rw [tabIs] at hk1
    unfold gat at hk1
    split at hk1
    · rename_i hb; exact (Nat.eq_of_beq_eq_true hb).symm
    · cases hk1
  rcases hk0 with rfl
  · rw [hk1] at h0
    exact loc_of_ints hl (by simp [laidV]) (show Tryd.prog.globalNamed "glazier/rights.rules" = some 0 by kernel_rfl) (show (Tryd.prog.globals[0]?).map (·.type) = some 115 by kernel_rfl) (show Tryd.prog.underlying 115 = some (.array 59 5) by kernel_rfl) (show Tryd.prog.underlying 5 = some (.int .u8) by kernel_rfl) (by kernel_rfl) (by kernel_rfl) h0
theorem door_met (os : Os) (args : Array Value) : laidMetH Tryd.prog laidV ((World.doorLaid Tryd.prog 400 os).forCall (fun _ _ => 0) ⟨#[], args, []⟩).memory :=
  laidMetH_of_parts3 (fuel := 8) (laidMet_of_run' 8 (by kernel_rfl) (by kernel_rfl)) (by kernel_rfl) (by kernel_rfl)


def WOk {H : Type} (P : Program) (t : TypeId) (d : DataW H) : Prop := ∀ n ∈ d.weights P t, n ≤ reachBytes
theorem mem_wAll {H : Type} {P : Program} {e : TypeId} {d : DataW H} {n : Nat} : ∀ {l : List (DataW H)}, d ∈ l → n ∈ d.weights P e → n ∈ DataW.weightsAll P e l
  | x :: l, h, hn => by
    rw [DataW.weightsAll, List.mem_append]
    rcases List.mem_cons.1 h with rfl | h
    · exact .inl hn
    · exact .inr (mem_wAll h hn)
theorem wsl {H : Type} {P : Program} {t e : TypeId} {elems spare : List (DataW H)} (hu : P.underlying t = some (.slice e)) (hb : 1 ≤ P.bytesOf e) (h : WOk P t (.slice elems spare)) : elems.length ≤ 1000000000000000 ∧ ∀ d ∈ elems, WOk P e d := by
  unfold WOk at h
  rw [DataW.weights, hu] at h
  simp only at h
  refine ⟨?_, fun d hd n hn => h n (List.mem_cons_of_mem _ (List.mem_append_left _ (mem_wAll hd hn)))⟩
  have h1 := h _ (List.mem_cons_self ..)
  have h2 : (elems.length + spare.length) * 1 ≤ (elems.length + spare.length) * P.bytesOf e := Nat.mul_le_mul_left _ hb
  have h3 : reachBytes = 140737488351232 := rfl
  omega
theorem wst {H : Type} {P : Program} {t : TypeId} {fs : Array Field} {parts : List (DataW H)} (hu : P.underlying t = some (.struct fs)) (h : WOk P t (.agg parts)) : ∀ n ∈ DataW.weightsEach P (fs.toList.map (·.type)) parts, n ≤ reachBytes := by
  unfold WOk at h
  rw [DataW.weights, hu] at h
  exact h
theorem weach {H : Type} {P : Program} {t : TypeId} {ts : List TypeId} {d : DataW H} {ds : List (DataW H)} (h : ∀ n ∈ DataW.weightsEach P (t :: ts) (d :: ds), n ≤ reachBytes) : WOk P t d ∧ ∀ n ∈ DataW.weightsEach P ts ds, n ≤ reachBytes := by
  rw [DataW.weightsEach] at h
  exact ⟨fun n hn => h n (List.mem_append_left _ hn), fun n hn => h n (List.mem_append_right _ hn)⟩
theorem wstr {H : Type} {P : Program} {t : TypeId} {s : List UInt8} (h : WOk P t (.lit (.string s) : DataW H)) : s.length ≤ 1000000000000000 := by
  have h1 := h s.length (by rw [DataW.weights]; exact List.mem_cons_self ..)
  have h3 : reachBytes = 140737488351232 := rfl
  omega
/-- A row, element by element. -/
theorem row_of {α H : Type} (pv : α → PV) (Q : α → DataW H → Prop) : ∀ {es : List PV} {elems : List (DataW H)}, elems.length = es.length → (∀ (i : Nat) (p : PV) (q : DataW H), es[i]? = some p → elems[i]? = some q → ∃ x, p = pv x ∧ Q x q) →
    ∃ l : List α, es = l.map pv ∧ l.length = elems.length ∧ ∀ (i : Nat) (x : α) (q : DataW H), l[i]? = some x → elems[i]? = some q → Q x q
  | [], [], _, _ => ⟨[], rfl, rfl, fun i x q h => by simp at h⟩
  | p :: es, q :: elems, hl, h => by
    obtain ⟨x, rfl, hx⟩ := h 0 p q rfl rfl
    obtain ⟨l, rfl, h2, h3⟩ := row_of pv Q (es := es) (elems := elems) (by simpa using hl) (fun i p' q' h1 h2 => h (i + 1) p' q' (by simpa using h1) (by simpa using h2))
    refine ⟨x :: l, rfl, by simp [h2], fun i y q' h4 h5 => ?_⟩
    cases i with
    | zero => simp at h4 h5; subst h4; subst h5; exact hx
    | succ i => exact h3 i y q' (by simpa using h4) (by simpa using h5)
theorem row_mem {α H : Type} {Q : α → DataW H → Prop} {l : List α} {elems : List (DataW H)} (hl : l.length = elems.length) (h : ∀ (i : Nat) (x : α) (q : DataW H), l[i]? = some x → elems[i]? = some q → Q x q) {x : α} (hx : x ∈ l) : ∃ q ∈ elems, Q x q := by
  obtain ⟨i, hi, rfl⟩ := List.getElem_of_mem hx
  exact ⟨elems[i], List.getElem_mem _, h i _ _ (List.getElem?_eq_getElem hi) (List.getElem?_eq_getElem (by omega))⟩
theorem len_bulk {α H : Type} {l : List α} {elems : List (DataW H)} (hl : l.length = elems.length) : l.length ≤ Rows.uptoBulkAll elems := by
  have h : ∀ elems : List (DataW H), elems.length ≤ Rows.uptoBulkAll elems := by
    intro elems
    induction elems with
    | nil => simp [Rows.uptoBulkAll]
    | cons d elems ih =>
      rw [Rows.uptoBulkAll, List.length_cons]
      have : 1 ≤ Rows.uptoBulk d := by
        unfold Rows.uptoBulk
        split <;> omega
      omega
  have := h elems
  omega

theorem bulk_sl {H : Type} {elems spare : List (DataW H)} : Rows.uptoBulkAll elems + 1 ≤ Rows.uptoBulk (.slice elems spare) := by rw [Rows.uptoBulk]; omega
theorem bulk_nil {H : Type} : Rows.uptoBulk (.nil : DataW H) = 1 := by rw [Rows.uptoBulk]
theorem bulk_str {H : Type} {s : List UInt8} : Rows.uptoBulk (.lit (.string s) : DataW H) = s.length + 1 := by rw [Rows.uptoBulk]

theorem nat_u8 {n : Int} (h : (Lit.int .u8 n).wf = true) : ∃ a : UInt8, n = (a.toNat : Int) := by
  simp [Lit.wf] at h
  obtain ⟨h1, h2⟩ := h
  have h3 : IntKind.u8.min = 0 := by decide
  have h4 : IntKind.u8.max = 255 := by decide
  refine ⟨UInt8.ofNat n.toNat, ?_⟩
  rw [UInt8.toNat_ofNat', Nat.mod_eq_of_lt (by omega)]; omega
theorem i64_wf {n : Int} (h : (Lit.int .i64 n).wf = true) : -9223372036854775808 ≤ n ∧ n ≤ 9223372036854775807 := by
  simp [Lit.wf] at h
  have h3 : IntKind.i64.min = -9223372036854775808 := by decide
  have h4 : IntKind.i64.max = 9223372036854775807 := by decide
  omega
theorem u32_wf {n : Int} (h : (Lit.int .u32 n).wf = true) : 0 ≤ n ∧ n < 4294967296 := by
  simp [Lit.wf] at h
  have h3 : IntKind.u32.min = 0 := by decide
  have h4 : IntKind.u32.max = 4294967295 := by decide
  omega
def dFaG (H : Type) (d : DataW H) (p : PV) : Prop := dAgg (dSt [dBool, dBool, dBool, dBool, dBool]) H d p
theorem udFaG : Tryd.prog.underlying 39 = some (.struct (flds Tryd.prog 39)) := by kernel_rfl
theorem decdFaG : DecD Tryd.prog 39 (dSt [dBool, dBool, dBool, dBool, dBool]) := by
  have hm : (flds Tryd.prog 39).toList.map (fun f => (f.offset, f.type)) = [(0, 4), (1, 4), (2, 4), (3, 4), (4, 4)] := by kernel_rfl
  have hc : Tryd.prog.cellsOf 39 = 5 := by kernel_rfl
  refine DecD.struct (fs := flds Tryd.prog 39) (by kernel_rfl) ?_
  rw [hc]
  generalize (flds Tryd.prog 39).toList = fs at hm
  have hlen : fs.length = 5 := by simpa using congrArg List.length hm
  match fs, hlen, hm with
  | [f0, f1, f2, f3, f4], _, hm =>
    simp only [List.map_cons, List.map_nil, List.cons.injEq, Prod.mk.injEq, and_true] at hm
    obtain ⟨⟨o0, t0⟩, ⟨o1, t1⟩, ⟨o2, t2⟩, ⟨o3, t3⟩, o4, t4⟩ := hm
    refine .cons (0) f0 [f1, f2, f3, f4] _ _ 5 o0 (by rw [t0]; exact .bool (by kernel_rfl)) ?_
    rw [t0, show Tryd.prog.cellsOf 4 = 1 by kernel_rfl]
    refine .cons (0 + 1) f1 [f2, f3, f4] _ _ 5 o1 (by rw [t1]; exact .bool (by kernel_rfl)) ?_
    rw [t1, show Tryd.prog.cellsOf 4 = 1 by kernel_rfl]
    refine .cons (0 + 1 + 1) f2 [f3, f4] _ _ 5 o2 (by rw [t2]; exact .bool (by kernel_rfl)) ?_
    rw [t2, show Tryd.prog.cellsOf 4 = 1 by kernel_rfl]
    refine .cons (0 + 1 + 1 + 1) f3 [f4] _ _ 5 o3 (by rw [t3]; exact .bool (by kernel_rfl)) ?_
    rw [t3, show Tryd.prog.cellsOf 4 = 1 by kernel_rfl]
    refine .cons (0 + 1 + 1 + 1 + 1) f4 [] _ _ 5 o4 (by rw [t4]; exact .bool (by kernel_rfl)) ?_
    rw [t4, show Tryd.prog.cellsOf 4 = 1 by kernel_rfl]
    exact .nil 5
theorem decEdFaG : DecE Tryd.prog 39 dFaG := .agg decdFaG ⟨_, udFaG⟩
theorem dfa_of {H : Type} {d : DataW H} {p : PV} (h : dFaG H d p) : ∃ f : Fa, p = f.pv := by
  obtain ⟨ps, rfl, ds, rfl, h⟩ := h
  obtain ⟨_, _, d0, _, rfl, rfl, ⟨a, rfl, -⟩, _, _, d1, _, rfl, rfl, ⟨b, rfl, -⟩, _, _, d2, _, rfl, rfl, ⟨c, rfl, -⟩, _, _, d3, _, rfl, rfl, ⟨e, rfl, -⟩, _, _, d4, _, rfl, rfl, ⟨f, rfl, -⟩, rfl, rfl⟩ := h
  exact ⟨⟨a, b, c, e, f⟩, rfl⟩
def dWdG (H : Type) (d : DataW H) (p : PV) : Prop := dAgg (dSt [dInt .u8, dInt .u8]) H d p
theorem udWdG : Tryd.prog.underlying 81 = some (.struct (flds Tryd.prog 81)) := by kernel_rfl
theorem decdWdG : DecD Tryd.prog 81 (dSt [dInt .u8, dInt .u8]) := by
  have hm : (flds Tryd.prog 81).toList.map (fun f => (f.offset, f.type)) = [(0, 5), (1, 5)] := by kernel_rfl
  have hc : Tryd.prog.cellsOf 81 = 2 := by kernel_rfl
  refine DecD.struct (fs := flds Tryd.prog 81) (by kernel_rfl) ?_
  rw [hc]
  generalize (flds Tryd.prog 81).toList = fs at hm
  have hlen : fs.length = 2 := by simpa using congrArg List.length hm
  match fs, hlen, hm with
  | [f0, f1], _, hm =>
    simp only [List.map_cons, List.map_nil, List.cons.injEq, Prod.mk.injEq, and_true] at hm
    obtain ⟨⟨o0, t0⟩, o1, t1⟩ := hm
    refine .cons (0) f0 [f1] _ _ 2 o0 (by rw [t0]; exact .int (by kernel_rfl)) ?_
    rw [t0, show Tryd.prog.cellsOf 5 = 1 by kernel_rfl]
    refine .cons (0 + 1) f1 [] _ _ 2 o1 (by rw [t1]; exact .int (by kernel_rfl)) ?_
    rw [t1, show Tryd.prog.cellsOf 5 = 1 by kernel_rfl]
    exact .nil 2
theorem decEdWdG : DecE Tryd.prog 81 dWdG := .agg decdWdG ⟨_, udWdG⟩
theorem dwd_of {H : Type} {d : DataW H} {p : PV} (h : dWdG H d p) : ∃ w : Wd, p = w.pv := by
  obtain ⟨ps, rfl, ds, rfl, h⟩ := h
  obtain ⟨_, _, d0, _, rfl, rfl, ⟨x0, rfl, -, w0⟩, _, _, d1, _, rfl, rfl, ⟨x1, rfl, -, w1⟩, rfl, rfl⟩ := h
  obtain ⟨a, rfl⟩ := nat_u8 w0
  obtain ⟨b, rfl⟩ := nat_u8 w1
  exact ⟨⟨a, b⟩, rfl⟩
theorem uwds : Tryd.prog.underlying 22 = some (.slice 81) := by kernel_rfl
theorem bwd : 1 ≤ Tryd.prog.bytesOf 81 := by decide +kernel
theorem decdWdGs : DecD Tryd.prog 22 (dSl 2 dWdG) := by
  have := DecD.sl (P := Tryd.prog) (t := 22) (e := 81) (G := dWdG) uwds decdWdG (by rw [show Tryd.prog.cellsOf 81 = 2 by kernel_rfl]; decide) (fun H d ps hl h => ⟨.agg ps, rfl, ps, rfl, h⟩)
  rwa [show Tryd.prog.cellsOf 81 = 2 by kernel_rfl] at this
theorem decEdWdGs : DecE Tryd.prog 22 (dOne (dSl 2 dWdG)) := .ofC decdWdGs (.inr (.inr (.inr ⟨_, uwds⟩)))
theorem dwds_of {H : Type} {d : DataW H} {ps : List PV} (h : dSl 2 dWdG H d ps) : ∃ X : List Wd, ps = [.sl 2 (X.map Wd.pv)] ∧ (WOk Tryd.prog 22 d → X.length ≤ 1000000000000000) := by
  obtain ⟨es, rfl, hl, h⟩ := h
  rcases h with ⟨rfl, rfl⟩ | ⟨elems, spare, rfl, hlen, hall⟩
  · exact ⟨[], rfl, fun _ => by simp⟩
  · obtain ⟨X, rfl, h2, h3⟩ := row_of Wd.pv (fun _ _ => True) hlen (fun i p q h1 h2 => by
      obtain ⟨x, e⟩ := dwd_of (hall i p q h1 h2)
      exact ⟨x, e, trivial⟩)
    exact ⟨X, rfl, fun hw => by have := (wsl uwds bwd hw).1; omega⟩
def dSeG (H : Type) (d : DataW H) (p : PV) : Prop := dAgg (dSt [dInt .u8, dInt .u8, dInt .i64]) H d p
theorem udSeG : Tryd.prog.underlying 83 = some (.struct (flds Tryd.prog 83)) := by kernel_rfl
theorem decdSeG : DecD Tryd.prog 83 (dSt [dInt .u8, dInt .u8, dInt .i64]) := by
  have hm : (flds Tryd.prog 83).toList.map (fun f => (f.offset, f.type)) = [(0, 5), (1, 5), (2, 3)] := by kernel_rfl
  have hc : Tryd.prog.cellsOf 83 = 3 := by kernel_rfl
  refine DecD.struct (fs := flds Tryd.prog 83) (by kernel_rfl) ?_
  rw [hc]
  generalize (flds Tryd.prog 83).toList = fs at hm
  have hlen : fs.length = 3 := by simpa using congrArg List.length hm
  match fs, hlen, hm with
  | [f0, f1, f2], _, hm =>
    simp only [List.map_cons, List.map_nil, List.cons.injEq, Prod.mk.injEq, and_true] at hm
    obtain ⟨⟨o0, t0⟩, ⟨o1, t1⟩, o2, t2⟩ := hm
    refine .cons (0) f0 [f1, f2] _ _ 3 o0 (by rw [t0]; exact .int (by kernel_rfl)) ?_
    rw [t0, show Tryd.prog.cellsOf 5 = 1 by kernel_rfl]
    refine .cons (0 + 1) f1 [f2] _ _ 3 o1 (by rw [t1]; exact .int (by kernel_rfl)) ?_
    rw [t1, show Tryd.prog.cellsOf 5 = 1 by kernel_rfl]
    refine .cons (0 + 1 + 1) f2 [] _ _ 3 o2 (by rw [t2]; exact .int (by kernel_rfl)) ?_
    rw [t2, show Tryd.prog.cellsOf 3 = 1 by kernel_rfl]
    exact .nil 3
theorem decEdSeG : DecE Tryd.prog 83 dSeG := .agg decdSeG ⟨_, udSeG⟩
theorem dsel_of {H : Type} {d : DataW H} {p : PV} (h : dSeG H d p) : ∃ w : Sl, p = w.pv := by
  obtain ⟨ps, rfl, ds, rfl, h⟩ := h
  obtain ⟨_, _, d0, _, rfl, rfl, ⟨x0, rfl, -, w0⟩, _, _, d1, _, rfl, rfl, ⟨x1, rfl, -, w1⟩, _, _, d2, _, rfl, rfl, ⟨x2, rfl, -, w2⟩, rfl, rfl⟩ := h
  obtain ⟨a, rfl⟩ := nat_u8 w0
  obtain ⟨b, rfl⟩ := nat_u8 w1
  exact ⟨⟨a, b, x2⟩, rfl⟩
theorem usels : Tryd.prog.underlying 23 = some (.slice 83) := by kernel_rfl
theorem bsel : 1 ≤ Tryd.prog.bytesOf 83 := by decide +kernel
theorem decdSeGs : DecD Tryd.prog 23 (dSl 3 dSeG) := by
  have := DecD.sl (P := Tryd.prog) (t := 23) (e := 83) (G := dSeG) usels decdSeG (by rw [show Tryd.prog.cellsOf 83 = 3 by kernel_rfl]; decide) (fun H d ps hl h => ⟨.agg ps, rfl, ps, rfl, h⟩)
  rwa [show Tryd.prog.cellsOf 83 = 3 by kernel_rfl] at this
theorem decEdSeGs : DecE Tryd.prog 23 (dOne (dSl 3 dSeG)) := .ofC decdSeGs (.inr (.inr (.inr ⟨_, usels⟩)))
theorem dsels_of {H : Type} {d : DataW H} {ps : List PV} (h : dSl 3 dSeG H d ps) : ∃ X : List Sl, ps = [.sl 3 (X.map Sl.pv)] ∧ (WOk Tryd.prog 23 d → X.length ≤ 1000000000000000) := by
  obtain ⟨es, rfl, hl, h⟩ := h
  rcases h with ⟨rfl, rfl⟩ | ⟨elems, spare, rfl, hlen, hall⟩
  · exact ⟨[], rfl, fun _ => by simp⟩
  · obtain ⟨X, rfl, h2, h3⟩ := row_of Sl.pv (fun _ _ => True) hlen (fun i p q h1 h2 => by
      obtain ⟨x, e⟩ := dsel_of (hall i p q h1 h2)
      exact ⟨x, e, trivial⟩)
    exact ⟨X, rfl, fun hw => by have := (wsl usels bsel hw).1; omega⟩
end Go.Proofs.YtnaldfmohncbhaaDoor
