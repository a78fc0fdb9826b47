/- The frame of the seat's rows: the package-level variables as they are laid; requests as arguments. -/
import Derived.Test.YtbpjoeopnaggoaaDoorSbWide
import Derived.Test.YtbpjoeopnaggoaaDoorPvXa
import Derived.Test.YtbpjoeopnaggoaaDoorPvXd
import Derived.Test.YtbpjoeopnaggoaaDoorRows
import Derived.Test.YtbpjoeopnaggoaaDoorPvXj
import Derived.Deep.DeepWitnessRowRef
import Derived.Test.YtbpjoeopnaggoaaDoorSbGoW
set_option maxRecDepth 100000
namespace Go.Proofs.YtbpjoeopnaggoaaDoor
open Go.Pv Go.Proofs.Sh

def flds (P : Program) (t : TypeId) : Array Field := match P.underlying t with | some (.struct fs) => fs | _ => #[]
theorem flds_at {fs : Array Field} {j o : Nat} {T : TypeId} (h : (fs[j]?).map (fun f => (f.offset, f.type)) = some (o, T)) {f : Field} (hf : fs[j]? = some f) : f.offset = o ∧ f.type = T := by
  rw [hf] at h; simp at h; exact h
theorem own : ownKnob Tryd.prog.godebug = none := by kernel_rfl
theorem laidOut : laidOutB Tryd.prog = true := by kernel_rfl
def laidV : List (String × DataW Unit) := [("glazier/order.spans", Rows.laid_glazier_order_spans), ("unicode.White_Space", Rows.laid_unicode_White_Space), ("strings.asciiSpace", Rows.laid_strings_asciiSpace), ("glazier/format.sizes", Rows.laid_glazier_format_sizes)]
theorem tabIs : Tryd.gtab.tab = [(0, (gat Tryd.gtab.tab 0).getD []), (1, (gat Tryd.gtab.tab 1).getD []), (3, (gat Tryd.gtab.tab 3).getD [])] := by kernel_rfl
theorem glOf (W : World) (h : laidMetH Tryd.prog laidV W) : ∀ k ps, gat GTab.tab k = some ps → PRel (allH W) (.pointer (some ⟨k, 0, none⟩)) (.loc ps) := by
  intro k ps hk
  rw [MakeChecks.laidMetH_plain _ _ _ (by kernel_rfl)] at h
  obtain ⟨places, hl, -, -⟩ := h
  have hk1 : gat Tryd.gtab.tab k = some ps := hk
  have h0 : pvsEq ((gat Tryd.gtab.tab 0).getD []) (dRows (Rows.laid_glazier_order_spans : DataW Unit)) = true := by kernel_rfl
  have h1 : pvsEq ((gat Tryd.gtab.tab 1).getD []) (dInts .u8 (dParts (Rows.laid_strings_asciiSpace : DataW Unit))) = true := by kernel_rfl
  have h3 : pvsEq ((gat Tryd.gtab.tab 3).getD []) (dInts .i64 (dParts (Rows.laid_glazier_format_sizes : DataW Unit))) = true := by kernel_rfl
  have hk0 : k = 0 ∨ k = 1 ∨ k = 3 := by
    rw [tabIs] at hk1
    unfold gat at hk1
    split at hk1
    · rename_i hb; exact .inl (Nat.eq_of_beq_eq_true hb).symm
    · skip
      unfold gat at hk1
      split at hk1
      · rename_i hb; exact .inr (.inl (Nat.eq_of_beq_eq_true hb).symm)
      · skip
        unfold gat at hk1
        split at hk1
        · rename_i hb; exact .inr (.inr ((Nat.eq_of_beq_eq_true hb).symm))
        · cases hk1
  rcases hk0 with rfl | rfl | rfl
  · rw [hk1] at h0
    have hs : (flds Tryd.prog 135).size = 3 := by kernel_rfl
    refine loc_of_rows (m := 3) hl (by simp [laidV]) (show Tryd.prog.globalNamed "glazier/order.spans" = some 0 by kernel_rfl) (show (Tryd.prog.globals[0]?).map (·.type) = some 160 by kernel_rfl) (show Tryd.prog.underlying 160 = some (.array 6 135) by kernel_rfl) (fs := flds Tryd.prog 135) (by kernel_rfl) hs (by decide) (fun j f hf => ?_) (by kernel_rfl) (by kernel_rfl) h0
    match j, hf with
    | 0, hf => obtain ⟨ho, ht⟩ := flds_at (show ((flds Tryd.prog 135)[0]?).map (fun f => (f.offset, f.type)) = some (0, 3) by kernel_rfl) hf; rw [ho, ht]; exact ⟨rfl, by kernel_rfl, .i64, by kernel_rfl⟩
    | 1, hf => obtain ⟨ho, ht⟩ := flds_at (show ((flds Tryd.prog 135)[1]?).map (fun f => (f.offset, f.type)) = some (1, 2) by kernel_rfl) hf; rw [ho, ht]; exact ⟨rfl, by kernel_rfl, .i64, by kernel_rfl⟩
    | 2, hf => obtain ⟨ho, ht⟩ := flds_at (show ((flds Tryd.prog 135)[2]?).map (fun f => (f.offset, f.type)) = some (2, 2) by kernel_rfl) hf; rw [ho, ht]; exact ⟨rfl, by kernel_rfl, .i64, by kernel_rfl⟩
    | j + 3, hf => rw [Array.getElem?_eq_none (by omega)] at hf; cases hf
  · rw [hk1] at h1
    exact loc_of_ints hl (by simp [laidV]) (show Tryd.prog.globalNamed "strings.asciiSpace" = some 1 by kernel_rfl) (show (Tryd.prog.globals[1]?).map (·.type) = some 167 by kernel_rfl) (show Tryd.prog.underlying 167 = some (.array 256 5) by kernel_rfl) (show Tryd.prog.underlying 5 = some (.int .u8) by kernel_rfl) (by kernel_rfl) (by kernel_rfl) h1
  · rw [hk1] at h3
    exact loc_of_ints hl (by simp [laidV]) (show Tryd.prog.globalNamed "glazier/format.sizes" = some 3 by kernel_rfl) (show (Tryd.prog.globals[3]?).map (·.type) = some 184 by kernel_rfl) (show Tryd.prog.underlying 184 = some (.array 6 3) by kernel_rfl) (show Tryd.prog.underlying 3 = some (.int .i64) by kernel_rfl) (by kernel_rfl) (by kernel_rfl) h3
theorem door_met (os : Os) (args : Array Value) : laidMetH Tryd.prog laidV ((World.doorLaid Tryd.prog 400 os).forCall (fun _ _ => 0) ⟨#[], args, []⟩).memory :=
  laidMetH_of_parts3 (fuel := 8) (laidMet_of_run' 8 (by kernel_rfl) (by kernel_rfl)) (by kernel_rfl) (by kernel_rfl)

theorem nat_u8 {n : Int} (h : (Lit.int .u8 n).wf = true) : ∃ a : Nat, n = (a : Int) ∧ a < 256 := by
  simp [Lit.wf] at h
  obtain ⟨h1, h2⟩ := h
  have h3 : IntKind.u8.min = 0 := by decide
  have h4 : IntKind.u8.max = 255 := by decide
  exact ⟨n.toNat, by omega, by omega⟩
theorem decBys : DecV Tryd.prog 61 (one1 (gSl 1 (one1 (gInt .u8)))) := by
  have := DecV.sl (P := Tryd.prog) (t := 61) (e := 5) (g := gInt .u8) (G := one1 (gInt .u8)) (by kernel_rfl) (.int (by kernel_rfl)) (by rw [show Tryd.prog.cellsOf 5 = 1 by kernel_rfl]; decide) (fun ps _ h => by obtain ⟨n, rfl, hw⟩ := h; exact ⟨.int .u8 n, rfl, n, rfl, hw⟩)
  rwa [show Tryd.prog.cellsOf 5 = 1 by kernel_rfl] at this
theorem bys_of {p : PV} (h : one1 (gSl 1 (one1 (gInt .u8))) p) : ∃ l : List Nat, (∀ c ∈ l, c < 256) ∧ l.length ≤ maxLen ∧ p = .sl 1 (l.map fun (n : Nat) => .int .u8 (n : Int)) := by
  obtain ⟨es, he, hl, ha⟩ := h
  cases he
  have : ∀ es : List PV, (∀ p ∈ es, one1 (gInt .u8) p) → ∃ l : List Nat, (∀ c ∈ l, c < 256) ∧ es = l.map fun (n : Nat) => .int .u8 (n : Int) := by
    intro es
    induction es with
    | nil => intro _; exact ⟨[], fun c hc => (by cases hc), rfl⟩
    | cons p es ih =>
      intro h
      obtain ⟨n, hn, hw⟩ := h p (List.mem_cons_self ..)
      cases hn
      obtain ⟨a, rfl, ha⟩ := nat_u8 hw
      obtain ⟨l, hl, rfl⟩ := ih (fun q hq => h q (List.mem_cons_of_mem _ hq))
      refine ⟨a :: l, fun c hc => ?_, rfl⟩
      rcases List.mem_cons.1 hc with rfl | hc
      · exact ha
      · exact hl c hc
  obtain ⟨l, h1, rfl⟩ := this es ha
  exact ⟨l, h1, by simpa using hl, rfl⟩
end Go.Proofs.YtbpjoeopnaggoaaDoor

/- The seat's rows: arguments read beside their data, with weights and bulk. -/
set_option maxRecDepth 100000
set_option linter.unusedVariables false
namespace Go.Proofs.YtbpjoeopnaggoaaDoor
open Go.Pv Go.Proofs.Sh

def WOk {H : Type} (P : Program) (t : TypeId) (d : DataW H) : Prop := ∀ n ∈ d.weights P t, n ≤ reachBytes
theorem mem_wAll {H : Type} {P : Program} {e : TypeId} {d : DataW H} {n : Nat} : ∀ {l : List (DataW H)}, d ∈ l → n ∈ d.weights P e → n ∈ DataW.weightsAll P e l
  | x :: l, h, hn => by
    rw [DataW.weightsAll, List.mem_append]
    rcases List.mem_cons.1 h with rfl | h
    · exact .inl hn
    · exact .inr (mem_wAll h hn)
theorem wsl {H : Type} {P : Program} {t e : TypeId} {elems spare : List (DataW H)} (hu : P.underlying t = some (.slice e)) (hb : 1 ≤ P.bytesOf e) (h : WOk P t (.slice elems spare)) : elems.length ≤ 1000000000000000 ∧ ∀ d ∈ elems, WOk P e d := by
  unfold WOk at h
  rw [DataW.weights, hu] at h
  simp only at h
  refine ⟨?_, fun d hd n hn => h n (List.mem_cons_of_mem _ (List.mem_append_left _ (mem_wAll hd hn)))⟩
  have h1 := h _ (List.mem_cons_self ..)
  have h2 : (elems.length + spare.length) * 1 ≤ (elems.length + spare.length) * P.bytesOf e := Nat.mul_le_mul_left _ hb
  have h3 : reachBytes = 140737488351232 := rfl
  omega
theorem wst {H : Type} {P : Program} {t : TypeId} {fs : Array Field} {parts : List (DataW H)} (hu : P.underlying t = some (.struct fs)) (h : WOk P t (.agg parts)) : ∀ n ∈ DataW.weightsEach P (fs.toList.map (·.type)) parts, n ≤ reachBytes := by
  unfold WOk at h
  rw [DataW.weights, hu] at h
  exact h
theorem weach {H : Type} {P : Program} {t : TypeId} {ts : List TypeId} {d : DataW H} {ds : List (DataW H)} (h : ∀ n ∈ DataW.weightsEach P (t :: ts) (d :: ds), n ≤ reachBytes) : WOk P t d ∧ ∀ n ∈ DataW.weightsEach P ts ds, n ≤ reachBytes := by
  rw [DataW.weightsEach] at h
  exact ⟨fun n hn => h n (List.mem_append_left _ hn), fun n hn => h n (List.mem_append_right _ hn)⟩
theorem wstr {H : Type} {P : Program} {t : TypeId} {s : List UInt8} (h : WOk P t (.lit (.string s) : DataW H)) : s.length ≤ 1000000000000000 := by
  have h1 := h s.length (by rw [DataW.weights]; exact List.mem_cons_self ..)
  have h3 : reachBytes = 140737488351232 := rfl
  omega
/-- A row, element by element. -/
theorem row_of {α H : Type} (pv : α → PV) (Q : α → DataW H → Prop) : ∀ {es : List PV} {elems : List (DataW H)}, elems.length = es.length → (∀ (i : Nat) (p : PV) (q : DataW H), es[i]? = some p → elems[i]? = some q → ∃ x, p = pv x ∧ Q x q) →
    ∃ l : List α, es = l.map pv ∧ l.length = elems.length ∧ ∀ (i : Nat) (x : α) (q : DataW H), l[i]? = some x → elems[i]? = some q → Q x q
  | [], [], _, _ => ⟨[], rfl, rfl, fun i x q h => by simp at h⟩
  | p :: es, q :: elems, hl, h => by
    obtain ⟨x, rfl, hx⟩ := h 0 p q rfl rfl
    obtain ⟨l, rfl, h2, h3⟩ := row_of pv Q (es := es) (elems := elems) (by simpa using hl) (fun i p' q' h1 h2 => h (i + 1) p' q' (by simpa using h1) (by simpa using h2))
    refine ⟨x :: l, rfl, by simp [h2], fun i y q' h4 h5 => ?_⟩
    cases i with
    | zero => simp at h4 h5; subst h4; subst h5; exact hx
    | succ i => exact h3 i y q' (by simpa using h4) (by simpa using h5)
theorem row_mem {α H : Type} {Q : α → DataW H → Prop} {l : List α} {elems : List (DataW H)} (hl : l.length = elems.length) (h : ∀ (i : Nat) (x : α) (q : DataW H), l[i]? = some x → elems[i]? = some q → Q x q) {x : α} (hx : x ∈ l) : ∃ q ∈ elems, Q x q := by
  obtain ⟨i, hi, rfl⟩ := List.getElem_of_mem hx
  exact ⟨elems[i], List.getElem_mem _, h i _ _ (List.getElem?_eq_getElem hi) (List.getElem?_eq_getElem (by omega))⟩
theorem row_bulk {α H : Type} (f : α → Nat) : ∀ {l : List α} {elems : List (DataW H)}, l.length = elems.length → (∀ (i : Nat) (x : α) (q : DataW H), l[i]? = some x → elems[i]? = some q → f x ≤ Rows.uptoBulk q) → psum f l l.length ≤ Rows.uptoBulkAll elems
  | [], _, _, _ => by simp [psum]
  | x :: l, q :: elems, hl, h => by
    have h1 := h 0 x q rfl rfl
    have h2 := row_bulk f (l := l) (elems := elems) (by simpa using hl) (fun i y q' a b => h (i + 1) y q' (by simpa using a) (by simpa using b))
    rw [psum, List.take_length] at h2 ⊢
    rw [List.map_cons, List.sum_cons, Rows.uptoBulkAll]
    omega
theorem len_bulk {α H : Type} {l : List α} {elems : List (DataW H)} (hl : l.length = elems.length) : l.length ≤ Rows.uptoBulkAll elems := by
  have h : ∀ elems : List (DataW H), elems.length ≤ Rows.uptoBulkAll elems := by
    intro elems
    induction elems with
    | nil => simp [Rows.uptoBulkAll]
    | cons d elems ih =>
      rw [Rows.uptoBulkAll, List.length_cons]
      have : 1 ≤ Rows.uptoBulk d := by
        unfold Rows.uptoBulk
        split <;> omega
      omega
  have := h elems
  omega

theorem bulk_sl {H : Type} {elems spare : List (DataW H)} : Rows.uptoBulkAll elems + 1 ≤ Rows.uptoBulk (.slice elems spare) := by rw [Rows.uptoBulk]; omega
theorem bulk_nil {H : Type} : Rows.uptoBulk (.nil : DataW H) = 1 := by rw [Rows.uptoBulk]
theorem bulk_str {H : Type} {s : List UInt8} : Rows.uptoBulk (.lit (.string s) : DataW H) = s.length + 1 := by rw [Rows.uptoBulk]
theorem uLI : Tryd.prog.underlying 42 = some (.slice 2) := by kernel_rfl
theorem bI64 : 1 ≤ Tryd.prog.bytesOf 2 := by rw [show Tryd.prog.bytesOf 2 = 8 by kernel_rfl]; decide
theorem u61 : Tryd.prog.underlying 61 = some (.slice 5) := by kernel_rfl
theorem bU8 : Tryd.prog.bytesOf 5 = 1 := by kernel_rfl
theorem uRT : Tryd.prog.underlying 44 = some (.struct (flds Tryd.prog 44)) := by kernel_rfl
theorem tRT : (flds Tryd.prog 44).toList.map (·.type) = [3, 42, 9, 42] := by kernel_rfl
theorem uRS : Tryd.prog.underlying 28 = some (.slice 44) := by kernel_rfl
theorem bRT : 1 ≤ Tryd.prog.bytesOf 44 := by rw [show Tryd.prog.bytesOf 44 = 72 by kernel_rfl]; decide
theorem di_of {H : Type} {d : DataW H} {ps : List PV} (h : dSl 1 (dOne (dInt .i64)) H d ps) : ∃ l : List Int, ps = [.sl 1 (ints l)] ∧ (WOk Tryd.prog 42 d → l.length ≤ 1000000000000000) ∧ l.length + 1 ≤ Rows.uptoBulk d := by
  obtain ⟨es, rfl, hl, h⟩ := h
  rcases h with ⟨rfl, rfl⟩ | ⟨elems, spare, rfl, hlen, hall⟩
  · exact ⟨[], rfl, fun _ => by simp, by rw [bulk_nil]; simp⟩
  · obtain ⟨l, rfl, h2, -⟩ := row_of (α := Int) (fun n => PV.int .i64 n) (fun _ _ => True) hlen (fun i p q h1 h2 => by
      obtain ⟨n, he, -⟩ := hall i p q h1 h2
      cases he
      exact ⟨n, rfl, trivial⟩)
    refine ⟨l, rfl, fun hw => by have := (wsl uLI bI64 hw).1; omega, ?_⟩
    have h3 := len_bulk h2
    have h4 := bulk_sl (elems := elems) (spare := spare)
    omega
def dRqG (H : Type) (d : DataW H) (p : PV) : Prop := dAgg (dSt [dInt .i64, dSl 1 (dOne (dInt .i64)), dStr, dSl 1 (dOne (dInt .i64))]) H d p
theorem drq_of {H : Type} {d : DataW H} {p : PV} (h : dRqG H d p) : ∃ r : Rq, p = r.pv ∧ (WOk Tryd.prog 44 d → r.Wide) ∧ fr r ≤ Rows.uptoBulk d := by
  obtain ⟨ps, rfl, ds, rfl, h⟩ := h
  obtain ⟨_, _, d0, _, rfl, rfl, ⟨c, rfl, -, -⟩, _, _, d1, _, rfl, rfl, h1, _, _, d2, _, rfl, rfl, ⟨b, rfl, rfl, -⟩, _, _, d3, _, rfl, rfl, h3, rfl, rfl⟩ := h
  obtain ⟨N, rfl, n1, n2⟩ := di_of h1
  obtain ⟨L, rfl, l1, l2⟩ := di_of h3
  refine ⟨⟨c, N, b, L⟩, rfl, fun hw => ?_, ?_⟩
  · have hw := wst uRT hw
    rw [tRT] at hw
    obtain ⟨-, hw⟩ := weach hw
    obtain ⟨w1, hw⟩ := weach hw
    obtain ⟨w2, hw⟩ := weach hw
    obtain ⟨w3, -⟩ := weach hw
    exact ⟨n1 w1, wstr w2, l1 w3⟩
  · simp only [Rows.uptoBulk, Rows.uptoBulkAll] at *
    simp only [fr]
    omega
theorem drqs_of {H : Type} {d : DataW H} {ps : List PV} (h : dSl 4 dRqG H d ps) : ∃ X : List Rq, ps = [.sl 4 (rqL X)] ∧ (WOk Tryd.prog 28 d → X.length ≤ 1000000000000000 ∧ ∀ x ∈ X, x.Wide) ∧ psum fr X X.length + 1 ≤ Rows.uptoBulk d := by
  obtain ⟨es, rfl, hl, h⟩ := h
  rcases h with ⟨rfl, rfl⟩ | ⟨elems, spare, rfl, hlen, hall⟩
  · exact ⟨[], rfl, fun _ => ⟨by simp, fun x hx => by cases hx⟩, by rw [bulk_nil]; simp [psum]⟩
  · obtain ⟨X, rfl, h2, h3⟩ := row_of Rq.pv (fun x q => (WOk Tryd.prog 44 q → x.Wide) ∧ fr x ≤ Rows.uptoBulk q) hlen (fun i p q h1 h2 => by
      obtain ⟨x, e, w⟩ := drq_of (hall i p q h1 h2)
      exact ⟨x, e, w⟩)
    refine ⟨X, rfl, fun hw => ?_, ?_⟩
    · obtain ⟨w1, w2⟩ := wsl uRS bRT hw
      refine ⟨by omega, fun x hx => ?_⟩
      obtain ⟨q, hq, hx⟩ := row_mem h2 h3 hx
      exact hx.1 (w2 q hq)
    · have h4 := row_bulk fr h2 (fun i x q a b => (h3 i x q a b).2)
      have h5 := bulk_sl (elems := elems) (spare := spare)
      omega
theorem decDLi : DecD Tryd.prog 42 (dSl 1 (dOne (dInt .i64))) := by
  have := DecD.sl (P := Tryd.prog) (t := 42) (e := 2) (g := dInt .i64) (G := dOne (dInt .i64)) (by kernel_rfl) (.int (by kernel_rfl)) (by rw [show Tryd.prog.cellsOf 2 = 1 by kernel_rfl]; decide) (fun H d ps hl h => by obtain ⟨n, rfl, hd, hw⟩ := h; exact ⟨.int .i64 n, rfl, n, rfl, hd, hw⟩)
  rwa [show Tryd.prog.cellsOf 2 = 1 by kernel_rfl] at this
theorem decDRq : DecD Tryd.prog 44 (dSt [dInt .i64, dSl 1 (dOne (dInt .i64)), dStr, dSl 1 (dOne (dInt .i64))]) := by
  have hm : (flds Tryd.prog 44).toList.map (fun f => (f.offset, f.type)) = [(0, 3), (1, 42), (2, 9), (3, 42)] := by kernel_rfl
  have hc : Tryd.prog.cellsOf 44 = 4 := by kernel_rfl
  refine DecD.struct (fs := flds Tryd.prog 44) (by kernel_rfl) ?_
  rw [hc]
  generalize (flds Tryd.prog 44).toList = fs at hm
  have hlen : fs.length = 4 := by simpa using congrArg List.length hm
  match fs, hlen, hm with
  | [f0, f1, f2, f3], _, hm =>
    simp only [List.map_cons, List.map_nil, List.cons.injEq, Prod.mk.injEq, and_true] at hm
    obtain ⟨⟨o0, t0⟩, ⟨o1, t1⟩, ⟨o2, t2⟩, o3, t3⟩ := hm
    refine .cons (0) f0 [f1, f2, f3] _ _ 4 o0 (by rw [t0]; exact .int (by kernel_rfl)) ?_
    rw [t0, show Tryd.prog.cellsOf 3 = 1 by kernel_rfl]
    refine .cons (0 + 1) f1 [f2, f3] _ _ 4 o1 (by rw [t1]; exact decDLi) ?_
    rw [t1, show Tryd.prog.cellsOf 42 = 1 by kernel_rfl]
    refine .cons (0 + 1 + 1) f2 [f3] _ _ 4 o2 (by rw [t2]; exact .str (by kernel_rfl)) ?_
    rw [t2, show Tryd.prog.cellsOf 9 = 1 by kernel_rfl]
    refine .cons (0 + 1 + 1 + 1) f3 [] _ _ 4 o3 (by rw [t3]; exact decDLi) ?_
    rw [t3, show Tryd.prog.cellsOf 42 = 1 by kernel_rfl]
    exact .nil 4
theorem decERq : DecE Tryd.prog 44 dRqG := .agg decDRq ⟨_, uRT⟩
theorem drq_cells (H : Type) (d : DataW H) (ps : List PV) (hl : ps.length = Tryd.prog.cellsOf 44) (h : dSt [dInt .i64, dSl 1 (dOne (dInt .i64)), dStr, dSl 1 (dOne (dInt .i64))] H d ps) : ∃ p : PV, p.cells = ps ∧ dRqG H d p := ⟨.agg ps, rfl, ps, rfl, h⟩
theorem decDRqs : DecD Tryd.prog 28 (dSl 4 dRqG) := by
  have := DecD.sl (P := Tryd.prog) (t := 28) (e := 44) (G := dRqG) uRS decDRq (by rw [show Tryd.prog.cellsOf 44 = 4 by kernel_rfl]; decide) drq_cells
  rwa [show Tryd.prog.cellsOf 44 = 4 by kernel_rfl] at this
theorem dbys_of {H : Type} {d : DataW H} {ps : List PV} (h : dSl 1 (dOne (dInt .u8)) H d ps) : ∃ l : List Nat, ps = [.sl 1 (l.map fun (n : Nat) => .int .u8 (n : Int))] ∧ (∀ c ∈ l, c < 256) ∧ (WOk Tryd.prog 61 d → l.length ≤ 140737488351232) ∧ l.length + 1 ≤ Rows.uptoBulk d := by
  obtain ⟨es, rfl, hl, h⟩ := h
  rcases h with ⟨rfl, rfl⟩ | ⟨elems, spare, rfl, hlen, hall⟩
  · exact ⟨[], rfl, fun c hc => (by cases hc), fun _ => by simp, by rw [bulk_nil]; simp⟩
  · obtain ⟨l, rfl, h2, h3⟩ := row_of (α := Nat) (fun n => PV.int .u8 (n : Int)) (fun n _ => n < 256) hlen (fun i p q h1 h2 => by
      obtain ⟨n, he, -, hw⟩ := hall i p q h1 h2
      cases he
      obtain ⟨a, rfl, ha⟩ := nat_u8 hw
      exact ⟨a, rfl, ha⟩)
    refine ⟨l, rfl, fun c hc => (row_mem h2 h3 hc).choose_spec.2, fun hw => ?_, ?_⟩
    · unfold WOk at hw
      rw [DataW.weights, u61] at hw
      have h1 := hw _ (List.mem_cons_self ..)
      rw [bU8, Nat.mul_one] at h1
      have h3 : reachBytes = 140737488351232 := rfl
      omega
    · have h3 := len_bulk h2
      have h4 := bulk_sl (elems := elems) (spare := spare)
      omega
theorem decDBys : DecD Tryd.prog 61 (dSl 1 (dOne (dInt .u8))) := by
  have := DecD.sl (P := Tryd.prog) (t := 61) (e := 5) (g := dInt .u8) (G := dOne (dInt .u8)) (by kernel_rfl) (.int (by kernel_rfl)) (by rw [show Tryd.prog.cellsOf 5 = 1 by kernel_rfl]; decide) (fun H d ps hl h => by obtain ⟨n, rfl, hd, hw⟩ := h; exact ⟨.int .u8 n, rfl, n, rfl, hd, hw⟩)
  rwa [show Tryd.prog.cellsOf 5 = 1 by kernel_rfl] at this
theorem decEBys : DecE Tryd.prog 61 (dOne (dSl 1 (dOne (dInt .u8)))) := .ofC decDBys (.inr (.inr (.inr ⟨_, u61⟩)))
theorem decERqs : DecE Tryd.prog 28 (dOne (dSl 4 dRqG)) := .ofC decDRqs (.inr (.inr (.inr ⟨_, uRS⟩)))
end Go.Proofs.YtbpjoeopnaggoaaDoor

/- The seat's rows: acts, as arguments. -/
set_option maxRecDepth 100000
set_option linter.unusedVariables false
namespace Go.Proofs.YtbpjoeopnaggoaaDoor
open Go.Pv Go.Proofs.Sh

theorem uOT : Tryd.prog.underlying 64 = some (.struct (flds Tryd.prog 64)) := by kernel_rfl
theorem uOS : Tryd.prog.underlying 29 = some (.slice 64) := by kernel_rfl
theorem uAT : Tryd.prog.underlying 31 = some (.struct (flds Tryd.prog 31)) := by kernel_rfl
theorem uAS : Tryd.prog.underlying 27 = some (.slice 31) := by kernel_rfl
def dOtG (H : Type) (d : DataW H) (p : PV) : Prop := dAgg (dSt [dInt .i64, dInt .i64, dInt .i64, dSl 1 (dOne (dInt .i64)), dStr, dSl 1 (dOne (dInt .i64))]) H d p
theorem dot_of {H : Type} {d : DataW H} {p : PV} (h : dOtG H d p) : ∃ r : Ot, p = r.pv ∧ r.Wf ∧ fo r ≤ Rows.uptoBulk d := by
  obtain ⟨ps, rfl, ds, rfl, h⟩ := h
  obtain ⟨_, _, d0, _, rfl, rfl, ⟨k, rfl, -, hk⟩, _, _, d1, _, rfl, rfl, ⟨c, rfl, -, hc⟩, _, _, d2, _, rfl, rfl, ⟨q, rfl, -, hq⟩, _, _, d3, _, rfl, rfl, h3, _, _, d4, _, rfl, rfl, ⟨b, rfl, rfl, -⟩, _, _, d5, _, rfl, rfl, h5, rfl, rfl⟩ := h
  obtain ⟨N, rfl, n1, n2⟩ := di_of h3
  obtain ⟨L, rfl, l1, l2⟩ := di_of h5
  refine ⟨⟨k, c, q, N, b, L⟩, rfl, ⟨hk, hc, hq⟩, ?_⟩
  simp only [Rows.uptoBulk, Rows.uptoBulkAll] at *
  simp only [fo]
  omega
theorem dots_of {H : Type} {d : DataW H} {ps : List PV} (h : dSl 6 dOtG H d ps) : ∃ X : List Ot, ps = [.sl 6 (oL X)] ∧ (∀ x ∈ X, x.Wf) ∧ psum fo X X.length + 1 ≤ Rows.uptoBulk d := by
  obtain ⟨es, rfl, hl, h⟩ := h
  rcases h with ⟨rfl, rfl⟩ | ⟨elems, spare, rfl, hlen, hall⟩
  · exact ⟨[], rfl, fun x hx => (by cases hx), by rw [bulk_nil]; simp [psum]⟩
  · obtain ⟨X, rfl, h2, h3⟩ := row_of Ot.pv (fun x q => x.Wf ∧ fo x ≤ Rows.uptoBulk q) hlen (fun i p q h1 h2 => by
      obtain ⟨x, e, w⟩ := dot_of (hall i p q h1 h2)
      exact ⟨x, e, w⟩)
    refine ⟨X, rfl, fun x hx => ?_, ?_⟩
    · obtain ⟨q, hq, hx⟩ := row_mem h2 h3 hx
      exact hx.1
    · have h4 := row_bulk fo h2 (fun i x q a b => (h3 i x q a b).2)
      have h5 := bulk_sl (elems := elems) (spare := spare)
      omega
def dActG (H : Type) (d : DataW H) (p : PV) : Prop := dAgg (dSt [dSl 4 dRqG, dSl 6 dOtG]) H d p
theorem dact_of {H : Type} {d : DataW H} {p : PV} (h : dActG H d p) : ∃ a : Ac, p = a.pv ∧ (∀ x ∈ a.I, x.Wf) ∧ fA a ≤ Rows.uptoBulk d := by
  obtain ⟨ps, rfl, ds, rfl, h⟩ := h
  obtain ⟨_, _, d0, _, rfl, rfl, h0, _, _, d1, _, rfl, rfl, h1, rfl, rfl⟩ := h
  obtain ⟨X, rfl, x1, x2⟩ := drqs_of h0
  obtain ⟨I, rfl, i1, i2⟩ := dots_of h1
  refine ⟨⟨X, I⟩, rfl, i1, ?_⟩
  simp only [Rows.uptoBulk, Rows.uptoBulkAll] at *
  simp only [fA]
  omega
theorem dacts_of {H : Type} {d : DataW H} {ps : List PV} (h : dSl 2 dActG H d ps) : ∃ X : List Ac, ps = [.sl 2 (acL X)] ∧ (∀ a ∈ X, ∀ x ∈ a.I, x.Wf) ∧ fewN X + 1 ≤ Rows.uptoBulk d := by
  obtain ⟨es, rfl, hl, h⟩ := h
  rcases h with ⟨rfl, rfl⟩ | ⟨elems, spare, rfl, hlen, hall⟩
  · exact ⟨[], rfl, fun x hx => (by cases hx), by rw [bulk_nil]; simp [fewN, psum]⟩
  · obtain ⟨X, rfl, h2, h3⟩ := row_of Ac.pv (fun a q => (∀ x ∈ a.I, x.Wf) ∧ fA a ≤ Rows.uptoBulk q) hlen (fun i p q h1 h2 => by
      obtain ⟨x, e, w⟩ := dact_of (hall i p q h1 h2)
      exact ⟨x, e, w⟩)
    refine ⟨X, rfl, fun x hx => ?_, ?_⟩
    · obtain ⟨q, hq, hx⟩ := row_mem h2 h3 hx
      exact hx.1
    · have h4 := row_bulk fA h2 (fun i x q a b => (h3 i x q a b).2)
      have h5 := bulk_sl (elems := elems) (spare := spare)
      rw [fewN]; omega
theorem decDOt : DecD Tryd.prog 64 (dSt [dInt .i64, dInt .i64, dInt .i64, dSl 1 (dOne (dInt .i64)), dStr, dSl 1 (dOne (dInt .i64))]) := by
  have hm : (flds Tryd.prog 64).toList.map (fun f => (f.offset, f.type)) = [(0, 3), (1, 3), (2, 3), (3, 42), (4, 9), (5, 42)] := by kernel_rfl
  have hc : Tryd.prog.cellsOf 64 = 6 := by kernel_rfl
  refine DecD.struct (fs := flds Tryd.prog 64) (by kernel_rfl) ?_
  rw [hc]
  generalize (flds Tryd.prog 64).toList = fs at hm
  have hlen : fs.length = 6 := by simpa using congrArg List.length hm
  match fs, hlen, hm with
  | [f0, f1, f2, f3, f4, f5], _, hm =>
    simp only [List.map_cons, List.map_nil, List.cons.injEq, Prod.mk.injEq, and_true] at hm
    obtain ⟨⟨o0, t0⟩, ⟨o1, t1⟩, ⟨o2, t2⟩, ⟨o3, t3⟩, ⟨o4, t4⟩, o5, t5⟩ := hm
    refine .cons (0) f0 [f1, f2, f3, f4, f5] _ _ 6 o0 (by rw [t0]; exact .int (by kernel_rfl)) ?_
    rw [t0, show Tryd.prog.cellsOf 3 = 1 by kernel_rfl]
    refine .cons (0 + 1) f1 [f2, f3, f4, f5] _ _ 6 o1 (by rw [t1]; exact .int (by kernel_rfl)) ?_
    rw [t1, show Tryd.prog.cellsOf 3 = 1 by kernel_rfl]
    refine .cons (0 + 1 + 1) f2 [f3, f4, f5] _ _ 6 o2 (by rw [t2]; exact .int (by kernel_rfl)) ?_
    rw [t2, show Tryd.prog.cellsOf 3 = 1 by kernel_rfl]
    refine .cons (0 + 1 + 1 + 1) f3 [f4, f5] _ _ 6 o3 (by rw [t3]; exact decDLi) ?_
    rw [t3, show Tryd.prog.cellsOf 42 = 1 by kernel_rfl]
    refine .cons (0 + 1 + 1 + 1 + 1) f4 [f5] _ _ 6 o4 (by rw [t4]; exact .str (by kernel_rfl)) ?_
    rw [t4, show Tryd.prog.cellsOf 9 = 1 by kernel_rfl]
    refine .cons (0 + 1 + 1 + 1 + 1 + 1) f5 [] _ _ 6 o5 (by rw [t5]; exact decDLi) ?_
    rw [t5, show Tryd.prog.cellsOf 42 = 1 by kernel_rfl]
    exact .nil 6
theorem decDOts : DecD Tryd.prog 29 (dSl 6 dOtG) := by
  have := DecD.sl (P := Tryd.prog) (t := 29) (e := 64) (G := dOtG) uOS decDOt (by rw [show Tryd.prog.cellsOf 64 = 6 by kernel_rfl]; decide) (fun H d ps hl h => ⟨.agg ps, rfl, ps, rfl, h⟩)
  rwa [show Tryd.prog.cellsOf 64 = 6 by kernel_rfl] at this
theorem decDAct : DecD Tryd.prog 31 (dSt [dSl 4 dRqG, dSl 6 dOtG]) := by
  have hm : (flds Tryd.prog 31).toList.map (fun f => (f.offset, f.type)) = [(0, 28), (1, 29)] := by kernel_rfl
  have hc : Tryd.prog.cellsOf 31 = 2 := by kernel_rfl
  refine DecD.struct (fs := flds Tryd.prog 31) (by kernel_rfl) ?_
  rw [hc]
  generalize (flds Tryd.prog 31).toList = fs at hm
  have hlen : fs.length = 2 := by simpa using congrArg List.length hm
  match fs, hlen, hm with
  | [f0, f1], _, hm =>
    simp only [List.map_cons, List.map_nil, List.cons.injEq, Prod.mk.injEq, and_true] at hm
    obtain ⟨⟨o0, t0⟩, o1, t1⟩ := hm
    refine .cons (0) f0 [f1] _ _ 2 o0 (by rw [t0]; exact decDRqs) ?_
    rw [t0, show Tryd.prog.cellsOf 28 = 1 by kernel_rfl]
    refine .cons (0 + 1) f1 [] _ _ 2 o1 (by rw [t1]; exact decDOts) ?_
    rw [t1, show Tryd.prog.cellsOf 29 = 1 by kernel_rfl]
    exact .nil 2
theorem decDActs : DecD Tryd.prog 27 (dSl 2 dActG) := by
  have := DecD.sl (P := Tryd.prog) (t := 27) (e := 31) (G := dActG) uAS decDAct (by rw [show Tryd.prog.cellsOf 31 = 2 by kernel_rfl]; decide) (fun H d ps hl h => ⟨.agg ps, rfl, ps, rfl, h⟩)
  rwa [show Tryd.prog.cellsOf 31 = 2 by kernel_rfl] at this
theorem decEActs : DecE Tryd.prog 27 (dOne (dSl 2 dActG)) := .ofC decDActs (.inr (.inr (.inr ⟨_, uAS⟩)))
end Go.Proofs.YtbpjoeopnaggoaaDoor
