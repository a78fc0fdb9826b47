/- The frame of the seat's rows: the package-level variables as they are laid; requests as arguments. -/
import Derived.Test.YtoemcdgebkkcoaaGreatDoorPxBase
import Derived.Test.YtoemcdgebkkcoaaGreatDoorPvXj
import Derived.Test.YtoemcdgebkkcoaaGreatDoorRows
import Derived.Test.YtoemcdgebkkcoaaGreatDoorPxG6
import Derived.Deep.DeepWitnessRowRef
import Derived.Test.YtoemcdgebkkcoaaGreatDoorPxU3
import Derived.Test.YtoemcdgebkkcoaaGreatDoorCards
import Derived.Test.YtoemcdgebkkcoaaGreatDoorTie
set_option maxRecDepth 100000
namespace Go.Proofs.YtoemcdgebkkcoaaGreatDoor
open Go.Pv Go.Proofs.Sh
def flds (P : Program) (t : TypeId) : Array Field := match P.underlying t with | some (.struct fs) => fs | _ => #[]
theorem flds_at {fs : Array Field} {j o : Nat} {T : TypeId} (h : (fs[j]?).map (fun f => (f.offset, f.type)) = some (o, T)) {f : Field} (hf : fs[j]? = some f) : f.offset = o ∧ f.type = T := by
 rw [hf] at h; simp at h; exact h
theorem own : ownKnob Tryz.prog.godebug = none := by kernel_rfl
theorem laidOut : laidOutB Tryz.prog = true := by kernel_rfl
def laidV : List (String × DataW Unit) := [("glazier/order.spans", Rows.laid_glazier_order_spans), ("unicode.White_Space", Rows.laid_unicode_White_Space), ("strings.asciiSpace", Rows.laid_strings_asciiSpace), ("glazier/format.sizes", Rows.laid_glazier_format_sizes)]
theorem tabIs : Tryz.gtab.tab = [(0, (gat Tryz.gtab.tab 0).getD []), (2, (gat Tryz.gtab.tab 2).getD []), (4, (gat Tryz.gtab.tab 4).getD [])] := by kernel_rfl
theorem glOf (W : World) (h : laidMetH Tryz.prog laidV W) : ∀ k ps, gat GTab.tab k = some ps → PRel (allH W) (.pointer (some ⟨k, 0, none⟩)) (.loc ps) := by
 intro k ps hk
 rw [MakeChecks.laidMetH_plain _ _ _ (by kernel_rfl)] at h
 obtain ⟨places, hl, -, -⟩ := h
 have hk1 : gat Tryz.gtab.tab k = some ps := hk
 have h0 : pvsEq ((gat Tryz.gtab.tab 0).getD []) (dRows (Rows.laid_glazier_order_spans : DataW Unit)) = true := by kernel_rfl
 have h2 : pvsEq ((gat Tryz.gtab.tab 2).getD []) (dInts .u8 (dParts (Rows.laid_strings_asciiSpace : DataW Unit))) = true := by kernel_rfl
 have h4 : pvsEq ((gat Tryz.gtab.tab 4).getD []) (dInts .i64 (dParts (Rows.laid_glazier_format_sizes : DataW Unit))) = true := by kernel_rfl
 have hk0 : k = 0 ∨ k = 2 ∨ k = 4 := by
  rw [tabIs] at hk1
  unfold gat at hk1
  split at hk1
  ·rename_i hb; exact .inl (Nat.eq_of_beq_eq_true hb).symm
  ·skip
   unfold gat at hk1
   split at hk1
   ·rename_i hb; exact .inr (.inl (Nat.eq_of_beq_eq_true hb).symm)
   ·skip
    unfold gat at hk1
    split at hk1
    ·rename_i hb; exact .inr (.inr ((Nat.eq_of_beq_eq_true hb).symm))
    ·cases hk1
 rcases hk0 with rfl | rfl | rfl
 ·rw [hk1] at h0
  have hs : (flds Tryz.prog 130).size = 3 := by kernel_rfl
  refine loc_of_rows (m := 3) hl (by simp [laidV]) (show Tryz.prog.globalNamed "glazier/order.spans" = some 0 by kernel_rfl) (show (Tryz.prog.globals[0]?).map (·.type) = some 155 by kernel_rfl) (show Tryz.prog.underlying 155 = some (.array 6 130) by kernel_rfl) (fs := flds Tryz.prog 130) (by kernel_rfl) hs (by decide) (fun j f hf => ?_) (by kernel_rfl) (by kernel_rfl) h0
  match j, hf with
  | 0, hf => obtain ⟨ho, ht⟩ := flds_at (show ((flds Tryz.prog 130)[0]?).map (fun f => (f.offset, f.type)) = some (0, 3) by kernel_rfl) hf; rw [ho, ht]; exact ⟨rfl, by kernel_rfl, .i64, by kernel_rfl⟩
  | 1, hf => obtain ⟨ho, ht⟩ := flds_at (show ((flds Tryz.prog 130)[1]?).map (fun f => (f.offset, f.type)) = some (1, 2) by kernel_rfl) hf; rw [ho, ht]; exact ⟨rfl, by kernel_rfl, .i64, by kernel_rfl⟩
  | 2, hf => obtain ⟨ho, ht⟩ := flds_at (show ((flds Tryz.prog 130)[2]?).map (fun f => (f.offset, f.type)) = some (2, 2) by kernel_rfl) hf; rw [ho, ht]; exact ⟨rfl, by kernel_rfl, .i64, by kernel_rfl⟩
  | j + 3, hf => rw [Array.getElem?_eq_none (by omega)] at hf; cases hf
 ·rw [hk1] at h2
  exact loc_of_ints hl (by simp [laidV]) (show Tryz.prog.globalNamed "strings.asciiSpace" = some 2 by kernel_rfl) (show (Tryz.prog.globals[2]?).map (·.type) = some 170 by kernel_rfl) (show Tryz.prog.underlying 170 = some (.array 256 5) by kernel_rfl) (show Tryz.prog.underlying 5 = some (.int .u8) by kernel_rfl) (by kernel_rfl) (by kernel_rfl) h2
 ·rw [hk1] at h4
  exact loc_of_ints hl (by simp [laidV]) (show Tryz.prog.globalNamed "glazier/format.sizes" = some 4 by kernel_rfl) (show (Tryz.prog.globals[4]?).map (·.type) = some 187 by kernel_rfl) (show Tryz.prog.underlying 187 = some (.array 6 3) by kernel_rfl) (show Tryz.prog.underlying 3 = some (.int .i64) by kernel_rfl) (by kernel_rfl) (by kernel_rfl) h4
theorem door_met (os : Os) (args : Array Value) : laidMetH Tryz.prog laidV ((World.doorLaid Tryz.prog 400 os).forCall (fun _ _ => 0) ⟨#[], args, []⟩).memory :=
 laidMetH_of_parts3 (fuel := 8) (laidMet_of_run' 8 (by kernel_rfl) (by kernel_rfl)) (by kernel_rfl) (by kernel_rfl)
end Go.Proofs.YtoemcdgebkkcoaaGreatDoor
set_option maxRecDepth 100000
set_option linter.unusedVariables false
namespace Go.Proofs.YtoemcdgebkkcoaaGreatDoor
open Go.Pv Go.Proofs.Sh
def psum {α : Type} (f : α → Nat) (l : List α) (i : Nat) : Nat := ((l.take i).map f).sum
def fr (r : Rq) : Nat := 1 + r.N.length + r.L.length + r.B.length
def WOk {H : Type} (P : Program) (t : TypeId) (d : DataW H) : Prop := ∀ n ∈ d.weights P t, n ≤ reachBytes
theorem mem_wAll {H : Type} {P : Program} {e : TypeId} {d : DataW H} {n : Nat} : ∀ {l : List (DataW H)}, d ∈ l → n ∈ d.weights P e → n ∈ DataW.weightsAll P e l
 | x :: l, h, hn => by
  rw [DataW.weightsAll, List.mem_append]
  rcases List.mem_cons.1 h with rfl | h
  ·exact .inl hn
  ·exact .inr (mem_wAll h hn)
theorem wsl {H : Type} {P : Program} {t e : TypeId} {elems spare : List (DataW H)} (hu : P.underlying t = some (.slice e)) (hb : 1 ≤ P.bytesOf e) (h : WOk P t (.slice elems spare)) : elems.length ≤ 1000000000000000 ∧ ∀ d ∈ elems, WOk P e d := by
 unfold WOk at h
 rw [DataW.weights, hu] at h
 simp only at h
 refine ⟨?_, fun d hd n hn => h n (List.mem_cons_of_mem _ (List.mem_append_left _ (mem_wAll hd hn)))⟩
 have h1 := h _ (List.mem_cons_self ..)
 have h2 : (elems.length + spare.length) * 1 ≤ (elems.length + spare.length) * P.bytesOf e := Nat.mul_le_mul_left _ hb
 have h3 : reachBytes = 140737488351232 := rfl
 omega
theorem wst {H : Type} {P : Program} {t : TypeId} {fs : Array Field} {parts : List (DataW H)} (hu : P.underlying t = some (.struct fs)) (h : WOk P t (.agg parts)) : ∀ n ∈ DataW.weightsEach P (fs.toList.map (·.type)) parts, n ≤ reachBytes := by
 unfold WOk at h
 rw [DataW.weights, hu] at h
 exact h
theorem weach {H : Type} {P : Program} {t : TypeId} {ts : List TypeId} {d : DataW H} {ds : List (DataW H)} (h : ∀ n ∈ DataW.weightsEach P (t :: ts) (d :: ds), n ≤ reachBytes) : WOk P t d ∧ ∀ n ∈ DataW.weightsEach P ts ds, n ≤ reachBytes := by
 rw [DataW.weightsEach] at h
 exact ⟨fun n hn => h n (List.mem_append_left _ hn), fun n hn => h n (List.mem_append_right _ hn)⟩
theorem wstr {H : Type} {P : Program} {t : TypeId} {s : List UInt8} (h : WOk P t (.lit (.string s) : DataW H)) : s.length ≤ 1000000000000000 := by
 have h1 := h s.length (by rw [DataW.weights]; exact List.mem_cons_self ..)
 have h3 : reachBytes = 140737488351232 := rfl
 omega
theorem row_of {α H : Type} (pv : α → PV) (Q : α → DataW H → Prop) : ∀ {es : List PV} {elems : List (DataW H)}, elems.length = es.length → (∀ (i : Nat) (p : PV) (q : DataW H), es[i]? = some p → elems[i]? = some q → ∃ x, p = pv x ∧ Q x q) →
 ∃ l : List α, es = l.map pv ∧ l.length = elems.length ∧ ∀ (i : Nat) (x : α) (q : DataW H), l[i]? = some x → elems[i]? = some q → Q x q
 | [], [], _, _ => ⟨[], rfl, rfl, fun i x q h => by simp at h⟩
 | p :: es, q :: elems, hl, h => by
  obtain ⟨x, rfl, hx⟩ := h 0 p q rfl rfl
  obtain ⟨l, rfl, h2, h3⟩ := row_of pv Q (es := es) (elems := elems) (by simpa using hl) (fun i p' q' h1 h2 => h (i + 1) p' q' (by simpa using h1) (by simpa using h2))
  refine ⟨x :: l, rfl, by simp [h2], fun i y q' h4 h5 => ?_⟩
  cases i with
  | zero => simp at h4 h5; subst h4; subst h5; exact hx
  | succ i => exact h3 i y q' (by simpa using h4) (by simpa using h5)
theorem row_mem {α H : Type} {Q : α → DataW H → Prop} {l : List α} {elems : List (DataW H)} (hl : l.length = elems.length) (h : ∀ (i : Nat) (x : α) (q : DataW H), l[i]? = some x → elems[i]? = some q → Q x q) {x : α} (hx : x ∈ l) : ∃ q ∈ elems, Q x q := by
 obtain ⟨i, hi, rfl⟩ := List.getElem_of_mem hx
 exact ⟨elems[i], List.getElem_mem _, h i _ _ (List.getElem?_eq_getElem hi) (List.getElem?_eq_getElem (by omega))⟩
theorem row_bulk {α H : Type} (f : α → Nat) : ∀ {l : List α} {elems : List (DataW H)}, l.length = elems.length → (∀ (i : Nat) (x : α) (q : DataW H), l[i]? = some x → elems[i]? = some q → f x ≤ Rows.uptoBulk q) → psum f l l.length ≤ Rows.uptoBulkAll elems
 | [], _, _, _ => by simp [psum]
 | x :: l, q :: elems, hl, h => by
  have h1 := h 0 x q rfl rfl
  have h2 := row_bulk f (l := l) (elems := elems) (by simpa using hl) (fun i y q' a b => h (i + 1) y q' (by simpa using a) (by simpa using b))
  rw [psum, List.take_length] at h2 ⊢
  rw [List.map_cons, List.sum_cons, Rows.uptoBulkAll]
  omega
theorem len_bulk {α H : Type} {l : List α} {elems : List (DataW H)} (hl : l.length = elems.length) : l.length ≤ Rows.uptoBulkAll elems := by
 have h : ∀ elems : List (DataW H), elems.length ≤ Rows.uptoBulkAll elems := by
  intro elems
  induction elems with
  | nil => simp [Rows.uptoBulkAll]
  | cons d elems ih =>
   rw [Rows.uptoBulkAll, List.length_cons]
   have : 1 ≤ Rows.uptoBulk d := by
    unfold Rows.uptoBulk
    split <;> omega
   omega
 have := h elems
 omega
theorem bulk_sl {H : Type} {elems spare : List (DataW H)} : Rows.uptoBulkAll elems + 1 ≤ Rows.uptoBulk (.slice elems spare) := by rw [Rows.uptoBulk]; omega
theorem bulk_nil {H : Type} : Rows.uptoBulk (.nil : DataW H) = 1 := by rw [Rows.uptoBulk]
theorem uLI : Tryz.prog.underlying 66 = some (.slice 2) := by kernel_rfl
theorem bI64 : 1 ≤ Tryz.prog.bytesOf 2 := by rw [show Tryz.prog.bytesOf 2 = 8 by kernel_rfl]; decide
theorem uRT : Tryz.prog.underlying 76 = some (.struct (flds Tryz.prog 76)) := by kernel_rfl
theorem tRT : (flds Tryz.prog 76).toList.map (·.type) = [3, 66, 9, 66] := by kernel_rfl
theorem uRS : Tryz.prog.underlying 22 = some (.slice 76) := by kernel_rfl
theorem bRT : 1 ≤ Tryz.prog.bytesOf 76 := by rw [show Tryz.prog.bytesOf 76 = 72 by kernel_rfl]; decide
theorem di_of {H : Type} {d : DataW H} {ps : List PV} (h : dSl 1 (dOne (dInt .i64)) H d ps) : ∃ l : List Int, ps = [.sl 1 (ints l)] ∧ (WOk Tryz.prog 66 d → l.length ≤ 1000000000000000) ∧ l.length + 1 ≤ Rows.uptoBulk d := by
 obtain ⟨es, rfl, hl, h⟩ := h
 rcases h with ⟨rfl, rfl⟩ | ⟨elems, spare, rfl, hlen, hall⟩
 ·exact ⟨[], rfl, fun _ => by simp, by rw [bulk_nil]; simp⟩
 ·obtain ⟨l, rfl, h2, -⟩ := row_of (α := Int) (fun n => PV.int .i64 n) (fun _ _ => True) hlen (fun i p q h1 h2 => by
   obtain ⟨n, he, -⟩ := hall i p q h1 h2
   cases he
   exact ⟨n, rfl, trivial⟩)
  refine ⟨l, rfl, fun hw => by have := (wsl uLI bI64 hw).1; omega, ?_⟩
  have h3 := len_bulk h2
  have h4 := bulk_sl (elems := elems) (spare := spare)
  omega
def dRqG (H : Type) (d : DataW H) (p : PV) : Prop := dAgg (dSt [dInt .i64, dSl 1 (dOne (dInt .i64)), dStr, dSl 1 (dOne (dInt .i64))]) H d p
theorem drq_of {H : Type} {d : DataW H} {p : PV} (h : dRqG H d p) : ∃ r : Rq, p = r.pv ∧ (WOk Tryz.prog 76 d → r.Few) ∧ fr r ≤ Rows.uptoBulk d := by
 obtain ⟨ps, rfl, ds, rfl, h⟩ := h
 obtain ⟨_, _, d0, _, rfl, rfl, ⟨c, rfl, -, -⟩, _, _, d1, _, rfl, rfl, h1, _, _, d2, _, rfl, rfl, ⟨b, rfl, rfl, -⟩, _, _, d3, _, rfl, rfl, h3, rfl, rfl⟩ := h
 obtain ⟨N, rfl, n1, n2⟩ := di_of h1
 obtain ⟨L, rfl, l1, l2⟩ := di_of h3
 refine ⟨⟨c, N, b, L⟩, rfl, fun hw => ?_, ?_⟩
 ·have hw := wst uRT hw
  rw [tRT] at hw
  obtain ⟨-, hw⟩ := weach hw
  obtain ⟨w1, hw⟩ := weach hw
  obtain ⟨w2, hw⟩ := weach hw
  obtain ⟨w3, -⟩ := weach hw
  exact ⟨n1 w1, wstr w2, l1 w3⟩
 ·simp only [Rows.uptoBulk, Rows.uptoBulkAll] at *
  simp only [fr]
  omega
theorem drqs_of {H : Type} {d : DataW H} {ps : List PV} (h : dSl 4 dRqG H d ps) : ∃ X : List Rq, ps = [.sl 4 (rqL X)] ∧ (WOk Tryz.prog 22 d → X.length ≤ 1000000000000000 ∧ ∀ x ∈ X, x.Few) ∧ psum fr X X.length + 1 ≤ Rows.uptoBulk d := by
 obtain ⟨es, rfl, hl, h⟩ := h
 rcases h with ⟨rfl, rfl⟩ | ⟨elems, spare, rfl, hlen, hall⟩
 ·exact ⟨[], rfl, fun _ => ⟨by simp, fun x hx => by cases hx⟩, by rw [bulk_nil]; simp [psum]⟩
 ·obtain ⟨X, rfl, h2, h3⟩ := row_of Rq.pv (fun x q => (WOk Tryz.prog 76 q → x.Few) ∧ fr x ≤ Rows.uptoBulk q) hlen (fun i p q h1 h2 => by
   obtain ⟨x, e, w⟩ := drq_of (hall i p q h1 h2)
   exact ⟨x, e, w⟩)
  refine ⟨X, rfl, fun hw => ?_, ?_⟩
  ·obtain ⟨w1, w2⟩ := wsl uRS bRT hw
   refine ⟨by omega, fun x hx => ?_⟩
   obtain ⟨q, hq, hx⟩ := row_mem h2 h3 hx
   exact hx.1 (w2 q hq)
  ·have h4 := row_bulk fr h2 (fun i x q a b => (h3 i x q a b).2)
   have h5 := bulk_sl (elems := elems) (spare := spare)
   omega
theorem decDLi : DecD Tryz.prog 66 (dSl 1 (dOne (dInt .i64))) := by
 have := DecD.sl (P := Tryz.prog) (t := 66) (e := 2) (g := dInt .i64) (G := dOne (dInt .i64)) (by kernel_rfl) (.int (by kernel_rfl)) (by rw [show Tryz.prog.cellsOf 2 = 1 by kernel_rfl]; decide) (fun H d ps hl h => by obtain ⟨n, rfl, hd, hw⟩ := h; exact ⟨.int .i64 n, rfl, n, rfl, hd, hw⟩)
 rwa [show Tryz.prog.cellsOf 2 = 1 by kernel_rfl] at this
theorem decDRq : DecD Tryz.prog 76 (dSt [dInt .i64, dSl 1 (dOne (dInt .i64)), dStr, dSl 1 (dOne (dInt .i64))]) := by
 have hm : (flds Tryz.prog 76).toList.map (fun f => (f.offset, f.type)) = [(0, 3), (1, 66), (2, 9), (3, 66)] := by kernel_rfl
 have hc : Tryz.prog.cellsOf 76 = 4 := by kernel_rfl
 refine DecD.struct (fs := flds Tryz.prog 76) (by kernel_rfl) ?_
 rw [hc]
 generalize (flds Tryz.prog 76).toList = fs at hm
 have hlen : fs.length = 4 := by simpa using congrArg List.length hm
 match fs, hlen, hm with
 | [f0, f1, f2, f3], _, hm =>
  simp only [List.map_cons, List.map_nil, List.cons.injEq, Prod.mk.injEq, and_true] at hm
  obtain ⟨⟨o0, t0⟩, ⟨o1, t1⟩, ⟨o2, t2⟩, o3, t3⟩ := hm
  refine .cons (0) f0 [f1, f2, f3] _ _ 4 o0 (by rw [t0]; exact .int (by kernel_rfl)) ?_
  rw [t0, show Tryz.prog.cellsOf 3 = 1 by kernel_rfl]
  refine .cons (0 + 1) f1 [f2, f3] _ _ 4 o1 (by rw [t1]; exact decDLi) ?_
  rw [t1, show Tryz.prog.cellsOf 66 = 1 by kernel_rfl]
  refine .cons (0 + 1 + 1) f2 [f3] _ _ 4 o2 (by rw [t2]; exact .str (by kernel_rfl)) ?_
  rw [t2, show Tryz.prog.cellsOf 9 = 1 by kernel_rfl]
  refine .cons (0 + 1 + 1 + 1) f3 [] _ _ 4 o3 (by rw [t3]; exact decDLi) ?_
  rw [t3, show Tryz.prog.cellsOf 66 = 1 by kernel_rfl]
  exact .nil 4
theorem drq_cells (H : Type) (d : DataW H) (ps : List PV) (hl : ps.length = Tryz.prog.cellsOf 76) (h : dSt [dInt .i64, dSl 1 (dOne (dInt .i64)), dStr, dSl 1 (dOne (dInt .i64))] H d ps) : ∃ p : PV, p.cells = ps ∧ dRqG H d p := ⟨.agg ps, rfl, ps, rfl, h⟩
theorem decDRqs : DecD Tryz.prog 22 (dSl 4 dRqG) := by
 have := DecD.sl (P := Tryz.prog) (t := 22) (e := 76) (G := dRqG) uRS decDRq (by rw [show Tryz.prog.cellsOf 76 = 4 by kernel_rfl]; decide) drq_cells
 rwa [show Tryz.prog.cellsOf 76 = 4 by kernel_rfl] at this
theorem nat_u8 {n : Int} (h : (Lit.int .u8 n).wf = true) : ∃ a : Nat, n = (a : Int) ∧ a < 256 := by
 simp [Lit.wf] at h
 obtain ⟨h1, h2⟩ := h
 have h3 : IntKind.u8.min = 0 := by decide
 have h4 : IntKind.u8.max = 255 := by decide
 exact ⟨n.toNat, by omega, by omega⟩
theorem nat_u16 {n : Int} (h : (Lit.int .u16 n).wf = true) : ∃ a : Nat, n = (a : Int) ∧ a < 65536 := by
 simp [Lit.wf] at h
 obtain ⟨h1, h2⟩ := h
 have h3 : IntKind.u16.min = 0 := by decide
 have h4 : IntKind.u16.max = 65535 := by decide
 exact ⟨n.toNat, by omega, by omega⟩
theorem decERqs : DecE Tryz.prog 22 (dOne (dSl 4 dRqG)) := .ofC decDRqs (.inr (.inr (.inr ⟨_, uRS⟩)))
end Go.Proofs.YtoemcdgebkkcoaaGreatDoor
set_option maxRecDepth 100000
set_option linter.unusedVariables false
namespace Go.Proofs.YtoemcdgebkkcoaaGreatDoor
open Go.Pv Go.Proofs.Sh
theorem uOT : Tryz.prog.underlying 68 = some (.struct (flds Tryz.prog 68)) := by kernel_rfl
theorem uOS : Tryz.prog.underlying 64 = some (.slice 68) := by kernel_rfl
theorem uTS : Tryz.prog.underlying 65 = some (.slice 71) := by kernel_rfl
theorem bOT : 1 ≤ Tryz.prog.bytesOf 68 := by rw [show Tryz.prog.bytesOf 68 = 88 by kernel_rfl]; decide
theorem bTT : 1 ≤ Tryz.prog.bytesOf 71 := by rw [show Tryz.prog.bytesOf 71 = 4 by kernel_rfl]; decide
theorem tOT : (flds Tryz.prog 68).toList.map (·.type) = [3, 3, 3, 66, 9, 66] := by kernel_rfl
def dOtG (H : Type) (d : DataW H) (p : PV) : Prop := dAgg (dSt [dInt .i64, dInt .i64, dInt .i64, dSl 1 (dOne (dInt .i64)), dStr, dSl 1 (dOne (dInt .i64))]) H d p
theorem dot_of {H : Type} {d : DataW H} {p : PV} (h : dOtG H d p) : ∃ r : Ot, p = r.pv ∧ (WOk Tryz.prog 68 d → r.Few) := by
 obtain ⟨ps, rfl, ds, rfl, h⟩ := h
 obtain ⟨_, _, d0, _, rfl, rfl, ⟨k, rfl, -, -⟩, _, _, d1, _, rfl, rfl, ⟨c, rfl, -, -⟩, _, _, d2, _, rfl, rfl, ⟨q, rfl, -, -⟩, _, _, d3, _, rfl, rfl, h3, _, _, d4, _, rfl, rfl, ⟨b, rfl, rfl, -⟩, _, _, d5, _, rfl, rfl, h5, rfl, rfl⟩ := h
 obtain ⟨N, rfl, n1, n2⟩ := di_of h3
 obtain ⟨L, rfl, l1, l2⟩ := di_of h5
 refine ⟨⟨k, c, q, N, b, L⟩, rfl, fun hw => ?_⟩
 have hw := wst uOT hw
 rw [tOT] at hw
 obtain ⟨-, hw⟩ := weach hw
 obtain ⟨-, hw⟩ := weach hw
 obtain ⟨-, hw⟩ := weach hw
 obtain ⟨w3, hw⟩ := weach hw
 obtain ⟨w4, hw⟩ := weach hw
 obtain ⟨w5, -⟩ := weach hw
 exact ⟨n1 w3, wstr w4, l1 w5⟩
theorem dots_of {H : Type} {d : DataW H} {ps : List PV} (h : dSl 6 dOtG H d ps) : ∃ X : List Ot, ps = [.sl 6 (otL X)] ∧ (WOk Tryz.prog 64 d → X.length ≤ 1000000000000000 ∧ ∀ x ∈ X, x.Few) := by
 obtain ⟨es, rfl, hl, h⟩ := h
 rcases h with ⟨rfl, rfl⟩ | ⟨elems, spare, rfl, hlen, hall⟩
 ·exact ⟨[], rfl, fun _ => ⟨by simp, fun x hx => by cases hx⟩⟩
 ·obtain ⟨X, rfl, h2, h3⟩ := row_of Ot.pv (fun x q => WOk Tryz.prog 68 q → x.Few) hlen (fun i p q h1 h2 => by
   obtain ⟨x, e, w⟩ := dot_of (hall i p q h1 h2)
   exact ⟨x, e, w⟩)
  refine ⟨X, rfl, fun hw => ?_⟩
  obtain ⟨w1, w2⟩ := wsl uOS bOT hw
  refine ⟨by omega, fun x hx => ?_⟩
  obtain ⟨q, hq, hx⟩ := row_mem h2 h3 hx
  exact hx (w2 q hq)
def dTnG (H : Type) (d : DataW H) (p : PV) : Prop := dAgg (dSt [dInt .u8, dInt .u16]) H d p
theorem dtn_of {H : Type} {d : DataW H} {p : PV} (h : dTnG H d p) : ∃ t : Tn, p = t.pv ∧ t.d < 256 ∧ t.l < 65536 := by
 obtain ⟨ps, rfl, ds, rfl, h⟩ := h
 obtain ⟨_, _, d0, _, rfl, rfl, ⟨a, rfl, -, ha⟩, _, _, d1, _, rfl, rfl, ⟨b, rfl, -, hb⟩, rfl, rfl⟩ := h
 obtain ⟨x, rfl, hx⟩ := nat_u8 ha
 obtain ⟨y, rfl, hy⟩ := nat_u16 hb
 exact ⟨⟨x, y⟩, rfl, hx, hy⟩
theorem dtns_of {H : Type} {d : DataW H} {ps : List PV} (h : dSl 2 dTnG H d ps) : ∃ X : List Tn, ps = [.sl 2 (tnL X)] ∧ (∀ t ∈ X, t.d < 256 ∧ t.l < 65536) ∧ (WOk Tryz.prog 65 d → X.length ≤ 1000000000000000) := by
 obtain ⟨es, rfl, hl, h⟩ := h
 rcases h with ⟨rfl, rfl⟩ | ⟨elems, spare, rfl, hlen, hall⟩
 ·exact ⟨[], rfl, fun x hx => (by cases hx), fun _ => by simp⟩
 ·obtain ⟨X, rfl, h2, h3⟩ := row_of Tn.pv (fun x (_ : DataW H) => x.d < 256 ∧ x.l < 65536) hlen (fun i p q h1 h2 => by
   obtain ⟨x, e, w⟩ := dtn_of (hall i p q h1 h2)
   exact ⟨x, e, w⟩)
  refine ⟨X, rfl, fun x hx => ?_, fun hw => ?_⟩
  ·exact (row_mem h2 h3 hx).choose_spec.2
  ·obtain ⟨w1, w2⟩ := wsl uTS bTT hw
   omega
theorem decDOt : DecD Tryz.prog 68 (dSt [dInt .i64, dInt .i64, dInt .i64, dSl 1 (dOne (dInt .i64)), dStr, dSl 1 (dOne (dInt .i64))]) := by
 have hm : (flds Tryz.prog 68).toList.map (fun f => (f.offset, f.type)) = [(0, 3), (1, 3), (2, 3), (3, 66), (4, 9), (5, 66)] := by kernel_rfl
 have hc : Tryz.prog.cellsOf 68 = 6 := by kernel_rfl
 refine DecD.struct (fs := flds Tryz.prog 68) (by kernel_rfl) ?_
 rw [hc]
 generalize (flds Tryz.prog 68).toList = fs at hm
 have hlen : fs.length = 6 := by simpa using congrArg List.length hm
 match fs, hlen, hm with
 | [f0, f1, f2, f3, f4, f5], _, hm =>
  simp only [List.map_cons, List.map_nil, List.cons.injEq, Prod.mk.injEq, and_true] at hm
  obtain ⟨⟨o0, t0⟩, ⟨o1, t1⟩, ⟨o2, t2⟩, ⟨o3, t3⟩, ⟨o4, t4⟩, o5, t5⟩ := hm
  refine .cons (0) f0 [f1, f2, f3, f4, f5] _ _ 6 o0 (by rw [t0]; exact .int (by kernel_rfl)) ?_
  rw [t0, show Tryz.prog.cellsOf 3 = 1 by kernel_rfl]
  refine .cons (0 + 1) f1 [f2, f3, f4, f5] _ _ 6 o1 (by rw [t1]; exact .int (by kernel_rfl)) ?_
  rw [t1, show Tryz.prog.cellsOf 3 = 1 by kernel_rfl]
  refine .cons (0 + 1 + 1) f2 [f3, f4, f5] _ _ 6 o2 (by rw [t2]; exact .int (by kernel_rfl)) ?_
  rw [t2, show Tryz.prog.cellsOf 3 = 1 by kernel_rfl]
  refine .cons (0 + 1 + 1 + 1) f3 [f4, f5] _ _ 6 o3 (by rw [t3]; exact decDLi) ?_
  rw [t3, show Tryz.prog.cellsOf 66 = 1 by kernel_rfl]
  refine .cons (0 + 1 + 1 + 1 + 1) f4 [f5] _ _ 6 o4 (by rw [t4]; exact .str (by kernel_rfl)) ?_
  rw [t4, show Tryz.prog.cellsOf 9 = 1 by kernel_rfl]
  refine .cons (0 + 1 + 1 + 1 + 1 + 1) f5 [] _ _ 6 o5 (by rw [t5]; exact decDLi) ?_
  rw [t5, show Tryz.prog.cellsOf 66 = 1 by kernel_rfl]
  exact .nil 6
theorem decDOts : DecD Tryz.prog 64 (dSl 6 dOtG) := by
 have := DecD.sl (P := Tryz.prog) (t := 64) (e := 68) (G := dOtG) uOS decDOt (by rw [show Tryz.prog.cellsOf 68 = 6 by kernel_rfl]; decide) (fun H d ps hl h => ⟨.agg ps, rfl, ps, rfl, h⟩)
 rwa [show Tryz.prog.cellsOf 68 = 6 by kernel_rfl] at this
theorem decEOts : DecE Tryz.prog 64 (dOne (dSl 6 dOtG)) := .ofC decDOts (.inr (.inr (.inr ⟨_, uOS⟩)))
theorem decDTn : DecD Tryz.prog 71 (dSt [dInt .u8, dInt .u16]) := by
 have hm : (flds Tryz.prog 71).toList.map (fun f => (f.offset, f.type)) = [(0, 5), (1, 47)] := by kernel_rfl
 have hc : Tryz.prog.cellsOf 71 = 2 := by kernel_rfl
 refine DecD.struct (fs := flds Tryz.prog 71) (by kernel_rfl) ?_
 rw [hc]
 generalize (flds Tryz.prog 71).toList = fs at hm
 have hlen : fs.length = 2 := by simpa using congrArg List.length hm
 match fs, hlen, hm with
 | [f0, f1], _, hm =>
  simp only [List.map_cons, List.map_nil, List.cons.injEq, Prod.mk.injEq, and_true] at hm
  obtain ⟨⟨o0, t0⟩, o1, t1⟩ := hm
  refine .cons (0) f0 [f1] _ _ 2 o0 (by rw [t0]; exact .int (by kernel_rfl)) ?_
  rw [t0, show Tryz.prog.cellsOf 5 = 1 by kernel_rfl]
  refine .cons (0 + 1) f1 [] _ _ 2 o1 (by rw [t1]; exact .int (by kernel_rfl)) ?_
  rw [t1, show Tryz.prog.cellsOf 47 = 1 by kernel_rfl]
  exact .nil 2
theorem decDTns : DecD Tryz.prog 65 (dSl 2 dTnG) := by
 have := DecD.sl (P := Tryz.prog) (t := 65) (e := 71) (G := dTnG) uTS decDTn (by rw [show Tryz.prog.cellsOf 71 = 2 by kernel_rfl]; decide) (fun H d ps hl h => ⟨.agg ps, rfl, ps, rfl, h⟩)
 rwa [show Tryz.prog.cellsOf 71 = 2 by kernel_rfl] at this
theorem decETns : DecE Tryz.prog 65 (dOne (dSl 2 dTnG)) := .ofC decDTns (.inr (.inr (.inr ⟨_, uTS⟩)))
end Go.Proofs.YtoemcdgebkkcoaaGreatDoor
set_option maxRecDepth 100000
set_option linter.unusedVariables false
namespace Go.Proofs.YtoemcdgebkkcoaaGreatDoor
open Go.Pv Go.Proofs.Sh
theorem proxyPasses_reads (os : Os) {H : Type} (enc : TypeId × Value → H) : ∃ places, DataW.whole enc Tryz.prog ((World.doorLaid Tryz.prog 400 os).forCall (fun _ _ => 0) ⟨#[], #[.int .u8 0, .slice none 0 0, .slice none 0 0, .string ⟨#[]⟩, .slice none 0 0, .int .u8 0], []⟩).memory Tryz.f6.params.toList Rows.proxyPassesSpec.vars false #[.int .u8 0, .slice none 0 0, .slice none 0 0, .string ⟨#[]⟩, .slice none 0 0, .int .u8 0].toList 8 = some ([.lit (.int .u8 0), .nil, .nil, .lit (.string []), .nil, .lit (.int .u8 0)], [], places) :=
 ⟨[], by kernel_rfl⟩
theorem proxyPasses_lifted (os : Os) (started : os.Started) (H : Type) (enc : TypeId × Value → H) (F : Stop.Interp) :
 ReturnsInHanded {} Tryz.checked os 6 .any ((OpenSpec.ofChange Rows.proxyPassesSpec).preRow enc Tryz.prog Tryz.f6 [] false laidV) (((OpenSpec.ofChange Rows.proxyPassesSpec).at F).post enc Tryz.prog Tryz.f6 false true false false) := by
 obtain ⟨places, hx⟩ := proxyPasses_reads os enc
 refine lawRow (C := Tryz.checked) (s0 := Rows.proxyPassesSpec) (s := OpenSpec.ofChange Rows.proxyPassesSpec) (t := 4) (Gs := [dOne (dInt .u8), dOne (dSl 4 dRqG), dOne (dSl 6 dOtG), dOne dStr, dOne (dSl 2 dTnG), dOne (dInt .u8)]) own started (by kernel_rfl) Tryz.func6
  (witness_row_atRef (enc := enc) (C := Tryz.checked) false (World.doorLaid Tryz.prog 400 os) #[.int .u8 0, .slice none 0 0, .slice none 0 0, .string ⟨#[]⟩, .slice none 0 0, .int .u8 0] rfl (by kernel_rfl) (by kernel_rfl) (by kernel_rfl)
    (OpenSpec.preRow_of_cond 8 hx (by kernel_rfl) (fun k hk => by cases hk) (by kernel_rfl) (door_met os _)))
  (.cons 5 _ _ _ (.ofC (DecD.int (k := .u8) (by kernel_rfl)) (.inr (.inr (.inl ⟨.u8, by kernel_rfl⟩)))) (.cons 22 _ _ _ decERqs (.cons 64 _ _ _ decEOts (.cons 9 _ _ _ (.ofC (.str (by kernel_rfl)) (.inr (.inl (by kernel_rfl)))) (.cons 65 _ _ _ decETns (.cons 5 _ _ _ (.ofC (DecD.int (k := .u8) (by kernel_rfl)) (.inr (.inr (.inl ⟨.u8, by kernel_rfl⟩)))) .nil)))))) rfl rfl rfl rfl Tryz.underlying4 ?_ laidOut (by kernel_rfl) glOf ?_
 ·intro ds h
  match ds, h with
  | [_, _, _, _, _, _], _ => exact ⟨rfl, rfl, rfl⟩
 ·rintro ds qs hcond hwt ⟨d0, _, p0, _, rfl, rfl, g0, d1, _, p1, _, rfl, rfl, g1, d2, _, p2, _, rfl, rfl, g2, d3, _, p3, _, rfl, rfl, g3, d4, _, p4, _, rfl, rfl, g4, d5, _, p5, _, rfl, rfl, g5, rfl, rfl⟩
  rw [Tryz.params6] at hwt
  obtain ⟨w0, hwt⟩ := weach hwt
  obtain ⟨w1, hwt⟩ := weach hwt
  obtain ⟨w2, hwt⟩ := weach hwt
  obtain ⟨w3, hwt⟩ := weach hwt
  obtain ⟨w4, hwt⟩ := weach hwt
  obtain ⟨w5, hwt⟩ := weach hwt
  obtain ⟨x0, e0, rfl, v0⟩ := g0
  cases e0
  obtain ⟨x1, e1, q1, b1⟩ := drqs_of g1
  cases e1
  have q1 := q1 w1
  obtain ⟨x2, e2, q2⟩ := dots_of g2
  cases e2
  have q2 := q2 w2
  obtain ⟨x3, e3, rfl, v3⟩ := g3
  cases e3
  obtain ⟨x4, e4, u4, q4⟩ := dtns_of g4
  cases e4
  have q4 := q4 w4
  obtain ⟨x5, e5, rfl, v5⟩ := g5
  cases e5
  obtain ⟨k0, rfl, hk0⟩ := nat_u8 v0
  obtain ⟨k5, rfl, hk5⟩ := nat_u8 v5
  exact passes_fs k0 k5 x1 x2 x3 x4 hk0 hk5 q1.1 q1.2 q2.1 q2.2 q4 u4
theorem proxyPasses_holds : Rows.ProxyPassesSaid :=
 OpenClaim.holds_of_cond 6 Tryz.f6 rfl rfl rfl rfl rfl rfl rfl ⟨rfl, rfl, rfl, rfl, rfl⟩ rfl rfl rfl rfl rfl (by kernel_rfl) Tryz.func6 (by kernel_rfl)
  (of_decide_eq_true (by kernel_rfl)) (by unfold Func.isWrapper; first | (rw [if_pos (by decide +kernel)]; kernel_rfl) | (rw [if_neg (by decide +kernel)]; exact ⟨rfl, rfl⟩))
  (fun os started H enc _ F => by rw [OpenClaim.pre_eq_preRow]; exact proxyPasses_lifted os started H enc F)
theorem proxyPasses_card_holds : Rows.ProxyPassesCardSaid :=
 Claim7.holds_tied_plain_at .later [] [.data, .listed, .data, .data] true (true, "96bdd31037fbb8da275680d09ec0d880733ff5197ed64ebcd1203fbb20af3386") false
  proxyPasses_holds (fun _ h => by cases h) (by kernel_rfl) (fun _ h => by cases h) proxyPasses_row_tie rfl ⟨rfl, rfl⟩ (by kernel_rfl) rfl
  (fun f fn hf hfn => by
    obtain rfl : f = 6 := Option.some.inj ((show Tryz.prog.funcNamed Rows.proxyPassesRow.func = some 6 by kernel_rfl).symm.trans hf) |>.symm
    obtain rfl : fn = Tryz.f6 := (Option.some.inj (Tryz.func6.symm.trans hfn)).symm
    exact ⟨by kernel_rfl, fun j t ht => by
     rw [Tryz.params6] at ht
     have hm : t ∈ [5, 22, 64, 9, 65, 5] := by simpa using Array.mem_of_getElem? ht
     have hall : ([5, 22, 64, 9, 65, 5].all fun u => !Tryz.prog.wantsStandIn u) = true := by kernel_rfl
     exact (show Tryz.prog.wantsStandIn t = false by simpa using List.all_eq_true.1 hall t hm)⟩)
  (by kernel_rfl)
end Go.Proofs.YtoemcdgebkkcoaaGreatDoor
