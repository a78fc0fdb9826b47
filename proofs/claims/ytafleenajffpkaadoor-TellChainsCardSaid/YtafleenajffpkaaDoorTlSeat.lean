/- The frame of the seat's rows: the package-level variables as they are laid; requests as arguments. -/
import Derived.Test.YtafleenajffpkaaDoorTlTrip
import Derived.Test.YtafleenajffpkaaDoorPvXa
import Derived.Test.YtafleenajffpkaaDoorPvXc
import Derived.Test.YtafleenajffpkaaDoorPvXd
import Derived.Test.YtafleenajffpkaaDoorRows
set_option maxRecDepth 100000
namespace Go.Proofs.YtafleenajffpkaaDoor
open Go.Pv Go.Proofs.Sh

def flds (P : Program) (t : TypeId) : Array Field := match P.underlying t with | some (.struct fs) => fs | _ => #[]
theorem flds_at {fs : Array Field} {j o : Nat} {T : TypeId} (h : (fs[j]?).map (fun f => (f.offset, f.type)) = some (o, T)) {f : Field} (hf : fs[j]? = some f) : f.offset = o ∧ f.type = T := by
  rw [hf] at h; simp at h; exact h
theorem own : ownKnob Tryd.prog.godebug = none := by kernel_rfl
theorem laidOut : laidOutB Tryd.prog = true := by kernel_rfl
def laidV : List (String × DataW Unit) := [("glazier/order.spans", Rows.laid_glazier_order_spans), ("unicode.White_Space", Rows.laid_unicode_White_Space), ("strings.asciiSpace", Rows.laid_strings_asciiSpace), ("glazier/format.sizes", Rows.laid_glazier_format_sizes)]
theorem tabIs : Tryd.gtab.tab = [(0, (gat Tryd.gtab.tab 0).getD []), (1, (gat Tryd.gtab.tab 1).getD []), (2, (gat Tryd.gtab.tab 2).getD [])] := by kernel_rfl
theorem glOf (W : World) (h : laidMetH Tryd.prog laidV W) : ∀ k ps, gat GTab.tab k = some ps → PRel (allH W) (.pointer (some ⟨k, 0, none⟩)) (.loc ps) := by
  intro k ps hk
  rw [MakeChecks.laidMetH_plain _ _ _ (by kernel_rfl)] at h
  obtain ⟨places, hl, -, -⟩ := h
  have hk1 : gat Tryd.gtab.tab k = some ps := hk
  have h0 : pvsEq ((gat Tryd.gtab.tab 0).getD []) (dRows (Rows.laid_glazier_order_spans : DataW Unit)) = true := by kernel_rfl
  have h1 : pvsEq ((gat Tryd.gtab.tab 1).getD []) (dInts .u8 (dParts (Rows.laid_strings_asciiSpace : DataW Unit))) = true := by kernel_rfl
  have h2 : pvsEq ((gat Tryd.gtab.tab 2).getD []) (dInts .i64 (dParts (Rows.laid_glazier_format_sizes : DataW Unit))) = true := by kernel_rfl
  have hk0 : k = 0 ∨ k = 1 ∨ k = 2 := by
    rw [tabIs] at hk1
    unfold gat at hk1
    split at hk1
    · rename_i hb; exact .inl (Nat.eq_of_beq_eq_true hb).symm
    · skip
      unfold gat at hk1
      split at hk1
      · rename_i hb; exact .inr (.inl (Nat.eq_of_beq_eq_true hb).symm)
      · skip
        unfold gat at hk1
        split at hk1
        · rename_i hb; exact .inr (.inr ((Nat.eq_of_beq_eq_true hb).symm))
        · cases hk1
  rcases hk0 with rfl | rfl | rfl
  · rw [hk1] at h0
    have hs : (flds Tryd.prog 82).size = 3 := by kernel_rfl
    refine loc_of_rows (m := 3) hl (by simp [laidV]) (show Tryd.prog.globalNamed "glazier/order.spans" = some 0 by kernel_rfl) (show (Tryd.prog.globals[0]?).map (·.type) = some 111 by kernel_rfl) (show Tryd.prog.underlying 111 = some (.array 6 82) by kernel_rfl) (fs := flds Tryd.prog 82) (by kernel_rfl) hs (by decide) (fun j f hf => ?_) (by kernel_rfl) (by kernel_rfl) h0
    match j, hf with
    | 0, hf => obtain ⟨ho, ht⟩ := flds_at (show ((flds Tryd.prog 82)[0]?).map (fun f => (f.offset, f.type)) = some (0, 3) by kernel_rfl) hf; rw [ho, ht]; exact ⟨rfl, by kernel_rfl, .i64, by kernel_rfl⟩
    | 1, hf => obtain ⟨ho, ht⟩ := flds_at (show ((flds Tryd.prog 82)[1]?).map (fun f => (f.offset, f.type)) = some (1, 2) by kernel_rfl) hf; rw [ho, ht]; exact ⟨rfl, by kernel_rfl, .i64, by kernel_rfl⟩
    | 2, hf => obtain ⟨ho, ht⟩ := flds_at (show ((flds Tryd.prog 82)[2]?).map (fun f => (f.offset, f.type)) = some (2, 2) by kernel_rfl) hf; rw [ho, ht]; exact ⟨rfl, by kernel_rfl, .i64, by kernel_rfl⟩
    | j + 3, hf => rw [Array.getElem?_eq_none (by omega)] at hf; cases hf
  · rw [hk1] at h1
    exact loc_of_ints hl (by simp [laidV]) (show Tryd.prog.globalNamed "strings.asciiSpace" = some 1 by kernel_rfl) (show (Tryd.prog.globals[1]?).map (·.type) = some 139 by kernel_rfl) (show Tryd.prog.underlying 139 = some (.array 256 5) by kernel_rfl) (show Tryd.prog.underlying 5 = some (.int .u8) by kernel_rfl) (by kernel_rfl) (by kernel_rfl) h1
  · rw [hk1] at h2
    exact loc_of_ints hl (by simp [laidV]) (show Tryd.prog.globalNamed "glazier/format.sizes" = some 2 by kernel_rfl) (show (Tryd.prog.globals[2]?).map (·.type) = some 143 by kernel_rfl) (show Tryd.prog.underlying 143 = some (.array 6 3) by kernel_rfl) (show Tryd.prog.underlying 3 = some (.int .i64) by kernel_rfl) (by kernel_rfl) (by kernel_rfl) h2
theorem door_met (os : Os) (args : Array Value) : laidMetH Tryd.prog laidV ((World.doorLaid Tryd.prog 400 os).forCall (fun _ _ => 0) ⟨#[], args, []⟩).memory :=
  laidMetH_of_parts3 (fuel := 8) (laidMet_of_run' 8 (by kernel_rfl) (by kernel_rfl)) (by kernel_rfl) (by kernel_rfl)

def gInts (p : PV) : Prop := gSl 1 (one1 (gInt .i64)) [p]
theorem ints_of {p : PV} (h : one1 (gSl 1 (one1 (gInt .i64))) p) : ∃ l : List Int, p = .sl 1 (ints l) ∧ l.length ≤ maxLen := by
  obtain ⟨es, he, hl, ha⟩ := h
  cases he
  have : ∀ es : List PV, (∀ p ∈ es, one1 (gInt .i64) p) → ∃ l : List Int, es = ints l := by
    intro es
    induction es with
    | nil => intro _; exact ⟨[], rfl⟩
    | cons p es ih =>
      intro h
      obtain ⟨n, hn, -⟩ := h p (List.mem_cons_self ..)
      cases hn
      obtain ⟨l, rfl⟩ := ih (fun q hq => h q (List.mem_cons_of_mem _ hq))
      exact ⟨n :: l, rfl⟩
  obtain ⟨l, rfl⟩ := this es ha
  exact ⟨l, rfl, by rw [ints_length] at hl; exact hl⟩

def gOt (p : PV) : Prop := ∃ ps, p = .agg ps ∧ GVs [one1 (gInt .i64), one1 (gInt .i64), one1 (gInt .i64), one1 (gSl 1 (one1 (gInt .i64))), one1 gStr, one1 (gSl 1 (one1 (gInt .i64)))] ps
theorem ot_of {p : PV} (h : gOt p) : ∃ r : Ot, p = r.pv := by
  obtain ⟨_, rfl, _, _, rfl, ⟨k, hk, -⟩, _, _, rfl, ⟨c, hc, -⟩, _, _, rfl, ⟨q, hq, -⟩, _, _, rfl, hN, _, _, rfl, ⟨b, hb, -⟩, _, _, rfl, hL, rfl⟩ := h
  cases hk; cases hc; cases hq; cases hb
  obtain ⟨n, rfl, -⟩ := ints_of hN
  obtain ⟨l, rfl, -⟩ := ints_of hL
  exact ⟨⟨k, c, q, n, b, l⟩, rfl⟩
theorem decInts : DecV Tryd.prog 23 (one1 (gSl 1 (one1 (gInt .i64)))) := by
  have := DecV.sl (P := Tryd.prog) (t := 23) (e := 2) (g := gInt .i64) (G := one1 (gInt .i64)) (by kernel_rfl) (.int (by kernel_rfl)) (by rw [show Tryd.prog.cellsOf 2 = 1 by kernel_rfl]; decide) (fun ps _ h => by obtain ⟨n, rfl, hw⟩ := h; exact ⟨.int .i64 n, rfl, n, rfl, hw⟩)
  rwa [show Tryd.prog.cellsOf 2 = 1 by kernel_rfl] at this
theorem decOt : DecV Tryd.prog 25 gOt := by
  have hs : (flds Tryd.prog 25).size = 6 := by kernel_rfl
  refine DecV.st (fs := flds Tryd.prog 25) (by kernel_rfl) (by kernel_rfl) (by kernel_rfl) (by omega) (fun i f hf => ?_) ?_
  · match i, hf with
    | 0, hf => obtain ⟨ho, ht⟩ := flds_at (show ((flds Tryd.prog 25)[0]?).map (fun f => (f.offset, f.type)) = some (0, 3) by kernel_rfl) hf; rw [ho, ht]; exact ⟨rfl, by kernel_rfl, .inr (.inr (.inl ⟨.i64, by kernel_rfl⟩))⟩
    | 1, hf => obtain ⟨ho, ht⟩ := flds_at (show ((flds Tryd.prog 25)[1]?).map (fun f => (f.offset, f.type)) = some (1, 3) by kernel_rfl) hf; rw [ho, ht]; exact ⟨rfl, by kernel_rfl, .inr (.inr (.inl ⟨.i64, by kernel_rfl⟩))⟩
    | 2, hf => obtain ⟨ho, ht⟩ := flds_at (show ((flds Tryd.prog 25)[2]?).map (fun f => (f.offset, f.type)) = some (2, 3) by kernel_rfl) hf; rw [ho, ht]; exact ⟨rfl, by kernel_rfl, .inr (.inr (.inl ⟨.i64, by kernel_rfl⟩))⟩
    | 3, hf => obtain ⟨ho, ht⟩ := flds_at (show ((flds Tryd.prog 25)[3]?).map (fun f => (f.offset, f.type)) = some (3, 23) by kernel_rfl) hf; rw [ho, ht]; exact ⟨rfl, by kernel_rfl, .inr (.inr (.inr ⟨2, by kernel_rfl⟩))⟩
    | 4, hf => obtain ⟨ho, ht⟩ := flds_at (show ((flds Tryd.prog 25)[4]?).map (fun f => (f.offset, f.type)) = some (4, 9) by kernel_rfl) hf; rw [ho, ht]; exact ⟨rfl, by kernel_rfl, .inr (.inl (by kernel_rfl))⟩
    | 5, hf => obtain ⟨ho, ht⟩ := flds_at (show ((flds Tryd.prog 25)[5]?).map (fun f => (f.offset, f.type)) = some (5, 23) by kernel_rfl) hf; rw [ho, ht]; exact ⟨rfl, by kernel_rfl, .inr (.inr (.inr ⟨2, by kernel_rfl⟩))⟩
    | i + 6, hf => rw [Array.getElem?_eq_none (by omega)] at hf; cases hf
  · rw [show (flds Tryd.prog 25).toList.map (·.type) = [3, 3, 3, 23, 9, 23] by kernel_rfl]
    exact .cons 3 _ _ _ (.int (k := .i64) (by kernel_rfl)) (.cons 3 _ _ _ (.int (k := .i64) (by kernel_rfl)) (.cons 3 _ _ _ (.int (k := .i64) (by kernel_rfl)) (.cons 23 _ _ _ decInts (.cons 9 _ _ _ (.str (by kernel_rfl)) (.cons 23 _ _ _ decInts .nil)))))
end Go.Proofs.YtafleenajffpkaaDoor
