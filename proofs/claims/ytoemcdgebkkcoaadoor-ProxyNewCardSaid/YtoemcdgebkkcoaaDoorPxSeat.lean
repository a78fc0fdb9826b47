/- The frame of the seat's rows: the package-level variables as they are laid; requests as arguments. -/
import Derived.Test.YtoemcdgebkkcoaaDoorPxBase
import Derived.Test.YtoemcdgebkkcoaaDoorPvXa
import Derived.Test.YtoemcdgebkkcoaaDoorPvXc
import Derived.Test.YtoemcdgebkkcoaaDoorPvXd
import Derived.Test.YtoemcdgebkkcoaaDoorRows
set_option maxRecDepth 100000
namespace Go.Proofs.YtoemcdgebkkcoaaDoor
open Go.Pv Go.Proofs.Sh

def flds (P : Program) (t : TypeId) : Array Field := match P.underlying t with | some (.struct fs) => fs | _ => #[]
theorem flds_at {fs : Array Field} {j o : Nat} {T : TypeId} (h : (fs[j]?).map (fun f => (f.offset, f.type)) = some (o, T)) {f : Field} (hf : fs[j]? = some f) : f.offset = o ∧ f.type = T := by
  rw [hf] at h; simp at h; exact h
theorem own : ownKnob Tryd.prog.godebug = none := by kernel_rfl
theorem laidOut : laidOutB Tryd.prog = true := by kernel_rfl
def laidV : List (String × DataW Unit) := [("glazier/order.spans", Rows.laid_glazier_order_spans), ("unicode.White_Space", Rows.laid_unicode_White_Space), ("strings.asciiSpace", Rows.laid_strings_asciiSpace)]
theorem tabIs : Tryd.gtab.tab = [(0, (gat Tryd.gtab.tab 0).getD []), (1, (gat Tryd.gtab.tab 1).getD [])] := by kernel_rfl
theorem glOf (W : World) (h : laidMetH Tryd.prog laidV W) : ∀ k ps, gat GTab.tab k = some ps → PRel (allH W) (.pointer (some ⟨k, 0, none⟩)) (.loc ps) := by
  intro k ps hk
  rw [MakeChecks.laidMetH_plain _ _ _ (by kernel_rfl)] at h
  obtain ⟨places, hl, -, -⟩ := h
  have hk1 : gat Tryd.gtab.tab k = some ps := hk
  have h0 : pvsEq ((gat Tryd.gtab.tab 0).getD []) (dRows (Rows.laid_glazier_order_spans : DataW Unit)) = true := by kernel_rfl
  have h1 : pvsEq ((gat Tryd.gtab.tab 1).getD []) (dInts .u8 (dParts (Rows.laid_strings_asciiSpace : DataW Unit))) = true := by kernel_rfl
  have hk0 : k = 0 ∨ k = 1 := by
    rw [tabIs] at hk1
    unfold gat at hk1
    split at hk1
    · rename_i hb; exact .inl (Nat.eq_of_beq_eq_true hb).symm
    · skip
      unfold gat at hk1
      split at hk1
      · rename_i hb; exact .inr ((Nat.eq_of_beq_eq_true hb).symm)
      · cases hk1
  rcases hk0 with rfl | rfl
  · rw [hk1] at h0
    have hs : (flds Tryd.prog 84).size = 3 := by kernel_rfl
    refine loc_of_rows (m := 3) hl (by simp [laidV]) (show Tryd.prog.globalNamed "glazier/order.spans" = some 0 by kernel_rfl) (show (Tryd.prog.globals[0]?).map (·.type) = some 106 by kernel_rfl) (show Tryd.prog.underlying 106 = some (.array 6 84) by kernel_rfl) (fs := flds Tryd.prog 84) (by kernel_rfl) hs (by decide) (fun j f hf => ?_) (by kernel_rfl) (by kernel_rfl) h0
    match j, hf with
    | 0, hf => obtain ⟨ho, ht⟩ := flds_at (show ((flds Tryd.prog 84)[0]?).map (fun f => (f.offset, f.type)) = some (0, 3) by kernel_rfl) hf; rw [ho, ht]; exact ⟨rfl, by kernel_rfl, .i64, by kernel_rfl⟩
    | 1, hf => obtain ⟨ho, ht⟩ := flds_at (show ((flds Tryd.prog 84)[1]?).map (fun f => (f.offset, f.type)) = some (1, 2) by kernel_rfl) hf; rw [ho, ht]; exact ⟨rfl, by kernel_rfl, .i64, by kernel_rfl⟩
    | 2, hf => obtain ⟨ho, ht⟩ := flds_at (show ((flds Tryd.prog 84)[2]?).map (fun f => (f.offset, f.type)) = some (2, 2) by kernel_rfl) hf; rw [ho, ht]; exact ⟨rfl, by kernel_rfl, .i64, by kernel_rfl⟩
    | j + 3, hf => rw [Array.getElem?_eq_none (by omega)] at hf; cases hf
  · rw [hk1] at h1
    exact loc_of_ints hl (by simp [laidV]) (show Tryd.prog.globalNamed "strings.asciiSpace" = some 1 by kernel_rfl) (show (Tryd.prog.globals[1]?).map (·.type) = some 125 by kernel_rfl) (show Tryd.prog.underlying 125 = some (.array 256 5) by kernel_rfl) (show Tryd.prog.underlying 5 = some (.int .u8) by kernel_rfl) (by kernel_rfl) (by kernel_rfl) h1
theorem door_met (os : Os) (args : Array Value) : laidMetH Tryd.prog laidV ((World.doorLaid Tryd.prog 400 os).forCall (fun _ _ => 0) ⟨#[], args, []⟩).memory :=
  laidMetH_of_parts3 (fuel := 8) (laidMet_of_run' 8 (by kernel_rfl) (by kernel_rfl)) (by kernel_rfl) (by kernel_rfl)

end Go.Proofs.YtoemcdgebkkcoaaDoor
