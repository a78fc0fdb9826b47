/- The frame of layer 3's rows: the package-level variables as they are laid. -/
import Derived.Test.YtableoaobjecaaaDoorCdLawOut
import Derived.Test.YtableoaobjecaaaDoorPvXa
import Derived.Test.YtableoaobjecaaaDoorRows
set_option maxRecDepth 100000
namespace Go.Proofs.YtableoaobjecaaaDoor
open Go.Pv Go.Proofs.Cd

theorem own : ownKnob Tryd.prog.godebug = none := by kernel_rfl
theorem laidOut : laidOutB Tryd.prog = true := by kernel_rfl
def laid2 : List (String × DataW Unit) := [("unicode.White_Space", Rows.laid_unicode_White_Space), ("strings.asciiSpace", Rows.laid_strings_asciiSpace)]
theorem gSpace : Tryd.prog.globalNamed "strings.asciiSpace" = some 0 := by kernel_rfl
theorem tSpace : (Tryd.prog.globals[0]?).map (·.type) = some 84 := by kernel_rfl
theorem uSpace : Tryd.prog.underlying 84 = some (.array 256 5) := by kernel_rfl
theorem u5 : Tryd.prog.underlying 5 = some (.int .u8) := by kernel_rfl
theorem c5 : Tryd.prog.cellsOf 5 = 1 := by kernel_rfl
theorem c84 : Tryd.prog.cellsOf 84 = 256 := by kernel_rfl

theorem glOf {laid : List (String × DataW Unit)} (hpl : (laid.all fun x => x.2.handleName?.isNone) = true) (hm : ("strings.asciiSpace", Rows.laid_strings_asciiSpace) ∈ laid) (W : World) (h : laidMetH Tryd.prog laid W) :
    ∀ k ps, gat GTab.tab k = some ps → PRel (allH W) (.pointer (some ⟨k, 0, none⟩)) (.loc ps) := by
  intro k ps hk
  rw [MakeChecks.laidMetH_plain _ _ _ hpl] at h
  obtain ⟨places, hl, -, -⟩ := h
  have hk0 : k = 0 := by
    have e : Tryd.gtab.tab = [(0, (gat Tryd.gtab.tab 0).getD [])] := by kernel_rfl
    have hk1 : gat Tryd.gtab.tab k = some ps := hk
    rw [e] at hk1
    unfold gat at hk1
    split at hk1
    · rename_i hb; exact (Nat.eq_of_beq_eq_true hb).symm
    · cases hk1
  subst hk0
  have hps : gat Tryd.gtab.tab 0 = some ps := hk
  have hc : pvsEq ((gat Tryd.gtab.tab 0).getD []) (dInts .u8 (dParts (Rows.laid_strings_asciiSpace : DataW Unit))) = true := by kernel_rfl
  rw [hps] at hc
  exact loc_of_ints hl hm gSpace tSpace uSpace u5 c5 c84 hc

theorem door_met (os : Os) (args : Array Value) : laidMetH Tryd.prog laid2 ((World.doorLaid Tryd.prog 400 os).forCall (fun _ _ => 0) ⟨#[], args, []⟩).memory :=
  laidMetH_of_parts3 (fuel := 8) (laidMet_of_run' 8 (by kernel_rfl) (by kernel_rfl)) (by kernel_rfl) (by kernel_rfl)
end Go.Proofs.YtableoaobjecaaaDoor
