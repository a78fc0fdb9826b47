/- CodeFirst: the given statement, proved. No condition. -/
import Derived.Test.YtableoaobjecaaaDoorCdSaidBase
import Derived.Test.YtableoaobjecaaaDoorCdFirst
import Derived.Test.YtableoaobjecaaaDoorCards
import Derived.Test.YtableoaobjecaaaDoorTie
set_option maxRecDepth 100000
namespace Go.Proofs.YtableoaobjecaaaDoor
open Go.Pv Go.Proofs.Cd
attribute [local instance] gtab2
def laid3 : List (String × DataW Unit) := [("unicode.White_Space", Rows.laid_unicode_White_Space), ("strings.asciiSpace", Rows.laid_strings_asciiSpace), ("glazier/format.sizes", Rows.laid_glazier_format_sizes)]
theorem gSizes : Tryd.prog.globalNamed "glazier/format.sizes" = some 1 := by kernel_rfl
theorem tSizes : (Tryd.prog.globals[1]?).map (·.type) = some 93 := by kernel_rfl
theorem uSizes : Tryd.prog.underlying 93 = some (.array 6 3) := by kernel_rfl
theorem c3 : Tryd.prog.cellsOf 3 = 1 := by kernel_rfl
theorem c93 : Tryd.prog.cellsOf 93 = 6 := by kernel_rfl
theorem glOf2 (W : World) (h : laidMetH Tryd.prog laid3 W) : ∀ k ps, gat GTab.tab k = some ps → PRel (allH W) (.pointer (some ⟨k, 0, none⟩)) (.loc ps) := by
  intro k ps hk
  rw [MakeChecks.laidMetH_plain _ _ _ (by kernel_rfl)] at h
  obtain ⟨places, hl, -, -⟩ := h
  have hk1 : gat gtab2.tab k = some ps := hk
  have e : gtab2.tab = [(0, (gat Tryd.gtab.tab 0).getD []), (1, (gat gtab2.tab 1).getD [])] := by kernel_rfl
  have h0 : pvsEq ((gat gtab2.tab 0).getD []) (dInts .u8 (dParts (Rows.laid_strings_asciiSpace : DataW Unit))) = true := by kernel_rfl
  have h1 : pvsEq ((gat gtab2.tab 1).getD []) (dInts .i64 (dParts (Rows.laid_glazier_format_sizes : DataW Unit))) = true := by kernel_rfl
  have hk0 : k = 0 ∨ k = 1 := by
    rw [e] at hk1
    unfold gat at hk1
    split at hk1
    · rename_i hb; exact .inl (Nat.eq_of_beq_eq_true hb).symm
    · unfold gat at hk1
      split at hk1
      · rename_i hb; exact .inr (Nat.eq_of_beq_eq_true hb).symm
      · cases hk1
  rcases hk0 with rfl | rfl
  · rw [hk1] at h0
    exact loc_of_ints hl (by simp [laid3]) gSpace tSpace uSpace u5 c5 c84 h0
  · rw [hk1] at h1
    exact loc_of_ints hl (by simp [laid3]) gSizes tSizes uSizes Tryd.underlying3 c3 c93 h1
theorem door_met3 (os : Os) (args : Array Value) : laidMetH Tryd.prog laid3 ((World.doorLaid Tryd.prog 400 os).forCall (fun _ _ => 0) ⟨#[], args, []⟩).memory :=
  laidMetH_of_parts3 (fuel := 8) (laidMet_of_run' 8 (by kernel_rfl) (by kernel_rfl)) (by kernel_rfl) (by kernel_rfl)

theorem codeFirst_lifted (os : Os) (started : os.Started) (H : Type) (enc : TypeId × Value → H) :
    ReturnsInHanded {} Tryd.checked os 8 .any (fun w args => (Rows.codeFirstSpec.pre enc Tryd.prog Tryd.f8 [] false w args ∧ laidMetH Tryd.prog laid3 w) ∧ sizedMet enc Tryd.prog Tryd.f8 (OpenSpec.ofChange Rows.codeFirstSpec) false w args)
      (Rows.codeFirstSpec.post enc Tryd.prog Tryd.f8 false true false false) := by
  refine lawInLaid (C := Tryd.checked) (t := 4) (Gs := [one1 (gInt .i64)]) own started (by kernel_rfl) Tryd.func8
    (ChangeSpec.witness_shaped (enc := enc) (C := Tryd.checked) (os := os) (X := fun w _ => laidMetH Tryd.prog laid3 w) false (World.doorLaid Tryd.prog 400 os) #[.int .i64 0] 8 rfl (World.shaped_of_RefB (by kernel_rfl) (by kernel_rfl)) (by kernel_rfl) (by kernel_rfl) (by kernel_rfl) (door_met3 os _))
    (.cons 3 _ _ _ (.int Tryd.underlying3) .nil) rfl rfl Tryd.underlying4 ?_ laidOut (by kernel_rfl) glOf2 ?_
  · intro ds h
    match ds, h with
    | [_], _ => exact ⟨rfl, rfl, rfl⟩
  · rintro _ ⟨_, _, rfl, ⟨x0, hx0, -⟩, rfl⟩
    cases hx0
    exact Go.Proofs.Cd.codeFirst_fs x0

theorem codeFirst_holds : Rows.CodeFirstSaid :=
  OpenClaim.holds_of_wide 8 Tryd.f8 rfl rfl rfl rfl rfl rfl rfl ⟨rfl, rfl, rfl, rfl, rfl⟩ rfl rfl rfl rfl rfl (by kernel_rfl) Tryd.func8 (by kernel_rfl)
    (of_decide_eq_true (by kernel_rfl)) (by unfold Func.isWrapper; first | (rw [if_pos (by decide +kernel)]; kernel_rfl) | (rw [if_neg (by decide +kernel)]; exact ⟨rfl, rfl⟩))
    (fun os started H enc _ => codeFirst_lifted os started H enc)

theorem codeFirst_card_holds : Rows.CodeFirstCardSaid :=
  Claim7.holds_tied_plain_at .later [] [.listed, .data, .data] true (true, "9e723c01afe4b273c7a5f3a67ec4233a8002f44a12126a14a2c7eacc84208c85") false
    codeFirst_holds (fun _ h => by cases h) (by kernel_rfl) (fun _ h => by cases h) codeFirst_row_tie rfl ⟨rfl, rfl⟩ (by kernel_rfl) rfl
    (fun f fn hf hfn => by
      obtain rfl : f = 8 := Option.some.inj ((show Tryd.prog.funcNamed Rows.codeFirstRow.func = some 8 by kernel_rfl).symm.trans hf) |>.symm
      obtain rfl : fn = Tryd.f8 := (Option.some.inj (Tryd.func8.symm.trans hfn)).symm
      exact ⟨by kernel_rfl, fun j t ht => by
        rw [Tryd.params8] at ht
        have hm : t ∈ [3] := by simpa using Array.mem_of_getElem? ht
        have hall : ([3].all fun u => !Tryd.prog.wantsStandIn u) = true := by kernel_rfl
        exact (show Tryd.prog.wantsStandIn t = false by simpa using List.all_eq_true.1 hall t hm)⟩)
    (by kernel_rfl)
end Go.Proofs.YtableoaobjecaaaDoor
