/- TopGravity: all places of the window (walk). -/
import Derived.Test.YtbjeagcnakdmnaaDoorPvYa
import Derived.Test.YtbjeagcnakdmnaaDoorGrE
set_option maxRecDepth 100000
set_option linter.unusedSimpArgs false
set_option linter.unusedVariables false
namespace Go.Proofs.Sh
open Go.Pv
open Rg
def Gv.Sz (g : Gv) : PS := { n := 289, env := g.E, objs := g.O, live := [], nxt := 6 }
theorem gi1_fs (g : Gv) (y x : Nat) (Q : Post) (h1 : (x : Int) < g.was.w → ∀ S, Wk 0 S (g.Se y x) → Q .normal S) (h2 : ¬ (x : Int) < g.was.w → ∀ S, Wk 0 S (g.Se y x) → Q (.exit 2) S) : VC Tryd.prog 0 (.seq (pA (gX2 Tryd.f3)) (pA (pB (gX2 Tryd.f3)))) Q (g.Se y x) := by
  simp only [gX2, gC1, gX1, gT9, Tryd.f3, Option.getD_some, tailN, headN, pA, pB, pK, pL]
  unfold Gv.Se Gv.E Gv.O at *
  simp only [List.cons_append, List.nil_append] at *
  cases c : decide ((x : Int) < g.was.w) with
  | false =>
    simp -implicitDefEqProofs only [push_cast, c, seval]
    refine h2 (by simpa using c) _ ?_
    (simp only [rc]; exact Wk.by _ _ _ [(0,0),(1,1),(2,2),(3,3),(4,4)] [] [] (by simp) (by simp [wkV, PV.el, PV.weak, PS.get, PS.obj, PS.lv, lkp_hit, lkp_miss, lkp_nil, lko, wkL, wkC, res1, rcs_wk, ics_wk]) (by simp [PS.get, PS.obj, PS.lv, lkp_hit, lkp_miss, lkp_nil, lko, wkL, wkC, PV.weak, wkL, wkC, res1, rcs_wk, ics_wk]) (by simp [PS.get, PS.obj, PS.lv, lkp_hit, lkp_miss, lkp_nil, lko]) (by rfl) (by rfl) (by simp [lko]) (by simp) (by simp) (by simp) (fun i hi => by rcases i with _ | _ | _ | _ | _ | _ | i <;> first | rfl | (exfalso; omega)))
  | true =>
    simp -implicitDefEqProofs only [push_cast, c, seval]
    refine h1 (by simpa using c) _ ?_
    (simp only [rc]; exact Wk.by _ _ _ [(0,0),(1,1),(2,2),(3,3),(4,4)] [] [] (by simp) (by simp [wkV, PV.el, PV.weak, PS.get, PS.obj, PS.lv, lkp_hit, lkp_miss, lkp_nil, lko, wkL, wkC, res1, rcs_wk, ics_wk]) (by simp [PS.get, PS.obj, PS.lv, lkp_hit, lkp_miss, lkp_nil, lko, wkL, wkC, PV.weak, wkL, wkC, res1, rcs_wk, ics_wk]) (by simp [PS.get, PS.obj, PS.lv, lkp_hit, lkp_miss, lkp_nil, lko]) (by rfl) (by rfl) (by simp [lko]) (by simp) (by simp) (by simp) (fun i hi => by rcases i with _ | _ | _ | _ | _ | _ | i <;> first | rfl | (exfalso; omega)))
theorem gi2_fs (g : Gv) (y x : Nat) (hx : x < 100) (Q : Post) (h : ∀ S, Wk 0 S (g.Se y (x + 1)) → Q .normal S) : PWP Tryd.prog 0 (pB (pB (pB (gX2 Tryd.f3)))) Q (g.Se y x) := by
  simp only [gX2, gC1, gX1, gT9, Tryd.f3, Option.getD_some, tailN, headN, pA, pB, pK, pL]
  refine VC_sound mixed ?_
  have hu := wr_up (k := x) (by omega)
  unfold Gv.Se Gv.E Gv.O at *
  simp only [List.cons_append, List.nil_append] at *
  simp -implicitDefEqProofs only [push_cast, hu, seval]
  refine h _ ?_
  (simp only [rc]; exact Wk.by _ _ _ [(0,0),(1,1),(2,2),(3,3),(4,4)] [] [] (by simp) (by simp [wkV, PV.el, PV.weak, PS.get, PS.obj, PS.lv, lkp_hit, lkp_miss, lkp_nil, lko, wkL, wkC, res1, rcs_wk, ics_wk, hu]) (by simp [PS.get, PS.obj, PS.lv, lkp_hit, lkp_miss, lkp_nil, lko, wkL, wkC, PV.weak, wkL, wkC, res1, rcs_wk, ics_wk, hu]) (by simp [PS.get, PS.obj, PS.lv, lkp_hit, lkp_miss, lkp_nil, lko]) (by rfl) (by rfl) (by simp [lko]) (by simp) (by simp) (by simp) (fun i hi => by rcases i with _ | _ | _ | _ | _ | _ | i <;> first | rfl | (exfalso; omega)))
theorem go0_fs (g : Gv) (y : Nat) (Q : Post) (h : ∀ S, Wk 0 S (g.Se y 0) → Q .normal S) : VC Tryd.prog 0 (.seq (pA (gC1 Tryd.f3)) (pA (pB (gC1 Tryd.f3)))) Q (g.So y) := by
  simp only [gX2, gC1, gX1, gT9, Tryd.f3, Option.getD_some, tailN, headN, pA, pB, pK, pL]
  unfold Gv.Se Gv.So Gv.E Gv.O at *
  simp only [List.cons_append, List.nil_append] at *
  simp -implicitDefEqProofs only [push_cast, rc, seval]
  (repeat (first | refine ⟨(by omega : _ ≤ _), ?_⟩ | refine ⟨(by omega : _ < _), ?_⟩ | refine ⟨(by simp; omega), ?_⟩ | refine ⟨(by simp; done), ?_⟩ | refine ⟨(by (unfold drawOk; kernel_rfl)), ?_⟩))
  refine h _ ?_
  (simp only [rc]; exact Wk.by _ _ _ [(0,0),(1,1),(2,2),(3,3),(4,4)] [] [] (by simp) (by simp [wkV, PV.el, PV.weak, PS.get, PS.obj, PS.lv, lkp_hit, lkp_miss, lkp_nil, lko, wkL, wkC, res1, rcs_wk, ics_wk]) (by simp [PS.get, PS.obj, PS.lv, lkp_hit, lkp_miss, lkp_nil, lko, wkL, wkC, PV.weak, wkL, wkC, res1, rcs_wk, ics_wk]) (by simp [PS.get, PS.obj, PS.lv, lkp_hit, lkp_miss, lkp_nil, lko]) (by rfl) (by rfl) (by simp [lko]) (by simp) (by simp) (by simp) (fun i hi => by rcases i with _ | _ | _ | _ | _ | _ | i <;> first | rfl | (exfalso; omega)))
theorem go1_fs (g : Gv) (y : Nat) (Q : Post) (h1 : (y : Int) < g.was.h → ∀ S, Wk 0 S (g.So y) → Q .normal S) (h2 : ¬ (y : Int) < g.was.h → ∀ S, Wk 0 S (g.So y) → Q (.exit 0) S) : VC Tryd.prog 0 (.seq (pA (gX1 Tryd.f3)) (pA (pB (gX1 Tryd.f3)))) Q (g.So y) := by
  simp only [gX2, gC1, gX1, gT9, Tryd.f3, Option.getD_some, tailN, headN, pA, pB, pK, pL]
  unfold Gv.So Gv.E Gv.O at *
  simp only [List.cons_append, List.nil_append] at *
  cases c : decide ((y : Int) < g.was.h) with
  | false =>
    simp -implicitDefEqProofs only [push_cast, c, seval]
    refine h2 (by simpa using c) _ ?_
    (simp only [rc]; exact Wk.by _ _ _ [(0,0),(1,1),(2,2),(3,3),(4,4)] [] [] (by simp) (by simp [wkV, PV.el, PV.weak, PS.get, PS.obj, PS.lv, lkp_hit, lkp_miss, lkp_nil, lko, wkL, wkC, res1, rcs_wk, ics_wk]) (by simp [PS.get, PS.obj, PS.lv, lkp_hit, lkp_miss, lkp_nil, lko, wkL, wkC, PV.weak, wkL, wkC, res1, rcs_wk, ics_wk]) (by simp [PS.get, PS.obj, PS.lv, lkp_hit, lkp_miss, lkp_nil, lko]) (by rfl) (by rfl) (by simp [lko]) (by simp) (by simp) (by simp) (fun i hi => by rcases i with _ | _ | _ | _ | _ | _ | i <;> first | rfl | (exfalso; omega)))
  | true =>
    simp -implicitDefEqProofs only [push_cast, c, seval]
    refine h1 (by simpa using c) _ ?_
    (simp only [rc]; exact Wk.by _ _ _ [(0,0),(1,1),(2,2),(3,3),(4,4)] [] [] (by simp) (by simp [wkV, PV.el, PV.weak, PS.get, PS.obj, PS.lv, lkp_hit, lkp_miss, lkp_nil, lko, wkL, wkC, res1, rcs_wk, ics_wk]) (by simp [PS.get, PS.obj, PS.lv, lkp_hit, lkp_miss, lkp_nil, lko, wkL, wkC, PV.weak, wkL, wkC, res1, rcs_wk, ics_wk]) (by simp [PS.get, PS.obj, PS.lv, lkp_hit, lkp_miss, lkp_nil, lko]) (by rfl) (by rfl) (by simp [lko]) (by simp) (by simp) (by simp) (fun i hi => by rcases i with _ | _ | _ | _ | _ | _ | i <;> first | rfl | (exfalso; omega)))
theorem go2_fs (g : Gv) (y : Nat) (hy : y < 100) (Q : Post) (h : ∀ S, Wk 0 S (g.So (y + 1)) → Q .normal S) : PWP Tryd.prog 0 (pB (pB (pB (gX1 Tryd.f3)))) Q (g.So y) := by
  simp only [gX2, gC1, gX1, gT9, Tryd.f3, Option.getD_some, tailN, headN, pA, pB, pK, pL]
  refine VC_sound mixed ?_
  have hu := wr_up (k := y) (by omega)
  unfold Gv.So Gv.E Gv.O at *
  simp only [List.cons_append, List.nil_append] at *
  simp -implicitDefEqProofs only [push_cast, hu, seval]
  refine h _ ?_
  (simp only [rc]; exact Wk.by _ _ _ [(0,0),(1,1),(2,2),(3,3),(4,4)] [] [] (by simp) (by simp [wkV, PV.el, PV.weak, PS.get, PS.obj, PS.lv, lkp_hit, lkp_miss, lkp_nil, lko, wkL, wkC, res1, rcs_wk, ics_wk, hu]) (by simp [PS.get, PS.obj, PS.lv, lkp_hit, lkp_miss, lkp_nil, lko, wkL, wkC, PV.weak, wkL, wkC, res1, rcs_wk, ics_wk, hu]) (by simp [PS.get, PS.obj, PS.lv, lkp_hit, lkp_miss, lkp_nil, lko]) (by rfl) (by rfl) (by simp [lko]) (by simp) (by simp) (by simp) (fun i hi => by rcases i with _ | _ | _ | _ | _ | _ | i <;> first | rfl | (exfalso; omega)))
theorem gs_fs (g : Gv) (Q : Post) (h : ∀ S, Wk 0 S (g.So 0) → Q .normal S) : PWP Tryd.prog 0 (pA (pA (gT9 Tryd.f3))) Q g.Sz := by
  simp only [gX2, gC1, gX1, gT9, Tryd.f3, Option.getD_some, tailN, headN, pA, pB, pK, pL]
  refine VC_sound mixed ?_
  unfold Gv.So Gv.Sz Gv.E Gv.O at *
  simp only [List.cons_append, List.nil_append] at *
  simp -implicitDefEqProofs only [push_cast, rc, seval]
  (repeat (first | refine ⟨(by omega : _ ≤ _), ?_⟩ | refine ⟨(by omega : _ < _), ?_⟩ | refine ⟨(by simp; omega), ?_⟩ | refine ⟨(by simp; done), ?_⟩ | refine ⟨(by (unfold drawOk; kernel_rfl)), ?_⟩))
  refine h _ ?_
  (simp only [rc]; exact Wk.by _ _ _ [(0,0),(1,1),(2,2),(3,3),(4,4)] [] [] (by simp) (by simp [wkV, PV.el, PV.weak, PS.get, PS.obj, PS.lv, lkp_hit, lkp_miss, lkp_nil, lko, wkL, wkC, res1, rcs_wk, ics_wk]) (by simp [PS.get, PS.obj, PS.lv, lkp_hit, lkp_miss, lkp_nil, lko, wkL, wkC, PV.weak, wkL, wkC, res1, rcs_wk, ics_wk]) (by simp [PS.get, PS.obj, PS.lv, lkp_hit, lkp_miss, lkp_nil, lko]) (by rfl) (by rfl) (by simp [lko]) (by simp) (by simp) (by simp) (fun i hi => by rcases i with _ | _ | _ | _ | _ | _ | i <;> first | rfl | (exfalso; omega)))
theorem Se_Si (g : Gv) (y x : Nat) : g.Se y x = g.Si y x := rfl
theorem Se_So (g : Gv) (y x : Nat) : Wk 0 (g.Se y x) (g.So y) := by
  unfold Gv.Se Gv.So Gv.E Gv.O
  simp only [List.cons_append, List.nil_append]
  (simp only [rc]; exact Wk.by _ _ _ [(0,0),(1,1),(2,2),(3,3),(4,4)] [] [] (by simp) (by simp [wkV, PV.el, PV.weak, PS.get, PS.obj, PS.lv, lkp_hit, lkp_miss, lkp_nil, lko, wkL, wkC, res1, rcs_wk, ics_wk]) (by simp [PS.get, PS.obj, PS.lv, lkp_hit, lkp_miss, lkp_nil, lko, wkL, wkC, PV.weak, wkL, wkC, res1, rcs_wk, ics_wk]) (by simp [PS.get, PS.obj, PS.lv, lkp_hit, lkp_miss, lkp_nil, lko]) (by rfl) (by rfl) (by simp [lko]) (by simp) (by simp) (by simp) (fun i hi => by rcases i with _ | _ | _ | _ | _ | _ | i <;> first | rfl | (exfalso; omega)))
theorem So_So (g : Gv) (y : Nat) : Wk 0 (g.So y) (g.So y) := by
  unfold Gv.So Gv.E Gv.O
  simp only [List.cons_append, List.nil_append]
  (simp only [rc]; exact Wk.by _ _ _ [(0,0),(1,1),(2,2),(3,3),(4,4)] [] [] (by simp) (by simp [wkV, PV.el, PV.weak, PS.get, PS.obj, PS.lv, lkp_hit, lkp_miss, lkp_nil, lko, wkL, wkC, res1, rcs_wk, ics_wk]) (by simp [PS.get, PS.obj, PS.lv, lkp_hit, lkp_miss, lkp_nil, lko, wkL, wkC, PV.weak, wkL, wkC, res1, rcs_wk, ics_wk]) (by simp [PS.get, PS.obj, PS.lv, lkp_hit, lkp_miss, lkp_nil, lko]) (by rfl) (by rfl) (by simp [lko]) (by simp) (by simp) (by simp) (fun i hi => by rcases i with _ | _ | _ | _ | _ | _ | i <;> first | rfl | (exfalso; omega)))
theorem Se_Se (g : Gv) (y x : Nat) : Wk 0 (g.Se y x) (g.Se y x) := by
  unfold Gv.Se Gv.E Gv.O
  simp only [List.cons_append, List.nil_append]
  (simp only [rc]; exact Wk.by _ _ _ [(0,0),(1,1),(2,2),(3,3),(4,4)] [] [] (by simp) (by simp [wkV, PV.el, PV.weak, PS.get, PS.obj, PS.lv, lkp_hit, lkp_miss, lkp_nil, lko, wkL, wkC, res1, rcs_wk, ics_wk]) (by simp [PS.get, PS.obj, PS.lv, lkp_hit, lkp_miss, lkp_nil, lko, wkL, wkC, PV.weak, wkL, wkC, res1, rcs_wk, ics_wk]) (by simp [PS.get, PS.obj, PS.lv, lkp_hit, lkp_miss, lkp_nil, lko]) (by rfl) (by rfl) (by simp [lko]) (by simp) (by simp) (by simp) (fun i hi => by rcases i with _ | _ | _ | _ | _ | _ | i <;> first | rfl | (exfalso; omega)))
theorem So_Sz (g : Gv) (y : Nat) : Wk 0 (g.So y) g.Sz := by
  unfold Gv.Sz Gv.So Gv.E Gv.O
  simp only [List.cons_append, List.nil_append]
  (simp only [rc]; exact Wk.by _ _ _ [(0,0),(1,1),(2,2),(3,3),(4,4)] [] [] (by simp) (by simp [wkV, PV.el, PV.weak, PS.get, PS.obj, PS.lv, lkp_hit, lkp_miss, lkp_nil, lko, wkL, wkC, res1, rcs_wk, ics_wk]) (by simp [PS.get, PS.obj, PS.lv, lkp_hit, lkp_miss, lkp_nil, lko, wkL, wkC, PV.weak, wkL, wkC, res1, rcs_wk, ics_wk]) (by simp [PS.get, PS.obj, PS.lv, lkp_hit, lkp_miss, lkp_nil, lko]) (by rfl) (by rfl) (by simp [lko]) (by simp) (by simp) (by simp) (fun i hi => by rcases i with _ | _ | _ | _ | _ | _ | i <;> first | rfl | (exfalso; omega)))
/-- All places. -/
theorem gl_fs (g : Gv) (Q : Post) (h : ∀ S, Wk 0 S g.Sz → Q .normal S) : PWP Tryd.prog 0 (pA (gT9 Tryd.f3)) Q g.Sz := by
  have hw := g.hw
  unfold Sml at hw
  have e : pA (gT9 Tryd.f3) = .seq (pA (pA (gT9 Tryd.f3))) (.block 0 (.loop (gX1 Tryd.f3))) := by conv => lhs; rw [g_s1, pA]
  rw [e]
  refine PWP.seq (gs_fs g _ fun S hS => ?_)
  refine PWP.weak hS (PWP.block ?_)
  refine PWP.loop (α := { y : Nat // y ≤ 24 }) (fun a => g.So a.1) (fun a => 24 - a.1) ⟨0, by decide⟩ (Wk.trans (So_So g 0) (So_So g 0)) ?_
  rintro ⟨y, hy⟩
  simp only
  rw [g_s2]
  refine PWP.cutV mixed 1 ?_
  show VC Tryd.prog 0 (.seq (pA (gX1 Tryd.f3)) (pA (pB (gX1 Tryd.f3)))) _ (g.So y)
  refine go1_fs g y _ (fun h1 S hS => ?_) (fun h1 S hS => ?_)
  · show PWP Tryd.prog 0 (.seq (.block 1 (gC1 Tryd.f3)) (pB (pB (pB (gX1 Tryd.f3))))) _ S
    refine PWP.weak hS (PWP.seq (PWP.block ?_))
    rw [g_s3]
    refine PWP.cutV mixed 1 ?_
    show VC Tryd.prog 0 (.seq (pA (gC1 Tryd.f3)) (pA (pB (gC1 Tryd.f3)))) _ (g.So y)
    refine go0_fs g y _ fun S hS => ?_
    show PWP Tryd.prog 0 (.block 2 (.loop (gX2 Tryd.f3))) _ S
    refine PWP.weak hS (PWP.block ?_)
    refine PWP.loop (α := { x : Nat // x ≤ 24 }) (fun a => g.Se y a.1) (fun a => 24 - a.1) ⟨0, by decide⟩ (Se_Se g y 0) ?_
    rintro ⟨x, hx⟩
    simp only
    rw [g_s4]
    refine PWP.cutV mixed 1 ?_
    show VC Tryd.prog 0 (.seq (pA (gX2 Tryd.f3)) (pA (pB (gX2 Tryd.f3)))) _ (g.Se y x)
    refine gi1_fs g y x _ (fun h2 S hS => ?_) (fun h2 S hS => ?_)
    · show PWP Tryd.prog 0 (.seq (.block 3 (gC3 Tryd.f3)) (pB (pB (pB (gX2 Tryd.f3))))) _ S
      refine PWP.weak hS (PWP.seq (PWP.block ?_))
      rw [Se_Si]
      have nxt : ∀ S, Wk 0 S (g.Se y x) → PWP Tryd.prog 0 (pB (pB (pB (gX2 Tryd.f3)))) (loopK 0 (fun a : { x : Nat // x ≤ 24 } => g.Se y a.1) (fun a => 24 - a.1) ⟨x, hx⟩ (blkK 2 (blkK 1 (seqK (PWP Tryd.prog 0 (pB (pB (pB (gX1 Tryd.f3))))) (loopK 0 (fun a : { y : Nat // y ≤ 24 } => g.So a.1) (fun a => 24 - a.1) ⟨y, hy⟩ (blkK 0 Q)))))) S := fun S hS =>
        PWP.weak hS (gi2_fs g y x (by omega) _ fun S hS => ⟨⟨x + 1, by omega⟩, by show 24 - (x + 1) < 24 - x; omega, hS⟩)
      refine gA_fs g y x h2 h1 _ (gB_fs g y x h2 h1 _ (gC_fs g y x h2 h1 _ (fun S hS => ?_) (fun hne => gD_fs g y x h2 h1 hne _ (fun S hS => ?_))))
      · exact nxt S hS
      · exact nxt S hS
    · show PWP Tryd.prog 0 (pB (pB (pB (gX1 Tryd.f3)))) _ S
      refine PWP.weak (Wk.trans hS (Se_So g y x)) (go2_fs g y (by omega) _ fun S hS => ⟨⟨y + 1, by omega⟩, by show 24 - (y + 1) < 24 - y; omega, hS⟩)
  · exact h S (Wk.trans hS (So_Sz g y))
end Go.Proofs.Sh

/- TopGravity: there and back (walk). -/
set_option maxRecDepth 100000
set_option linter.unusedSimpArgs false
set_option linter.unusedVariables false
namespace Go.Proofs.Sh
open Go.Pv
open Rg
noncomputable def shL (L : List Rt) (dx dy : Int) : List Rt := Rg.cn (hasL (cntL (L.map (shR dx dy))))
noncomputable def Gv.bk (g : Gv) : List Rt := mt (shL g.th (gP1 g.how g.now g.was) (gP2 g.how g.now g.was)) (on (kR g.how g.now g.was))
def Gv.hv (g : Gv) : Bool := !decide (g.how = 10) && ((decide (g.col = 1) && (Int.tmod (g.now.w - g.was.w) 2 != 0)) || (decide (g.row = 1) && (Int.tmod (g.now.h - g.was.h) 2 != 0)))
noncomputable def Gv.S2 (g : Gv) : PS := { n := 289, env := [(39, .box 5 0)] ++ g.E, objs := (5, some [.sl 4 (rts g.bk)]) :: g.O, live := [], nxt := 6 }
noncomputable def Gv.S3 (g : Gv) : PS := { n := 289, env := [(40, .bool g.hv), (39, .box 5 0)] ++ g.E, objs := (5, some [.sl 4 (rts g.bk)]) :: g.O, live := [], nxt := 6 }
theorem shL_reg {L : List Rt} (dx dy : Int) : Reg (shL L dx dy) := of_reg _
theorem shL_bnd {L : List Rt} (dx dy : Int) : Bnd (shL L dx dy) := of_bnd _
set_option maxHeartbeats 4000000 in
theorem gt1_fs (g : Gv) (hrt : Reg g.th) (ls : (shL g.th (gP1 g.how g.now g.was) (gP2 g.how g.now g.was)).length ≤ 1000000) (hin : mn g.th (on ⟨0, 0, g.now.w, g.now.h⟩) = []) (Q : Post) (hQ : PWP Tryd.prog 0 (tailN 2 (pB (gT9 Tryd.f3))) Q g.S2) : PWP Tryd.prog 0 (pB (gT9 Tryd.f3)) Q g.Sz := by
  refine PWP.cutV mixed 2 ?_
  have key : ∀ S', Wk 0 S' g.S2 → seqK (PWP Tryd.prog 0 (tailN 2 (pB (gT9 Tryd.f3)))) Q .normal S' := fun S' hw => PWP.weak hw hQ
  generalize seqK (PWP Tryd.prog 0 (tailN 2 (pB (gT9 Tryd.f3)))) Q = Q2 at *
  have hw := g.hw
  have hn := g.hn
  obtain ⟨q1, q2⟩ := gP_b (how := g.how) hn hw
  have t1 := kept_fs g.how g.h1 g.h2 g.now g.was hn hw
  have t2 := shift_fs g.th (gP1 g.how g.now g.was) (gP2 g.how g.now g.was) g.bt (by have := g.lt; omega) (by omega) (by omega)
  rw [show Rg.cn (hasL (cntL (g.th.map (shR (gP1 g.how g.now g.was) (gP2 g.how g.now g.was))))) = shL g.th (gP1 g.how g.now g.was) (gP2 g.how g.now g.was) from rfl] at t2
  have hkin : RtIn (kR g.how g.now g.was) := by
    unfold Sml at hw hn
    unfold kR kx kw
    split
    · exact z4_in
    · exact ⟨⟨by simp only; omega, by simp only; omega⟩, ⟨by simp only; omega, by simp only; omega⟩, ⟨by simp only; omega, by simp only; omega⟩, ⟨by simp only; omega, by simp only; omega⟩⟩
  have t3 := within_fs (shL g.th (gP1 g.how g.now g.was) (gP2 g.how g.now g.was)) (kR g.how g.now g.was) (shL_reg _ _) (shL_bnd _ _) (by omega) hkin
  rw [show mt (shL g.th (gP1 g.how g.now g.was) (gP2 g.how g.now g.was)) (on (kR g.how g.now g.was)) = g.bk from rfl] at t3
  have t4 := of_on ⟨0, 0, g.now.w, g.now.h⟩ (by unfold Sml at hn; exact ⟨⟨by simp only; omega, by simp only; omega⟩, ⟨by simp only; omega, by simp only; omega⟩, ⟨by simp only; omega, by simp only; omega⟩, ⟨by simp only; omega, by simp only; omega⟩⟩)
  have t5 := inside_fs g.th (on ⟨0, 0, g.now.w, g.now.h⟩) hrt (of_reg _) g.bt (of_bnd _) (by have := g.lt; omega) (by have := on_few ⟨0, 0, g.now.w, g.now.h⟩; omega)
  rw [hin, show decide ((([] : List Rt).length : Int) = 0) = true from rfl] at t5
  unfold Gv.S2 at key
  simp only [gX2, gC1, gX1, gT9, Tryd.f3, Option.getD_some, tailN, headN, pA, pB, pK, pL]
  simp only [Gv.Sz]
  unfold Gv.E Gv.O at *
  simp only [List.cons_append, List.nil_append] at *
  generalize g.bk = B at *
  generalize shL g.th (gP1 g.how g.now g.was) (gP2 g.how g.now g.was) = SH at *
  generalize kR g.how g.now g.was = kr at *
  generalize gP1 g.how g.now g.was = Q1 at *
  generalize gP2 g.how g.now g.was = Q22 at *
  generalize on ⟨0, 0, g.now.w, g.now.h⟩ = ob at *
  simp -implicitDefEqProofs only [push_cast, rc, seval]
  (repeat (first | refine ⟨(by omega : _ ≤ _), ?_⟩ | refine ⟨(by omega : _ < _), ?_⟩ | refine ⟨(by simp; omega), ?_⟩ | refine ⟨(by simp; done), ?_⟩ | refine ⟨(by (unfold drawOk; kernel_rfl)), ?_⟩))
  refine callE_p t1 ?_
  simp -implicitDefEqProofs only [push_cast, rpv, rc, seval]
  (repeat (first | refine ⟨(by omega : _ ≤ _), ?_⟩ | refine ⟨(by omega : _ < _), ?_⟩ | refine ⟨(by simp; omega), ?_⟩ | refine ⟨(by simp; done), ?_⟩ | refine ⟨(by (unfold drawOk; kernel_rfl)), ?_⟩))
  refine callE_p t2 ?_
  simp -implicitDefEqProofs only [push_cast, rgn, rpv, rc, seval]
  (repeat (first | refine ⟨(by omega : _ ≤ _), ?_⟩ | refine ⟨(by omega : _ < _), ?_⟩ | refine ⟨(by simp; omega), ?_⟩ | refine ⟨(by simp; done), ?_⟩ | refine ⟨(by (unfold drawOk; kernel_rfl)), ?_⟩))
  refine callE_p t3 ?_
  simp -implicitDefEqProofs only [push_cast, rgn, rpv, rc, seval]
  (repeat (first | refine ⟨(by omega : _ ≤ _), ?_⟩ | refine ⟨(by omega : _ < _), ?_⟩ | refine ⟨(by simp; omega), ?_⟩ | refine ⟨(by simp; done), ?_⟩ | refine ⟨(by (unfold drawOk; kernel_rfl)), ?_⟩))
  refine callE_p t4 ?_
  simp -implicitDefEqProofs only [push_cast, rgn, rpv, rc, seval]
  refine callE_p t5 ?_
  simp -implicitDefEqProofs only [push_cast, seval]
  (repeat (first | refine ⟨(by omega : _ ≤ _), ?_⟩ | refine ⟨(by omega : _ < _), ?_⟩ | refine ⟨(by simp; omega), ?_⟩ | refine ⟨(by simp; done), ?_⟩ | refine ⟨(by (unfold drawOk; kernel_rfl)), ?_⟩))
  refine key _ ?_
  (simp only [rc]; exact Wk.by _ _ _ [(0,0),(1,1),(2,2),(3,3),(4,4),(5,90)] [] [] (by simp) (by simp [wkV, PV.el, PV.weak, PS.get, PS.obj, PS.lv, lkp_hit, lkp_miss, lkp_nil, lko, wkL, wkC, res1, rcs_wk, ics_wk]) (by simp [PS.get, PS.obj, PS.lv, lkp_hit, lkp_miss, lkp_nil, lko, wkL, wkC, PV.weak, wkL, wkC, res1, rcs_wk, ics_wk]) (by simp [PS.get, PS.obj, PS.lv, lkp_hit, lkp_miss, lkp_nil, lko]) (by rfl) (by rfl) (by simp [lko]) (by simp) (by simp) (by simp) (fun i hi => by rcases i with _ | _ | _ | _ | _ | _ | i <;> first | rfl | (exfalso; omega)))
end Go.Proofs.Sh

/- TopGravity: its end (walk). -/
set_option maxRecDepth 100000
set_option linter.unusedSimpArgs false
set_option linter.unusedVariables false
namespace Go.Proofs.Sh
open Go.Pv
open Rg
theorem tm2 (n : Int) : -1 ≤ n.tmod 2 ∧ n.tmod 2 ≤ 1 := by
  rcases Int.le_total 0 n with h | h
  · rw [Int.tmod_eq_emod_of_nonneg h]; omega
  · rw [show n = -(-n) by omega, Int.neg_tmod, Int.tmod_eq_emod_of_nonneg (by omega)]; omega
theorem hv_b (g : Gv) : g.hv = (((g.how : Int) != 10) && ((((g.col : Int) == 1) && (Int.tmod (g.now.w - g.was.w) 2 != 0)) || (((g.row : Int) == 1) && (Int.tmod (g.now.h - g.was.h) 2 != 0)))) := by
  unfold Gv.hv
  have a1 : ((g.how : Int) != 10) = !decide (g.how = 10) := by rw [bne, show ((g.how : Int) == 10) = decide ((g.how : Int) = 10) from rfl]; congr 1; exact decide_eq_decide.2 (by omega)
  have a2 : ((g.col : Int) == 1) = decide (g.col = 1) := by rw [show ((g.col : Int) == 1) = decide ((g.col : Int) = 1) from rfl]; exact decide_eq_decide.2 (by omega)
  have a3 : ((g.row : Int) == 1) = decide (g.row = 1) := by rw [show ((g.row : Int) == 1) = decide ((g.row : Int) = 1) from rfl]; exact decide_eq_decide.2 (by omega)
  rw [a1, a2, a3]
set_option maxHeartbeats 4000000 in
theorem gt2_fs (g : Gv) (Q : Post) (hQ : PWP Tryd.prog 0 (tailN 3 (pB (gT9 Tryd.f3))) Q g.S3) : PWP Tryd.prog 0 (tailN 2 (pB (gT9 Tryd.f3))) Q g.S2 := by
  refine PWP.cutV mixed 0 ?_
  have key : ∀ S', Wk 0 S' g.S3 → seqK (PWP Tryd.prog 0 (tailN 0 (tailN 2 (pB (gT9 Tryd.f3))))) Q .normal S' := fun S' hw => PWP.weak hw hQ
  generalize seqK (PWP Tryd.prog 0 (tailN 0 (tailN 2 (pB (gT9 Tryd.f3))))) Q = Q2 at *
  have hw := g.hw
  have hn := g.hn
  unfold Sml at hw hn
  have m1 := tm2 (g.now.w - g.was.w)
  have m2 := tm2 (g.now.h - g.was.h)
  have w1 : IntKind.i64.wrap (g.now.w - g.was.w) = g.now.w - g.was.w := wrap_i64_id (by omega) (by omega)
  have w2 : IntKind.i64.wrap (g.now.h - g.was.h) = g.now.h - g.was.h := wrap_i64_id (by omega) (by omega)
  have w3 : IntKind.i64.wrap (Int.tmod (g.now.w - g.was.w) 2) = Int.tmod (g.now.w - g.was.w) 2 := wrap_i64_id (by omega) (by omega)
  have w4 : IntKind.i64.wrap (Int.tmod (g.now.h - g.was.h) 2) = Int.tmod (g.now.h - g.was.h) 2 := wrap_i64_id (by omega) (by omega)
  have hv := hv_b g
  unfold Gv.S3 at key
  simp only [gX2, gC1, gX1, gT9, Tryd.f3, Option.getD_some, tailN, headN, pA, pB, pK, pL]
  simp only [Gv.S2]
  generalize g.hv = hb at *
  unfold Gv.E Gv.O at *
  simp only [List.cons_append, List.nil_append] at *
  generalize g.bk = B at *
  cases e1 : ((g.how : Int) != 10) with
  | false =>
    rw [e1, Bool.false_and] at hv
    subst hv
    simp -implicitDefEqProofs only [push_cast, e1, seval]
    refine key _ ?_
    (simp only [rc]; exact Wk.by _ _ _ [(0,0),(1,1),(2,2),(3,3),(4,4),(5,5)] [] [] (by simp) (by simp [wkV, PV.el, PV.weak, PS.get, PS.obj, PS.lv, lkp_hit, lkp_miss, lkp_nil, lko, wkL, wkC, res1, rcs_wk, ics_wk]) (by simp [PS.get, PS.obj, PS.lv, lkp_hit, lkp_miss, lkp_nil, lko, wkL, wkC, PV.weak, wkL, wkC, res1, rcs_wk, ics_wk]) (by simp [PS.get, PS.obj, PS.lv, lkp_hit, lkp_miss, lkp_nil, lko]) (by rfl) (by rfl) (by simp [lko]) (by simp) (by simp) (by simp) (fun i hi => by rcases i with _ | _ | _ | _ | _ | _ | i <;> first | rfl | (exfalso; omega)))
  | true =>
    rw [e1, Bool.true_and] at hv
    cases e2 : ((g.col : Int) == 1)
    all_goals cases e3 : (Int.tmod (g.now.w - g.was.w) 2 != 0)
    all_goals cases e4 : ((g.row : Int) == 1)
    all_goals cases e5 : (Int.tmod (g.now.h - g.was.h) 2 != 0)
    all_goals (rw [e2, e3, e4, e5] at hv; simp only [Bool.true_and, Bool.false_and, Bool.or_false, Bool.false_or, Bool.true_or, Bool.and_false, Bool.or_true] at hv; subst hv)
    all_goals simp -implicitDefEqProofs only [push_cast, e1, e2, e3, e4, e5, w1, w2, w3, w4, rc, seval]
    all_goals (repeat (first | refine ⟨(by omega : _ ≤ _), ?_⟩ | refine ⟨(by omega : _ < _), ?_⟩ | refine ⟨(by simp; omega), ?_⟩ | refine ⟨(by simp; done), ?_⟩ | refine ⟨(by (unfold drawOk; kernel_rfl)), ?_⟩))
    all_goals (refine key _ ?_)
    all_goals (simp only [rc]; exact Wk.by _ _ _ [(0,0),(1,1),(2,2),(3,3),(4,4),(5,5)] [] [] (by simp) (by simp [wkV, PV.el, PV.weak, PS.get, PS.obj, PS.lv, lkp_hit, lkp_miss, lkp_nil, lko, wkL, wkC, res1, rcs_wk, ics_wk]) (by simp [PS.get, PS.obj, PS.lv, lkp_hit, lkp_miss, lkp_nil, lko, wkL, wkC, PV.weak, wkL, wkC, res1, rcs_wk, ics_wk]) (by simp [PS.get, PS.obj, PS.lv, lkp_hit, lkp_miss, lkp_nil, lko]) (by rfl) (by rfl) (by simp [lko]) (by simp) (by simp) (by simp) (fun i hi => by rcases i with _ | _ | _ | _ | _ | _ | i <;> first | rfl | (exfalso; omega)))
set_option maxHeartbeats 4000000 in
theorem gt3_fs (g : Gv) (hrr : Reg g.r) (bb : Bnd g.bk) (rb : Reg g.bk) (lb : g.bk.length ≤ 1000000) (hA : g.hv = true → areaL g.bk ≤ areaL g.r) (hB : g.hv = false → sameL g.bk (shL g.th (-g.p1) (-g.p2)) = true ∧ mn g.bk g.r = []) : PWP Tryd.prog 0 (tailN 3 (pB (gT9 Tryd.f3))) (retQ Tryd.prog 0 Tryd.f3.results.toList [] 0 (.bool true)) g.S3 := by
  refine VC_sound mixed ?_
  have b1 := g.b1
  have b2 := g.b2
  have br := g.br
  have lr := g.lr
  have n1 : IntKind.i64.wrap (0 - g.p1) = -g.p1 := by rw [Int.zero_sub]; exact wrap_i64_id (by omega) (by omega)
  have n2 : IntKind.i64.wrap (0 - g.p2) = -g.p2 := by rw [Int.zero_sub]; exact wrap_i64_id (by omega) (by omega)
  have t1 := area_fs g.bk bb lb
  have t2 := area_fs g.r br lr
  have t3 := shift_fs g.th (-g.p1) (-g.p2) g.bt (by have := g.lt; omega) (by omega) (by omega)
  rw [show Rg.cn (hasL (cntL (g.th.map (shR (-g.p1) (-g.p2))))) = shL g.th (-g.p1) (-g.p2) from rfl] at t3
  have t4 := same_fs g.bk (shL g.th (-g.p1) (-g.p2)) bb (shL_bnd _ _) lb
  have t5 := inside_fs g.bk g.r rb hrr bb br (by omega) (by omega)
  simp only [gX2, gC1, gX1, gT9, Tryd.f3, Option.getD_some, tailN, headN, pA, pB, pK, pL]
  simp only [Gv.S3]
  unfold Gv.E Gv.O
  simp only [List.cons_append, List.nil_append]
  generalize shL g.th (-g.p1) (-g.p2) = SH at *
  generalize g.hv = hb at *
  cases hb with
  | true =>
    have hA := hA rfl
    have hd : decide (areaL g.bk ≤ areaL g.r) = true := by simpa using hA
    simp -implicitDefEqProofs only [push_cast, seval]
    (repeat (first | refine ⟨(by omega : _ ≤ _), ?_⟩ | refine ⟨(by omega : _ < _), ?_⟩ | refine ⟨(by simp; omega), ?_⟩ | refine ⟨(by simp; done), ?_⟩ | refine ⟨(by (unfold drawOk; kernel_rfl)), ?_⟩))
    refine callE_p t1 ?_
    simp -implicitDefEqProofs only [push_cast, rgn, seval]
    refine callE_p t2 ?_
    simp -implicitDefEqProofs only [push_cast, hd, seval]
    all_goals (first | done | rfl | exact ⟨_, rfl, by simp [wkL, res2, res1, PV.weak, PV.el]⟩ | (simp [wkL, res2, res1, PV.weak, PV.el]; done))
  | false =>
    obtain ⟨h1, h2⟩ := hB rfl
    rw [h1] at t4
    rw [h2, show decide ((([] : List Rt).length : Int) = 0) = true from rfl] at t5
    simp -implicitDefEqProofs only [push_cast, n1, n2, seval]
    (repeat (first | refine ⟨(by omega : _ ≤ _), ?_⟩ | refine ⟨(by omega : _ < _), ?_⟩ | refine ⟨(by simp; omega), ?_⟩ | refine ⟨(by simp; done), ?_⟩ | refine ⟨(by (unfold drawOk; kernel_rfl)), ?_⟩))
    refine callE_p t3 ?_
    simp -implicitDefEqProofs only [push_cast, rgn, seval]
    refine callE_p t4 ?_
    simp -implicitDefEqProofs only [push_cast, rgn, seval]
    refine callE_p t5 ?_
    simp -implicitDefEqProofs only [push_cast, seval]
    all_goals (first | done | rfl | exact ⟨_, rfl, by simp [wkL, res2, res1, PV.weak, PV.el]⟩ | (simp [wkL, res2, res1, PV.weak, PV.el]; done))
/-- The end, whole. -/
theorem gt_fs (g : Gv) (hrt : Reg g.th) (ls : (shL g.th (gP1 g.how g.now g.was) (gP2 g.how g.now g.was)).length ≤ 1000000) (hin : mn g.th (on ⟨0, 0, g.now.w, g.now.h⟩) = []) (hrr : Reg g.r) (bb : Bnd g.bk) (rb : Reg g.bk) (lb : g.bk.length ≤ 1000000) (hA : g.hv = true → areaL g.bk ≤ areaL g.r) (hB : g.hv = false → sameL g.bk (shL g.th (-g.p1) (-g.p2)) = true ∧ mn g.bk g.r = []) : PWP Tryd.prog 0 (gT9 Tryd.f3) (retQ Tryd.prog 0 Tryd.f3.results.toList [] 0 (.bool true)) g.Sz := by
  have e : gT9 Tryd.f3 = .seq (pA (gT9 Tryd.f3)) (pB (gT9 Tryd.f3)) := by kernel_rfl
  rw [e]
  refine PWP.seq (gl_fs g _ fun S hS => ?_)
  refine PWP.weak hS (gt1_fs g hrt ls hin _ ?_)
  exact gt2_fs g _ (gt3_fs g hrr bb rb lb hA hB)
end Go.Proofs.Sh

/- TopGravity: its beginning (walk). -/
set_option maxRecDepth 100000
set_option linter.unusedSimpArgs false
set_option linter.unusedVariables false
namespace Go.Proofs.Sh
open Go.Pv
open Rg
/-- Too many rectangles. -/
theorem big_fs (L : List Rt) (hl : 20 < L.length) (x y a b : Int) (w h m n gg : Nat) : Fsp Tryd.prog 3 [] 0 [.sl 4 (rts L), .int .i8 x, .int .i8 y, .int .i8 a, .int .i8 b, .int .u8 w, .int .u8 h, .int .u8 m, .int .u8 n, .int .u8 gg] [] 0 (.bool true) := by
  have t0 := awake_fs
  have c1 : decide ((20 : Int) < (L.length : Int)) = true := by simp; omega
  (refine Fsp.ofs (nx := 0) mixed Tryd.func3 rfl (by simp [Tryd.f3]) ?_; simp -implicitDefEqProofs only [push_cast, Tryd.f3, rts_length, seval])
  refine callE_p t0 ?_
  simp -implicitDefEqProofs only [push_cast, rts_length, gt_iff_lt, c1, seval]
  all_goals (first | done | rfl | exact ⟨_, rfl, by simp [wkL, res2, res1, PV.weak, PV.el]⟩ | (simp [wkL, res2, res1, PV.weak, PV.el]; done))
set_option maxHeartbeats 8000000 in
theorem gb_fs (g : Gv) (L : List Rt) (hL : ∀ r ∈ L, RtIn r) (hl : L.length ≤ 20) (x y a b : Int) (w h m n gg : Nat) (hx : -128 ≤ x ∧ x ≤ 127) (hy : -128 ≤ y ∧ y ≤ 127) (ha : -128 ≤ a ∧ a ≤ 127) (hb : -128 ≤ b ∧ b ≤ 127) (hw : w < 256) (hh : h < 256) (hm : m < 256) (hn : n < 256) (hg : gg < 256)
    (e1 : (⟨x, y, ((w % 24 : Nat) : Int) + 1, ((h % 24 : Nat) : Int) + 1⟩ : Rt) = g.was) (e2 : (⟨a, b, ((m % 24 : Nat) : Int) + 1, ((n % 24 : Nat) : Int) + 1⟩ : Rt) = g.now) (e3 : gg % 10 + 1 = g.how)
    (e4 : mt (Rg.cn (hasL (cntL L))) (on ⟨0, 0, g.was.w, g.was.h⟩) = g.r) (e5 : mt (shL g.r g.p1 g.p2) (on (kR g.how g.was g.now)) = g.th) (e6 : gP1 g.how g.was g.now = g.p1) (e7 : gP2 g.how g.was g.now = g.p2)
    (e8 : (g.how - 1) % 3 = g.col) (e9 : (g.how - 1) / 3 = g.row) (ls : (shL g.r g.p1 g.p2).length ≤ 1000000) (lo : (Rg.cn (hasL (cntL L))).length ≤ 1000000)
    (hT : PWP Tryd.prog 0 (gT9 Tryd.f3) (retQ Tryd.prog 0 Tryd.f3.results.toList [] 0 (.bool true)) g.Sz) : Fsp Tryd.prog 3 [] 0 [.sl 4 (rts L), .int .i8 x, .int .i8 y, .int .i8 a, .int .i8 b, .int .u8 w, .int .u8 h, .int .u8 m, .int .u8 n, .int .u8 gg] [] 0 (.bool true) := by
  have t0 := awake_fs
  have c1 : decide ((20 : Int) < (L.length : Int)) = false := by simp; omega
  have s1 := small_fs x y w h hx hy hw hh
  have s2 := small_fs a b m n ha hb hm hn
  rw [e1] at s1
  rw [e2] at s2
  have H1 := g.h1
  have H2 := g.h2
  have u1 : IntKind.i64.wrap (gg : Int) = gg := wrap_i64_id (by omega) (by omega)
  have u2 : (gg : Int).tmod 10 = (gg : Int) % 10 := Int.tmod_eq_emod_of_nonneg (by omega)
  have u3 : IntKind.i64.wrap ((gg : Int) % 10) = (gg : Int) % 10 := wrap_i64_id (by omega) (by omega)
  have u4 : IntKind.i64.wrap ((gg : Int) % 10 + 1) = g.how := by rw [wrap_i64_id (by omega) (by omega), ← e3]; omega
  have v1 : IntKind.i64.wrap ((g.how : Int) - 1) = (g.how : Int) - 1 := wrap_i64_id (by omega) (by omega)
  have v2 : Int.tmod ((g.how : Int) - 1) 3 = g.col := by rw [Int.tmod_eq_emod_of_nonneg (by omega), ← e8]; omega
  have v3 : Int.tdiv ((g.how : Int) - 1) 3 = g.row := by rw [Int.tdiv_eq_ediv_of_nonneg (by omega), ← e9]; omega
  have hc := g.hc
  have hr := g.hr
  have v4 : IntKind.i64.wrap (g.col : Int) = g.col := wrap_i64_id (by omega) (by omega)
  have v5 : IntKind.i64.wrap (g.row : Int) = g.row := wrap_i64_id (by omega) (by omega)
  have hO := of_fs L hL (by omega)
  have W := g.hw
  have N := g.hn
  have hW := within_fs (Rg.cn (hasL (cntL L))) ⟨0, 0, g.was.w, g.was.h⟩ (of_reg _) (of_bnd _) (by omega) (by unfold Sml at W; exact ⟨⟨by simp only; omega, by simp only; omega⟩, ⟨by simp only; omega, by simp only; omega⟩, ⟨by simp only; omega, by simp only; omega⟩, ⟨by simp only; omega, by simp only; omega⟩⟩)
  rw [e4] at hW
  have hK := kept_fs g.how g.h1 g.h2 g.was g.now W N
  rw [e6, e7] at hK
  have b1 := g.b1
  have b2 := g.b2
  have hS := shift_fs g.r g.p1 g.p2 g.br (by have := g.lr; omega) (by omega) (by omega)
  rw [show Rg.cn (hasL (cntL (g.r.map (shR g.p1 g.p2)))) = shL g.r g.p1 g.p2 from rfl] at hS
  have hkin : RtIn (kR g.how g.was g.now) := by
    obtain ⟨q1, q2⟩ := gP_b (how := g.how) W N
    unfold Sml at W N
    unfold kR kx kw
    split
    · exact z4_in
    · exact ⟨⟨by simp only; omega, by simp only; omega⟩, ⟨by simp only; omega, by simp only; omega⟩, ⟨by simp only; omega, by simp only; omega⟩, ⟨by simp only; omega, by simp only; omega⟩⟩
  have hX := within_fs (shL g.r g.p1 g.p2) (kR g.how g.was g.now) (shL_reg _ _) (shL_bnd _ _) (by omega) hkin
  rw [e5] at hX
  clear e1 e2 e3 e4 e5 e6 e7 e8 e9
  refine Fsp.of' (nx := 0) mixed Tryd.func3 rfl (by decide) (by exact Nat.le_refl _) (by simp [Tryd.f3]) ⟨by decide, by decide⟩ ?_
  refine PWP.cutV mixed 9 ?_
  have e : ∀ c, Tryd.f3.body = some c → tailN 9 c = gT9 Tryd.f3 := fun c hc => by unfold gT9; rw [hc]; rfl
  rw [e _ rfl]
  clear e
  show VC Tryd.prog 0 _ (seqK (PWP Tryd.prog 0 (gT9 Tryd.f3)) (retQ Tryd.prog 0 Tryd.f3.results.toList [] 0 (.bool true))) _
  have key : ∀ S, Wk 0 S g.Sz → seqK (PWP Tryd.prog 0 (gT9 Tryd.f3)) (retQ Tryd.prog 0 Tryd.f3.results.toList [] 0 (.bool true)) .normal S := fun S hw => PWP.weak hw hT
  clear hT
  generalize seqK (PWP Tryd.prog 0 (gT9 Tryd.f3)) (retQ Tryd.prog 0 Tryd.f3.results.toList [] 0 (.bool true)) = Q2 at *
  unfold Gv.Sz Gv.E Gv.O at key
  generalize g.th = TH at *
  generalize shL g.r g.p1 g.p2 = SH at *
  generalize kR g.how g.was g.now = kr at *
  generalize Rg.cn (hasL (cntL L)) = OL at *
  simp -implicitDefEqProofs only [push_cast, Tryd.f3, headN, rts_length, seval]
  refine callE_p t0 ?_
  simp -implicitDefEqProofs only [push_cast, rts_length, gt_iff_lt, c1, seval]
  refine callE_p s1 ?_
  simp -implicitDefEqProofs only [push_cast, rpv, rc, seval]
  refine callE_p s2 ?_
  simp -implicitDefEqProofs only [push_cast, rpv, rc, u1, u2, u3, u4, seval]
  (repeat (first | refine ⟨(by omega : _ ≤ _), ?_⟩ | refine ⟨(by omega : _ < _), ?_⟩ | refine ⟨(by simp; omega), ?_⟩ | refine ⟨(by simp; done), ?_⟩ | refine ⟨(by (unfold drawOk; kernel_rfl)), ?_⟩))
  refine callE_p hO ?_
  simp -implicitDefEqProofs only [push_cast, rgn, rpv, rc, seval]
  (repeat (first | refine ⟨(by omega : _ ≤ _), ?_⟩ | refine ⟨(by omega : _ < _), ?_⟩ | refine ⟨(by simp; omega), ?_⟩ | refine ⟨(by simp; done), ?_⟩ | refine ⟨(by (unfold drawOk; kernel_rfl)), ?_⟩))
  refine callE_p hW ?_
  simp -implicitDefEqProofs only [push_cast, rgn, rpv, rc, seval]
  (repeat (first | refine ⟨(by omega : _ ≤ _), ?_⟩ | refine ⟨(by omega : _ < _), ?_⟩ | refine ⟨(by simp; omega), ?_⟩ | refine ⟨(by simp; done), ?_⟩ | refine ⟨(by (unfold drawOk; kernel_rfl)), ?_⟩))
  refine callE_p hK ?_
  simp -implicitDefEqProofs only [push_cast, rgn, rpv, rc, seval]
  (repeat (first | refine ⟨(by omega : _ ≤ _), ?_⟩ | refine ⟨(by omega : _ < _), ?_⟩ | refine ⟨(by simp; omega), ?_⟩ | refine ⟨(by simp; done), ?_⟩ | refine ⟨(by (unfold drawOk; kernel_rfl)), ?_⟩))
  refine callE_p hS ?_
  simp -implicitDefEqProofs only [push_cast, rgn, rpv, rc, seval]
  (repeat (first | refine ⟨(by omega : _ ≤ _), ?_⟩ | refine ⟨(by omega : _ < _), ?_⟩ | refine ⟨(by simp; omega), ?_⟩ | refine ⟨(by simp; done), ?_⟩ | refine ⟨(by (unfold drawOk; kernel_rfl)), ?_⟩))
  refine callE_p hX ?_
  simp -implicitDefEqProofs only [push_cast, rgn, rpv, rc, v1, v2, v3, v4, v5, seval]
  (repeat (first | refine ⟨(by omega : _ ≤ _), ?_⟩ | refine ⟨(by omega : _ < _), ?_⟩ | refine ⟨(by simp; omega), ?_⟩ | refine ⟨(by simp; done), ?_⟩ | refine ⟨(by (unfold drawOk; kernel_rfl)), ?_⟩))
  refine key _ ?_
  (simp only [rc]; exact Wk.by _ _ _ [(0,64),(1,68),(2,132),(3,172),(4,232)] [] [] (by simp) (by simp [wkV, PV.el, PV.weak, PS.get, PS.obj, PS.lv, lkp_hit, lkp_miss, lkp_nil, lko, wkL, wkC, res1, rcs_wk, ics_wk]) (by simp [PS.get, PS.obj, PS.lv, lkp_hit, lkp_miss, lkp_nil, lko, wkL, wkC, PV.weak, wkL, wkC, res1, rcs_wk, ics_wk]) (by simp [PS.get, PS.obj, PS.lv, lkp_hit, lkp_miss, lkp_nil, lko]) (by rfl) (by rfl) (by simp [lko]) (by simp) (by simp) (by simp) (fun i hi => by rcases i with _ | _ | _ | _ | _ | _ | i <;> first | rfl | (exfalso; omega)))
end Go.Proofs.Sh

/- Regions: a rectangle's places are counted; Has; Shift of small ones. Plain. -/
set_option maxRecDepth 100000
set_option linter.unusedSimpArgs false
set_option linter.unusedVariables false
namespace Go.Proofs.Sh
open Go.Pv
open Rg
def DisR (r s : Rt) : Prop := ∀ p q, r.has p q → s.has p q → False
def Srt (L : List Rt) : Prop := L.Pairwise fun r s => r.y ≤ s.y ∧ DisR r s
theorem nw_pw : ∀ {s : List (Int × Int)} {y z : Int}, SpOk s → Srt (nw s y z)
  | [], _, _, _ => List.Pairwise.nil
  | t :: s, y, z, h => by
    refine List.Pairwise.cons (fun r hr => ?_) (nw_pw h.2.2)
    obtain ⟨u, hu, rfl⟩ := List.mem_map.1 hr
    have := h.2.1 u hu
    exact ⟨Int.le_refl _, fun p q ⟨_, a, _, _⟩ ⟨c, _, _, _⟩ => by simp only at a c; omega⟩
theorem flat_pw : ∀ {B : List Bd}, BdOk B → Srt (flat B)
  | [], _ => List.Pairwise.nil
  | b :: B, h => by
    rw [flat_cons]
    refine List.pairwise_append.2 ⟨nw_pw h.2.2.1, flat_pw h.2.2.2.2.2, fun r hr s hs => ?_⟩
    have h1 := flat_y h.2.2.2.1 s hs
    obtain ⟨t, ht, rfl⟩ := List.mem_map.1 hr
    have := h.1
    exact ⟨by simp only; omega, fun p q ⟨_, _, _, a⟩ ⟨_, _, c, _⟩ => by simp only at a; omega⟩
theorem Reg.srt {L : List Rt} (h : Reg L) : Srt L := by obtain ⟨B, hB, rfl⟩ := h; exact flat_pw hB
theorem hasF_srt (x y : Int) : ∀ {L : List Rt}, Srt L → (hasF x y L = true ↔ hasL L x y)
  | [], _ => by simp [hasF, hasL]
  | s :: L, h => by
    obtain ⟨h1, h2⟩ := List.pairwise_cons.1 h
    have ih := hasF_srt x y h2
    have hc : hasL (s :: L) x y ↔ s.has x y ∨ hasL L x y := by unfold hasL; simp [or_and_right, exists_or]
    rw [hasF, hc, ← ih]
    unfold Rt.has
    by_cases c1 : y < s.y
    · rw [if_pos (by simpa using c1)]
      constructor
      · intro h; cases h
      · rintro (⟨_, _, a, _⟩ | a)
        · omega
        · obtain ⟨r, hr, _, _, a, _⟩ := ih.1 a
          have := (h1 r hr).1
          omega
    · rw [if_neg (by simpa using c1)]
      by_cases c2 : (decide (s.y + s.h ≤ y) || decide (s.x + s.w ≤ x)) = true
      · rw [if_pos c2]
        rw [Bool.or_eq_true, decide_eq_true_eq, decide_eq_true_eq] at c2
        exact ⟨Or.inr, fun h => h.resolve_left (fun a => by omega)⟩
      · rw [if_neg c2]
        rw [Bool.or_eq_true, decide_eq_true_eq, decide_eq_true_eq] at c2
        by_cases c3 : s.x ≤ x
        · rw [if_pos (by simpa using c3)]
          exact ⟨fun _ => .inl ⟨by omega, by omega, by omega, by omega⟩, fun _ => rfl⟩
        · rw [if_neg (by simpa using c3)]
          exact ⟨Or.inr, fun h => h.resolve_left (fun a => by omega)⟩
theorem Reg.hasF {L : List Rt} (h : Reg L) (x y : Int) : hasF x y L = true ↔ hasL L x y := hasF_srt x y h.srt
/-- The places, listed. -/
def ptR (c : Rt) : List (Int × Int) := (List.range c.w.toNat).flatMap fun i => (List.range c.h.toNat).map fun j => (c.x + (i : Nat), c.y + (j : Nat))
def ptL (L : List Rt) : List (Int × Int) := L.flatMap ptR
theorem sum_cst (k : Nat) : ∀ n : Nat, ((List.range n).map fun _ => k).sum = n * k
  | 0 => by simp
  | n + 1 => by rw [List.range_succ, List.map_append, List.sum_append, sum_cst k n, Nat.succ_mul]; simp
theorem ptR_len (c : Rt) : (ptR c).length = c.w.toNat * c.h.toNat := by simp only [ptR, List.length_flatMap, List.length_map, List.length_range]; exact sum_cst _ _
theorem ptR_mem (c : Rt) (p q : Int) : (p, q) ∈ ptR c ↔ c.has p q := by
  unfold ptR Rt.has
  rw [List.mem_flatMap]
  constructor
  · rintro ⟨i, hi, h⟩
    obtain ⟨j, hj, e⟩ := List.mem_map.1 h
    rw [List.mem_range] at hi hj
    injection e with e1 e2
    omega
  · rintro ⟨h1, h2, h3, h4⟩
    refine ⟨(p - c.x).toNat, List.mem_range.2 (by omega), List.mem_map.2 ⟨(q - c.y).toNat, List.mem_range.2 (by omega), ?_⟩⟩
    rw [show c.x + ((p - c.x).toNat : Int) = p by omega, show c.y + ((q - c.y).toNat : Int) = q by omega]
theorem ptL_mem (L : List Rt) (p q : Int) : (p, q) ∈ ptL L ↔ hasL L p q := by
  unfold ptL hasL
  rw [List.mem_flatMap]
  exact ⟨fun ⟨r, hr, h⟩ => ⟨r, hr, (ptR_mem r p q).1 h⟩, fun ⟨r, hr, h⟩ => ⟨r, hr, (ptR_mem r p q).2 h⟩⟩
theorem ptR_nodup (c : Rt) : (ptR c).Pairwise (· ≠ ·) := by
  unfold ptR
  refine List.pairwise_flatMap.2 ⟨fun i hi => ?_, ?_⟩
  · refine List.pairwise_map.2 (List.pairwise_lt_range.imp fun {a b} h => ?_)
    intro e
    injection e with e1 e2
    omega
  · refine List.pairwise_lt_range.imp fun {a b} h => ?_
    intro u hu v hv e
    obtain ⟨j, _, rfl⟩ := List.mem_map.1 hu
    obtain ⟨k, _, rfl⟩ := List.mem_map.1 hv
    injection e with e1 e2
    omega
theorem ptL_nodup {L : List Rt} (h : Srt L) : (ptL L).Pairwise (· ≠ ·) := by
  unfold ptL
  refine List.pairwise_flatMap.2 ⟨fun i hi => ptR_nodup i, ?_⟩
  refine List.Pairwise.imp (fun {a b} h => ?_) h
  rintro ⟨p, q⟩ hu ⟨p', q'⟩ hv e
  injection e with e1 e2
  subst e1
  subst e2
  exact h.2 p q ((ptR_mem a p q).1 hu) ((ptR_mem b p q).1 hv)
theorem ptL_len : ∀ {L : List Rt}, Bnd L → ((ptL L).length : Int) = areaL L
  | [], _ => rfl
  | r :: L, h => by
    have p := cnt_pos (h r List.mem_cons_self)
    have ih := ptL_len (L := L) fun q hq => h q (List.mem_cons_of_mem _ hq)
    unfold ptL at *
    rw [List.flatMap_cons, List.length_append, ptR_len, areaL]
    have : ((r.w.toNat * r.h.toNat : Nat) : Int) = r.w * r.h := by
      rw [Int.natCast_mul, Int.toNat_of_nonneg (by omega), Int.toNat_of_nonneg (by omega)]
    omega
theorem nodup_le : ∀ {A B : List (Int × Int)}, A.Pairwise (· ≠ ·) → (∀ a ∈ A, a ∈ B) → A.length ≤ B.length
  | [], _, _, _ => Nat.zero_le _
  | a :: A, B, h, hs => by
    obtain ⟨h1, h2⟩ := List.pairwise_cons.1 h
    obtain ⟨s, t, rfl⟩ := List.append_of_mem (hs a List.mem_cons_self)
    have := nodup_le (B := s ++ t) h2 fun b hb => by
      have h3 := hs b (List.mem_cons_of_mem _ hb)
      rw [List.mem_append, List.mem_cons] at h3
      rw [List.mem_append]
      rcases h3 with h3 | h3 | h3
      · exact .inl h3
      · exact absurd h3.symm (h1 b hb)
      · exact .inr h3
    rw [List.length_append] at this
    rw [List.length_append, List.length_cons, List.length_cons]
    omega
theorem area_sub {L K : List Rt} (hL : Reg L) (bL : Bnd L) (bK : Bnd K) (dx dy : Int) (h : ∀ p q, hasL L p q → hasL K (p + dx) (q + dy)) : areaL L ≤ areaL K := by
  rw [← ptL_len bL, ← ptL_len bK]
  have := nodup_le (A := (ptL L).map fun s => (s.1 + dx, s.2 + dy)) (B := ptL K) (List.pairwise_map.2 ((ptL_nodup hL.srt).imp fun {a b} h e => h (by
    injection e with e1 e2
    exact Prod.ext (by omega) (by omega)))) (by
    rintro ⟨p, q⟩ hp
    obtain ⟨⟨u, v⟩, hu, e⟩ := List.mem_map.1 hp
    injection e with e1 e2
    subst e1
    subst e2
    exact (ptL_mem K _ _).2 (h u v ((ptL_mem L u v).1 hu)))
  rw [List.length_map] at this
  omega
/-- A small region. -/
def Nr (L : List Rt) : Prop := ∀ p q, hasL L p q → -1000 ≤ p ∧ p < 1000 ∧ -1000 ≤ q ∧ q < 1000
theorem shR_nr {r : Rt} {dx dy : Int} (h : -1000 ≤ r.x ∧ r.x + r.w ≤ 1000 ∧ -1000 ≤ r.y ∧ r.y + r.h ≤ 1000) (h1 : -1000 ≤ dx ∧ dx ≤ 1000) (h2 : -1000 ≤ dy ∧ dy ≤ 1000) (hw : 0 < r.w) (hh : 0 < r.h) : shR dx dy r = ⟨r.x + dx, r.y + dy, r.w, r.h⟩ := by
  have e1 : mv0 r.x dx = r.x + dx := by unfold mv0; omega
  have e2 : mv0 r.y dy = r.y + dy := by unfold mv0; omega
  have e3 : mv1 r.x r.w dx = r.x + dx + r.w := by unfold mv1; omega
  have e4 : mv1 r.y r.h dy = r.y + dy + r.h := by unfold mv1; omega
  unfold shR
  rw [e1, e2, e3, e4, show r.x + dx + r.w - (r.x + dx) = r.w by omega, show r.y + dy + r.h - (r.y + dy) = r.h by omega]
theorem shL_has {L : List Rt} (hL : Reg L) (hn : Nr L) {dx dy : Int} (h1 : -1000 ≤ dx ∧ dx ≤ 1000) (h2 : -1000 ≤ dy ∧ dy ≤ 1000) (p q : Int) : hasL (shL L dx dy) p q ↔ hasL L (p - dx) (q - dy) := by
  have hi := hL.inside hn
  have hp := hL.pos
  unfold shL
  rw [of_has]
  unfold hasL cntL
  constructor
  · rintro ⟨r, hr, a1, a2, a3, a4⟩
    rw [List.mem_filter] at hr
    obtain ⟨s, hs, rfl⟩ := List.mem_map.1 hr.1
    rw [shR_nr (hi s hs) h1 h2 (hp s hs).1 (hp s hs).2] at a1 a2 a3 a4
    simp only at a1 a2 a3 a4
    exact ⟨s, hs, by omega, by omega, by omega, by omega⟩
  · rintro ⟨s, hs, a1, a2, a3, a4⟩
    have b := hi s hs
    have c := hp s hs
    refine ⟨⟨s.x + dx, s.y + dy, s.w, s.h⟩, List.mem_filter.2 ⟨List.mem_map.2 ⟨s, hs, shR_nr b h1 h2 c.1 c.2⟩, ?_⟩, by simp only; omega, by simp only; omega, by simp only; omega, by simp only; omega⟩
    unfold cntB
    rw [Bool.and_eq_true, fit_iff, fit_iff]
    simp only
    omega
theorem kR_has {how : Nat} {was now : Rt} (hw : Sml was) (hn : Sml now) (p q : Int) : hasL (on (kR how was now)) p q ↔ (0 ≤ p ∧ p < now.w ∧ gP1 how was now ≤ p ∧ p < was.w + gP1 how was now) ∧ (0 ≤ q ∧ q < now.h ∧ gP2 how was now ≤ q ∧ q < was.h + gP2 how was now) := by
  obtain ⟨q1, q2⟩ := gP_b (how := how) hw hn
  unfold Sml at hw hn
  rw [on_has]
  unfold kR kx kw cntB
  generalize gP1 how was now = p1 at *
  generalize gP2 how was now = p2 at *
  rw [Bool.and_eq_true, fit_iff, fit_iff]
  unfold Rt.has
  split
  · simp only [z4]
    omega
  · simp only
    omega
theorem box_has {w h : Int} (hw : 1 ≤ w ∧ w ≤ 24) (hh : 1 ≤ h ∧ h ≤ 24) (p q : Int) : hasL (on ⟨0, 0, w, h⟩) p q ↔ (0 ≤ p ∧ p < w) ∧ (0 ≤ q ∧ q < h) := by
  rw [on_has]
  unfold cntB
  rw [Bool.and_eq_true, fit_iff, fit_iff]
  unfold Rt.has
  simp only
  omega
theorem on_reg (c : Rt) : Reg (on c) := of_reg _
theorem on_bnd (c : Rt) : Bnd (on c) := of_bnd _
end Go.Proofs.Sh

/- TopGravity: the law. -/
set_option maxRecDepth 100000
set_option linter.unusedSimpArgs false
set_option linter.unusedVariables false
namespace Go.Proofs.Sh
open Go.Pv
open Rg
noncomputable def vR (was : Rt) (A : List Rt) : List Rt := mt A (on ⟨0, 0, was.w, was.h⟩)
noncomputable def vT (how : Nat) (was now : Rt) (A : List Rt) : List Rt := mt (shL (vR was A) (gP1 how was now) (gP2 how was now)) (on (kR how was now))
theorem Reg.few {L : List Rt} (h : Reg L) (hs : ∀ p q, hasL L p q → -400 ≤ p ∧ p < 400 ∧ -400 ≤ q ∧ q < 400) : L.length ≤ 1000000 := by
  have := h.len hs (by decide) (by decide)
  have e : ((400 : Int) - -400) * (400 - -400) = 640000 := by decide
  omega
theorem Nr.of {L : List Rt} (hs : ∀ p q, hasL L p q → -400 ≤ p ∧ p < 400 ∧ -400 ≤ q ∧ q < 400) : Nr L := fun p q h => by have := hs p q h; omega
section
variable {how : Nat} {was now : Rt} {A : List Rt} (hw : Sml was) (hn : Sml now) (hA : Reg A) (bA : Bnd A)
include hA bA
theorem vR_reg : Reg (vR was A) := mt_reg hA (on_reg _) bA (on_bnd _)
theorem vR_bnd : Bnd (vR was A) := mt_bnd hA (on_reg _) bA (on_bnd _)
include hw
theorem vR_has (p q : Int) : hasL (vR was A) p q ↔ hasL A p q ∧ (0 ≤ p ∧ p < was.w) ∧ (0 ≤ q ∧ q < was.h) := by
  unfold Sml at hw
  unfold vR
  rw [mt_has hA (on_reg _) bA (on_bnd _), box_has (by omega) (by omega)]
theorem vR_in (p q : Int) (h : hasL (vR was A) p q) : -400 ≤ p ∧ p < 400 ∧ -400 ≤ q ∧ q < 400 := by
  have := ((vR_has hw hA bA p q).1 h).2
  unfold Sml at hw
  omega
include hn
theorem vS_has (p q : Int) : hasL (shL (vR was A) (gP1 how was now) (gP2 how was now)) p q ↔ hasL (vR was A) (p - gP1 how was now) (q - gP2 how was now) := by
  obtain ⟨q1, q2⟩ := gP_b (how := how) hw hn
  exact shL_has (vR_reg hA bA) (Nr.of (vR_in hw hA bA)) (by omega) (by omega) p q
theorem vS_in (p q : Int) (h : hasL (shL (vR was A) (gP1 how was now) (gP2 how was now)) p q) : -400 ≤ p ∧ p < 400 ∧ -400 ≤ q ∧ q < 400 := by
  obtain ⟨q1, q2⟩ := gP_b (how := how) hw hn
  have := ((vR_has hw hA bA _ _).1 ((vS_has hw hn hA bA p q).1 h)).2
  unfold Sml at hw
  omega
theorem vT_has (p q : Int) : hasL (vT how was now A) p q ↔ hasL (vR was A) (p - gP1 how was now) (q - gP2 how was now) ∧ (0 ≤ p ∧ p < now.w) ∧ (0 ≤ q ∧ q < now.h) := by
  unfold vT
  rw [mt_has (shL_reg _ _) (on_reg _) (shL_bnd _ _) (on_bnd _), vS_has hw hn hA bA, kR_has hw hn]
  constructor
  · rintro ⟨h1, h2, h3⟩
    exact ⟨h1, ⟨h2.1, h2.2.1⟩, ⟨h3.1, h3.2.1⟩⟩
  · rintro ⟨h1, h2, h3⟩
    have := ((vR_has hw hA bA _ _).1 h1).2
    exact ⟨h1, ⟨h2.1, h2.2, by omega, by omega⟩, ⟨h3.1, h3.2, by omega, by omega⟩⟩
theorem vT_in (p q : Int) (h : hasL (vT how was now A) p q) : -400 ≤ p ∧ p < 400 ∧ -400 ≤ q ∧ q < 400 := by
  have := ((vT_has hw hn hA bA p q).1 h).2
  unfold Sml at hn
  omega
end
theorem vT_reg {how : Nat} {was now : Rt} {A : List Rt} : Reg (vT how was now A) := mt_reg (shL_reg _ _) (on_reg _) (shL_bnd _ _) (on_bnd _)
theorem vT_bnd {how : Nat} {was now : Rt} {A : List Rt} : Bnd (vT how was now A) := mt_bnd (shL_reg _ _) (on_reg _) (shL_bnd _ _) (on_bnd _)
theorem has_b {L : List Rt} (h : Reg L) (x y : Int) (b : Bool) (e : hasL L x y ↔ b = true) : hasF x y L = b := by
  rw [Bool.eq_iff_iff, h.hasF, e]
noncomputable def gvO (how : Nat) (was now : Rt) (A : List Rt) (hw : Sml was) (hn : Sml now) (hA : Reg A) (bA : Bnd A) (h1 : 1 ≤ how) (h2 : how ≤ 10) : Gv where
  was := was
  now := now
  r := vR was A
  th := vT how was now A
  how := how
  col := (how - 1) % 3
  row := (how - 1) / 3
  p1 := gP1 how was now
  p2 := gP2 how was now
  hw := hw
  hn := hn
  br := vR_bnd hA bA
  lr := (vR_reg hA bA).few (vR_in hw hA bA)
  bt := vT_bnd
  lt := vT_reg.few (vT_in hw hn hA bA)
  h1 := h1
  h2 := h2
  b1 := (gP_b hw hn).1
  b2 := (gP_b hw hn).2
  hc := by omega
  hr := by omega
  st := fun e => by unfold gP1 gP2; rw [if_pos e, if_pos e]; exact ⟨rfl, rfl⟩
  c0 := fun e e2 => by unfold gP1; rw [if_neg e, e2]; rfl
  c2 := fun e e2 => by unfold gP1; rw [if_neg e, e2]; rfl
  r0 := fun e e2 => by unfold gP2; rw [if_neg e, e2]; rfl
  r2 := fun e e2 => by unfold gP2; rw [if_neg e, e2]; rfl
  has := fun x y hx hy => has_b vT_reg _ _ _ (by
    rw [vT_has hw hn hA bA, Bool.and_eq_true, Bool.and_eq_true, Bool.and_eq_true, Bool.and_eq_true, (vR_reg hA bA).hasF, decide_eq_true_eq, decide_eq_true_eq, decide_eq_true_eq, decide_eq_true_eq, Int.add_sub_cancel, Int.add_sub_cancel]
    exact ⟨fun ⟨a, b, c⟩ => ⟨b.1, c.1, b.2, c.2, a⟩, fun ⟨b, c, d, e, a⟩ => ⟨a, ⟨b, d⟩, ⟨c, e⟩⟩⟩)
section
variable {how : Nat} {was now : Rt} {A : List Rt} (hw : Sml was) (hn : Sml now) (hA : Reg A) (bA : Bnd A) (h1 : 1 ≤ how) (h2 : how ≤ 10)
theorem bk_has (p q : Int) : hasL (gvO how was now A hw hn hA bA h1 h2).bk p q ↔ hasL (vT how was now A) (p - gP1 how now was) (q - gP2 how now was) ∧ (0 ≤ p ∧ p < was.w) ∧ (0 ≤ q ∧ q < was.h) := by
  obtain ⟨q1, q2⟩ := gP_b (how := how) hn hw
  show hasL (mt (shL (vT how was now A) (gP1 how now was) (gP2 how now was)) (on (kR how now was))) p q ↔ _
  rw [mt_has (shL_reg _ _) (on_reg _) (shL_bnd _ _) (on_bnd _), shL_has vT_reg (Nr.of (vT_in hw hn hA bA)) (by omega) (by omega), kR_has hn hw]
  constructor
  · rintro ⟨a, b, c⟩
    exact ⟨a, ⟨b.1, b.2.1⟩, ⟨c.1, c.2.1⟩⟩
  · rintro ⟨a, b, c⟩
    have := ((vT_has hw hn hA bA _ _).1 a).2
    exact ⟨a, ⟨b.1, b.2, by omega, by omega⟩, ⟨c.1, c.2, by omega, by omega⟩⟩
theorem bk_reg : Reg (gvO how was now A hw hn hA bA h1 h2).bk := mt_reg (shL_reg _ _) (on_reg _) (shL_bnd _ _) (on_bnd _)
theorem bk_bnd : Bnd (gvO how was now A hw hn hA bA h1 h2).bk := mt_bnd (shL_reg _ _) (on_reg _) (shL_bnd _ _) (on_bnd _)
theorem bk_len : (gvO how was now A hw hn hA bA h1 h2).bk.length ≤ 1000000 := (bk_reg hw hn hA bA h1 h2).few fun p q h => by
  have := ((bk_has hw hn hA bA h1 h2 p q).1 h).2
  unfold Sml at hw
  omega
include hw hn hA bA in
theorem back_len : (shL (vT how was now A) (gP1 how now was) (gP2 how now was)).length ≤ 1000000 := (shL_reg _ _).few fun p q h => by
  obtain ⟨q1, q2⟩ := gP_b (how := how) hn hw
  rw [shL_has vT_reg (Nr.of (vT_in hw hn hA bA)) (by omega) (by omega)] at h
  have := ((vT_has hw hn hA bA _ _).1 h).2
  unfold Sml at hn
  omega
include hw hn hA bA in
theorem th_in : mn (vT how was now A) (on ⟨0, 0, now.w, now.h⟩) = [] := (mn_reg vT_reg (on_reg _) vT_bnd (on_bnd _)).ext Reg.nil fun p q => by
  rw [mn_has vT_reg (on_reg _) vT_bnd (on_bnd _)]
  refine ⟨fun ⟨a, b⟩ => absurd ?_ b, fun h => absurd h (hasL_nil p q)⟩
  have := ((vT_has hw hn hA bA _ _).1 a).2
  unfold Sml at hn
  exact (box_has (by omega) (by omega) p q).2 this
/-- Without halves the way back is the way. -/
theorem not_half (h : (gvO how was now A hw hn hA bA h1 h2).hv = false) : gP1 how now was = -gP1 how was now ∧ gP2 how now was = -gP2 how was now := by
  unfold Gv.hv at h
  have h : (!decide (how = 10) && ((decide ((how - 1) % 3 = 1) && (Int.tmod (now.w - was.w) 2 != 0)) || (decide ((how - 1) / 3 = 1) && (Int.tmod (now.h - was.h) 2 != 0)))) = false := h
  unfold gP1 gP2
  by_cases c : how = 10
  · rw [if_pos c, if_pos c, if_pos c, if_pos c]
    omega
  · rw [if_neg c, if_neg c, if_neg c, if_neg c]
    rw [show decide (how = 10) = false from decide_eq_false c, Bool.not_false, Bool.true_and, Bool.or_eq_false_iff] at h
    have half : ∀ (k : Nat) (u v : Int), (decide (k = 1) && (Int.tmod (v - u) 2 != 0)) = false → gpart k (u - v) = -gpart k (v - u) := by
      intro k u v h
      unfold gpart
      by_cases k1 : k = 1
      · rw [if_pos k1, if_pos k1]
        rw [show decide (k = 1) = true from decide_eq_true k1, Bool.true_and, bne_eq_false_iff_eq] at h
        have h : (v - u) % 2 = 0 := by
          rcases Int.le_total 0 (v - u) with a | a
          · rw [Int.tmod_eq_emod_of_nonneg a] at h
            exact h
          · rw [show v - u = -(u - v) by omega, Int.neg_tmod, Int.tmod_eq_emod_of_nonneg (by omega)] at h
            omega
        omega
      · rw [if_neg k1, if_neg k1]
        split <;> omega
    exact ⟨half _ _ _ h.1, half _ _ _ h.2⟩
theorem back_same (h : (gvO how was now A hw hn hA bA h1 h2).hv = false) : sameL (gvO how was now A hw hn hA bA h1 h2).bk (shL (vT how was now A) (-gP1 how was now) (-gP2 how was now)) = true ∧ mn (gvO how was now A hw hn hA bA h1 h2).bk (vR was A) = [] := by
  obtain ⟨e1, e2⟩ := not_half hw hn hA bA h1 h2 h
  obtain ⟨q1, q2⟩ := gP_b (how := how) hw hn
  constructor
  · refine sameL_iff.2 ((bk_reg hw hn hA bA h1 h2).ext (shL_reg _ _) fun p q => ?_)
    rw [bk_has, shL_has vT_reg (Nr.of (vT_in hw hn hA bA)) (by omega) (by omega), e1, e2]
    refine ⟨fun a => a.1, fun a => ⟨a, ?_⟩⟩
    have := ((vR_has hw hA bA _ _).1 ((vT_has hw hn hA bA _ _).1 a).1).2
    omega
  · refine (mn_reg (bk_reg hw hn hA bA h1 h2) (vR_reg hA bA) (bk_bnd hw hn hA bA h1 h2) (vR_bnd hA bA)).ext Reg.nil fun p q => ?_
    rw [mn_has (bk_reg hw hn hA bA h1 h2) (vR_reg hA bA) (bk_bnd hw hn hA bA h1 h2) (vR_bnd hA bA), bk_has, e1, e2]
    refine ⟨fun ⟨a, b⟩ => absurd ?_ b, fun h => absurd h (hasL_nil p q)⟩
    have := ((vT_has hw hn hA bA _ _).1 a.1).1
    rwa [show p - -gP1 how was now - gP1 how was now = p by omega, show q - -gP2 how was now - gP2 how was now = q by omega] at this
theorem back_area : areaL (gvO how was now A hw hn hA bA h1 h2).bk ≤ areaL (vR was A) :=
  area_sub (bk_reg hw hn hA bA h1 h2) (bk_bnd hw hn hA bA h1 h2) (vR_bnd hA bA) (-gP1 how now was - gP1 how was now) (-gP2 how now was - gP2 how was now) fun p q h => by
    have := ((vT_has hw hn hA bA _ _).1 ((bk_has hw hn hA bA h1 h2 p q).1 h).1).1
    rwa [show p - gP1 how now was - gP1 how was now = p + (-gP1 how now was - gP1 how was now) by omega, show q - gP2 how now was - gP2 how was now = q + (-gP2 how now was - gP2 how was now) by omega] at this
end
/-- The law. -/
theorem grav_fs (L : List Rt) (hL : ∀ r ∈ L, RtIn r) (x y a b : Int) (w h m n gg : Nat) (hx : -128 ≤ x ∧ x ≤ 127) (hy : -128 ≤ y ∧ y ≤ 127) (ha : -128 ≤ a ∧ a ≤ 127) (hb : -128 ≤ b ∧ b ≤ 127) (hw : w < 256) (hh : h < 256) (hm : m < 256) (hn : n < 256) (hg : gg < 256) : Fsp Tryd.prog 3 [] 0 [.sl 4 (rts L), .int .i8 x, .int .i8 y, .int .i8 a, .int .i8 b, .int .u8 w, .int .u8 h, .int .u8 m, .int .u8 n, .int .u8 gg] [] 0 (.bool true) := by
  by_cases hl : 20 < L.length
  · exact big_fs L hl x y a b w h m n gg
  have s1 : Sml ⟨x, y, ((w % 24 : Nat) : Int) + 1, ((h % 24 : Nat) : Int) + 1⟩ := by unfold Sml; simp only; omega
  have s2 : Sml ⟨a, b, ((m % 24 : Nat) : Int) + 1, ((n % 24 : Nat) : Int) + 1⟩ := by unfold Sml; simp only; omega
  have h1 : 1 ≤ gg % 10 + 1 := by omega
  have h2 : gg % 10 + 1 ≤ 10 := by omega
  have hlen : (Rg.cn (hasL (cntL L))).length ≤ 1000000 := by
    have h := cn_few (Pos.of (cntL_bnd L))
    have h1 : (cntL L).length ≤ 20 := Nat.le_trans (List.length_filter_le _ _) (by omega)
    have h2 : 2 * (cntL L).length * (cntL L).length ≤ 2 * 20 * 20 := Nat.mul_le_mul (Nat.mul_le_mul (Nat.le_refl _) h1) h1
    omega
  refine gb_fs (gvO (gg % 10 + 1) _ _ (Rg.cn (hasL (cntL L))) s1 s2 (of_reg _) (of_bnd _) h1 h2) L hL (by omega) x y a b w h m n gg hx hy ha hb hw hh hm hn hg rfl rfl rfl rfl rfl rfl rfl rfl rfl ((shL_reg _ _).few (vS_in s1 s2 (of_reg _) (of_bnd _))) hlen ?_
  exact gt_fs _ vT_reg (back_len s1 s2 (of_reg _) (of_bnd _)) (th_in s1 s2 (of_reg _) (of_bnd _)) (vR_reg (of_reg _) (of_bnd _)) (bk_bnd s1 s2 (of_reg _) (of_bnd _) h1 h2) (bk_reg s1 s2 (of_reg _) (of_bnd _) h1 h2) (bk_len s1 s2 (of_reg _) (of_bnd _) h1 h2) (fun _ => back_area s1 s2 (of_reg _) (of_bnd _) h1 h2) (fun h => back_same s1 s2 (of_reg _) (of_bnd _) h1 h2 h)
end Go.Proofs.Sh
