/- TopGravity: a place of the window (walk). -/
import Derived.Test.YtbjeagcnakdmnaaDoorPvYa
import Derived.Test.YtbjeagcnakdmnaaDoorGrD
set_option maxRecDepth 100000
set_option linter.unusedSimpArgs false
set_option linter.unusedVariables false
namespace Go.Proofs.Sh
open Go.Pv
open Rg
def pA : Code → Code
  | .seq a _ => a
  | _ => .skip
def pB : Code → Code
  | .seq _ b => b
  | _ => .skip
def pK : Code → Code
  | .block _ c => c
  | _ => .skip
def pL : Code → Code
  | .loop c => c
  | _ => .skip
def gT9 (f : Func) : Code := tailN 9 (f.body.getD .skip)
def gX1 (f : Func) : Code := pL (pK (pB (pA (gT9 f))))
def gC1 (f : Func) : Code := pK (pA (pB (pB (gX1 f))))
def gX2 (f : Func) : Code := pL (pK (pB (pB (gC1 f))))
def gC3 (f : Func) : Code := pK (pA (pB (pB (gX2 f))))
theorem g_s1 : gT9 Tryd.f3 = .seq (.seq (pA (pA (gT9 Tryd.f3))) (.block 0 (.loop (gX1 Tryd.f3)))) (pB (gT9 Tryd.f3)) := by kernel_rfl
theorem g_s2 : gX1 Tryd.f3 = .seq (pA (gX1 Tryd.f3)) (.seq (pA (pB (gX1 Tryd.f3))) (.seq (.block 1 (gC1 Tryd.f3)) (pB (pB (pB (gX1 Tryd.f3)))))) := by kernel_rfl
theorem g_s3 : gC1 Tryd.f3 = .seq (pA (gC1 Tryd.f3)) (.seq (pA (pB (gC1 Tryd.f3))) (.block 2 (.loop (gX2 Tryd.f3)))) := by kernel_rfl
theorem g_s4 : gX2 Tryd.f3 = .seq (pA (gX2 Tryd.f3)) (.seq (pA (pB (gX2 Tryd.f3))) (.seq (.block 3 (gC3 Tryd.f3)) (pB (pB (pB (gX2 Tryd.f3)))))) := by kernel_rfl
/-- What is known in the loops. -/
structure Gv where
  was : Rt
  now : Rt
  r : List Rt
  th : List Rt
  how : Nat
  col : Nat
  row : Nat
  p1 : Int
  p2 : Int
  hw : Sml was
  hn : Sml now
  br : Bnd r
  lr : r.length ≤ 1000000
  bt : Bnd th
  lt : th.length ≤ 1000000
  h1 : 1 ≤ how
  h2 : how ≤ 10
  b1 : -300 ≤ p1 ∧ p1 ≤ 300
  b2 : -300 ≤ p2 ∧ p2 ≤ 300
  hc : col < 4
  hr : row < 4
  st : how = 10 → p1 = was.x - now.x ∧ p2 = was.y - now.y
  c0 : how ≠ 10 → col = 0 → p1 = 0
  c2 : how ≠ 10 → col = 2 → p1 = now.w - was.w
  r0 : how ≠ 10 → row = 0 → p2 = 0
  r2 : how ≠ 10 → row = 2 → p2 = now.h - was.h
  has : ∀ x y : Nat, (x : Int) < was.w → (y : Int) < was.h → hasF (x + p1) (y + p2) th = (decide (0 ≤ (x : Int) + p1) && (decide (0 ≤ (y : Int) + p2) && (decide ((x : Int) + p1 < now.w) && (decide ((y : Int) + p2 < now.h) && hasF x y r))))
def Gv.E (g : Gv) : List (Nat × PV) := [(30, .int .i64 g.row), (29, .int .i64 g.col), (28, .box 4 0), (25, .box 3 0), (24, .box 2 0), (23, .int .i64 g.how), (22, .box 1 0), (21, .box 0 0), (20, .bool false)]
def Gv.O (g : Gv) : List (Nat × Option (List PV)) := [(0, some (rc g.was)), (1, some (rc g.now)), (2, some [.sl 4 (rts g.r)]), (3, some [.int .i64 g.p1, .int .i64 g.p2]), (4, some [.sl 4 (rts g.th)])]
def Gv.So (g : Gv) (y : Nat) : PS := { n := 289, env := [(94, .int .i64 y), (93, .int .i64 g.was.h)] ++ g.E, objs := g.O, live := [], nxt := 6 }
def Gv.Si (g : Gv) (y x : Nat) : PS := { n := 289, env := [(99, .int .i64 x), (98, .int .i64 g.was.w), (31, .int .i64 y), (94, .int .i64 y), (93, .int .i64 g.was.h)] ++ g.E, objs := g.O, live := [], nxt := 6 }
def Gv.Sb (g : Gv) (y x : Nat) : PS := { n := 289, env := [(34, .int .i64 (y + g.p2)), (33, .int .i64 (x + g.p1)), (32, .int .i64 x), (99, .int .i64 x), (98, .int .i64 g.was.w), (31, .int .i64 y), (94, .int .i64 y), (93, .int .i64 g.was.h)] ++ g.E, objs := g.O, live := [], nxt := 6 }
def inb (g : Gv) (y x : Nat) : Bool := decide (0 ≤ (x : Int) + g.p1) && (decide (0 ≤ (y : Int) + g.p2) && (decide ((x : Int) + g.p1 < g.now.w) && decide ((y : Int) + g.p2 < g.now.h)))
def Gv.Sa (g : Gv) (y x : Nat) : PS := { n := 289, env := [(35, .bool (inb g y x)), (34, .int .i64 (y + g.p2)), (33, .int .i64 (x + g.p1)), (32, .int .i64 x), (99, .int .i64 x), (98, .int .i64 g.was.w), (31, .int .i64 y), (94, .int .i64 y), (93, .int .i64 g.was.h)] ++ g.E, objs := g.O, live := [], nxt := 6 }
set_option maxHeartbeats 2000000 in
theorem gA_fs (g : Gv) (y x : Nat) (hx : (x : Int) < g.was.w) (hy : (y : Int) < g.was.h) (Q : Post) (hQ : PWP Tryd.prog 0 (tailN 2 (gC3 Tryd.f3)) Q (g.Sa y x)) : PWP Tryd.prog 0 (gC3 Tryd.f3) Q (g.Si y x) := by
  refine PWP.cutV mixed 2 ?_
  have key : ∀ S', Wk 0 S' (g.Sa y x) → seqK (PWP Tryd.prog 0 (tailN 2 (gC3 Tryd.f3))) Q .normal S' := fun S' hw => PWP.weak hw hQ
  generalize seqK (PWP Tryd.prog 0 (tailN 2 (gC3 Tryd.f3))) Q = Q2 at *
  have hw := g.hw
  have b1 := g.b1
  have b2 := g.b2
  unfold Sml at hw
  have w1 : IntKind.i64.wrap ((x : Int) + g.p1) = (x : Int) + g.p1 := wrap_i64_id (by omega) (by omega)
  have w2 : IntKind.i64.wrap ((y : Int) + g.p2) = (y : Int) + g.p2 := wrap_i64_id (by omega) (by omega)
  simp only [gC3, gX2, gC1, gX1, gT9, Tryd.f3, Option.getD_some, tailN, headN, pA, pB, pK, pL]
  simp only [Gv.Si, Gv.E, Gv.O, List.cons_append, List.nil_append]
  unfold Gv.Sa inb at key
  cases c1 : decide (0 ≤ (x : Int) + g.p1) with
  | false =>
    rw [c1, Bool.false_and] at key
    simp -implicitDefEqProofs only [push_cast, w1, w2, ge_iff_le, c1, rc, seval]
    (repeat (first | refine ⟨(by omega : _ ≤ _), ?_⟩ | refine ⟨(by omega : _ < _), ?_⟩ | refine ⟨(by simp; omega), ?_⟩ | refine ⟨(by simp; done), ?_⟩ | refine ⟨(by (unfold drawOk; kernel_rfl)), ?_⟩))
    refine key _ ?_
    (simp only [Gv.E, Gv.O, List.cons_append, List.nil_append, rc]; exact Wk.by _ _ _ [(0,0),(1,1),(2,2),(3,3),(4,4)] [] [] (by simp) (by simp [wkV, PV.el, PV.weak, PS.get, PS.obj, PS.lv, lkp_hit, lkp_miss, lkp_nil, lko, wkL, wkC, res1, rcs_wk, ics_wk]) (by simp [PS.get, PS.obj, PS.lv, lkp_hit, lkp_miss, lkp_nil, lko, wkL, wkC, PV.weak, wkL, wkC, res1, rcs_wk, ics_wk]) (by simp [PS.get, PS.obj, PS.lv, lkp_hit, lkp_miss, lkp_nil, lko]) (by rfl) (by rfl) (by simp [lko]) (by simp) (by simp) (by simp) (fun i hi => by rcases i with _ | _ | _ | _ | _ | _ | i <;> first | rfl | (exfalso; omega)))
  | true =>
    cases c2 : decide (0 ≤ (y : Int) + g.p2) with
    | false =>
      rw [c1, c2, Bool.true_and, Bool.false_and] at key
      simp -implicitDefEqProofs only [push_cast, w1, w2, ge_iff_le, c1, c2, rc, seval]
      (repeat (first | refine ⟨(by omega : _ ≤ _), ?_⟩ | refine ⟨(by omega : _ < _), ?_⟩ | refine ⟨(by simp; omega), ?_⟩ | refine ⟨(by simp; done), ?_⟩ | refine ⟨(by (unfold drawOk; kernel_rfl)), ?_⟩))
      refine key _ ?_
      (simp only [Gv.E, Gv.O, List.cons_append, List.nil_append, rc]; exact Wk.by _ _ _ [(0,0),(1,1),(2,2),(3,3),(4,4)] [] [] (by simp) (by simp [wkV, PV.el, PV.weak, PS.get, PS.obj, PS.lv, lkp_hit, lkp_miss, lkp_nil, lko, wkL, wkC, res1, rcs_wk, ics_wk]) (by simp [PS.get, PS.obj, PS.lv, lkp_hit, lkp_miss, lkp_nil, lko, wkL, wkC, PV.weak, wkL, wkC, res1, rcs_wk, ics_wk]) (by simp [PS.get, PS.obj, PS.lv, lkp_hit, lkp_miss, lkp_nil, lko]) (by rfl) (by rfl) (by simp [lko]) (by simp) (by simp) (by simp) (fun i hi => by rcases i with _ | _ | _ | _ | _ | _ | i <;> first | rfl | (exfalso; omega)))
    | true =>
      cases c3 : decide ((x : Int) + g.p1 < g.now.w) with
      | false =>
        rw [c1, c2, c3, Bool.true_and, Bool.true_and, Bool.false_and] at key
        simp -implicitDefEqProofs only [push_cast, w1, w2, ge_iff_le, c1, c2, c3, rc, seval]
        (repeat (first | refine ⟨(by omega : _ ≤ _), ?_⟩ | refine ⟨(by omega : _ < _), ?_⟩ | refine ⟨(by simp; omega), ?_⟩ | refine ⟨(by simp; done), ?_⟩ | refine ⟨(by (unfold drawOk; kernel_rfl)), ?_⟩))
        refine key _ ?_
        (simp only [Gv.E, Gv.O, List.cons_append, List.nil_append, rc]; exact Wk.by _ _ _ [(0,0),(1,1),(2,2),(3,3),(4,4)] [] [] (by simp) (by simp [wkV, PV.el, PV.weak, PS.get, PS.obj, PS.lv, lkp_hit, lkp_miss, lkp_nil, lko, wkL, wkC, res1, rcs_wk, ics_wk]) (by simp [PS.get, PS.obj, PS.lv, lkp_hit, lkp_miss, lkp_nil, lko, wkL, wkC, PV.weak, wkL, wkC, res1, rcs_wk, ics_wk]) (by simp [PS.get, PS.obj, PS.lv, lkp_hit, lkp_miss, lkp_nil, lko]) (by rfl) (by rfl) (by simp [lko]) (by simp) (by simp) (by simp) (fun i hi => by rcases i with _ | _ | _ | _ | _ | _ | i <;> first | rfl | (exfalso; omega)))
      | true =>
        rw [c1, c2, c3, Bool.true_and, Bool.true_and, Bool.true_and] at key
        simp -implicitDefEqProofs only [push_cast, w1, w2, ge_iff_le, c1, c2, c3, rc, seval]
        (repeat (first | refine ⟨(by omega : _ ≤ _), ?_⟩ | refine ⟨(by omega : _ < _), ?_⟩ | refine ⟨(by simp; omega), ?_⟩ | refine ⟨(by simp; done), ?_⟩ | refine ⟨(by (unfold drawOk; kernel_rfl)), ?_⟩))
        refine key _ ?_
        (simp only [Gv.E, Gv.O, List.cons_append, List.nil_append, rc]; exact Wk.by _ _ _ [(0,0),(1,1),(2,2),(3,3),(4,4)] [] [] (by simp) (by simp [wkV, PV.el, PV.weak, PS.get, PS.obj, PS.lv, lkp_hit, lkp_miss, lkp_nil, lko, wkL, wkC, res1, rcs_wk, ics_wk]) (by simp [PS.get, PS.obj, PS.lv, lkp_hit, lkp_miss, lkp_nil, lko, wkL, wkC, PV.weak, wkL, wkC, res1, rcs_wk, ics_wk]) (by simp [PS.get, PS.obj, PS.lv, lkp_hit, lkp_miss, lkp_nil, lko]) (by rfl) (by rfl) (by simp [lko]) (by simp) (by simp) (by simp) (fun i hi => by rcases i with _ | _ | _ | _ | _ | _ | i <;> first | rfl | (exfalso; omega)))
theorem gB_fs (g : Gv) (y x : Nat) (hx : (x : Int) < g.was.w) (hy : (y : Int) < g.was.h) (Q : Post) (hQ : PWP Tryd.prog 0 (tailN 3 (gC3 Tryd.f3)) Q (g.Sb y x)) : PWP Tryd.prog 0 (tailN 2 (gC3 Tryd.f3)) Q (g.Sa y x) := by
  refine PWP.cutV mixed 0 ?_
  have key : ∀ S', Wk 0 S' (g.Sb y x) → seqK (PWP Tryd.prog 0 (tailN 0 (tailN 2 (gC3 Tryd.f3)))) Q .normal S' := fun S' hw => PWP.weak hw hQ
  generalize seqK (PWP Tryd.prog 0 (tailN 0 (tailN 2 (gC3 Tryd.f3)))) Q = Q2 at *
  have hh := g.has x y hx hy
  have t1 := has_fs g.th g.bt g.lt (x + g.p1) (y + g.p2)
  have t2 := has_fs g.r g.br g.lr x y
  simp only [gC3, gX2, gC1, gX1, gT9, Tryd.f3, Option.getD_some, tailN, headN, pA, pB, pK, pL]
  simp only [Gv.Sa, Gv.E, Gv.O, List.cons_append, List.nil_append]
  have hi : hasF (x + g.p1) (y + g.p2) g.th = (inb g y x && hasF x y g.r) := by
    rw [hh]; unfold inb; simp only [Bool.and_assoc]
  cases hb : inb g y x with
  | false =>
    rw [hb, Bool.false_and] at hi
    rw [hi] at t1
    simp -implicitDefEqProofs only [push_cast, seval]
    refine callE_p t1 ?_
    simp -implicitDefEqProofs only [push_cast, seval]
    refine callE_no ?_
    have hff : (false != false) = false := rfl
    simp -implicitDefEqProofs only [push_cast, hff, seval]
    refine key _ ?_
    (simp only [Gv.E, Gv.Sb, Gv.O, List.cons_append, List.nil_append, rc]; exact Wk.by _ _ _ [(0,0),(1,1),(2,2),(3,3),(4,4)] [] [] (by simp) (by simp [wkV, PV.el, PV.weak, PS.get, PS.obj, PS.lv, lkp_hit, lkp_miss, lkp_nil, lko, wkL, wkC, res1, rcs_wk, ics_wk]) (by simp [PS.get, PS.obj, PS.lv, lkp_hit, lkp_miss, lkp_nil, lko, wkL, wkC, PV.weak, wkL, wkC, res1, rcs_wk, ics_wk]) (by simp [PS.get, PS.obj, PS.lv, lkp_hit, lkp_miss, lkp_nil, lko]) (by rfl) (by rfl) (by simp [lko]) (by simp) (by simp) (by simp) (fun i hi => by rcases i with _ | _ | _ | _ | _ | _ | i <;> first | rfl | (exfalso; omega)))
  | true =>
    rw [hb, Bool.true_and] at hi
    rw [hi] at t1
    generalize hasF x y g.r = b at *
    have hbb : (b != b) = false := by cases b <;> rfl
    simp -implicitDefEqProofs only [push_cast, seval]
    refine callE_p t1 ?_
    simp -implicitDefEqProofs only [push_cast, seval]
    refine callE_p t2 ?_
    simp -implicitDefEqProofs only [push_cast, hbb, seval]
    refine key _ ?_
    (simp only [Gv.E, Gv.Sb, Gv.O, List.cons_append, List.nil_append, rc]; exact Wk.by _ _ _ [(0,0),(1,1),(2,2),(3,3),(4,4)] [] [] (by simp) (by simp [wkV, PV.el, PV.weak, PS.get, PS.obj, PS.lv, lkp_hit, lkp_miss, lkp_nil, lko, wkL, wkC, res1, rcs_wk, ics_wk]) (by simp [PS.get, PS.obj, PS.lv, lkp_hit, lkp_miss, lkp_nil, lko, wkL, wkC, PV.weak, wkL, wkC, res1, rcs_wk, ics_wk]) (by simp [PS.get, PS.obj, PS.lv, lkp_hit, lkp_miss, lkp_nil, lko]) (by rfl) (by rfl) (by simp [lko]) (by simp) (by simp) (by simp) (fun i hi => by rcases i with _ | _ | _ | _ | _ | _ | i <;> first | rfl | (exfalso; omega)))

def Gv.Se (g : Gv) (y x : Nat) : PS := { n := 289, env := [(99, .int .i64 x), (98, .int .i64 g.was.w), (31, .int .i64 y), (94, .int .i64 y), (93, .int .i64 g.was.h)] ++ g.E, objs := g.O, live := [], nxt := 6 }
set_option maxHeartbeats 2000000 in
theorem gC_fs (g : Gv) (y x : Nat) (hx : (x : Int) < g.was.w) (hy : (y : Int) < g.was.h) (Q : Post) (h3 : ∀ S, Wk 0 S (g.Se y x) → Q (.exit 3) S) (hQ : g.how ≠ 10 → PWP Tryd.prog 0 (tailN 4 (gC3 Tryd.f3)) Q (g.Sb y x)) : PWP Tryd.prog 0 (tailN 3 (gC3 Tryd.f3)) Q (g.Sb y x) := by
  refine PWP.cutV mixed 0 ?_
  have key : g.how ≠ 10 → ∀ S', Wk 0 S' (g.Sb y x) → seqK (PWP Tryd.prog 0 (tailN 0 (tailN 3 (gC3 Tryd.f3)))) Q .normal S' := fun hne S' hw => PWP.weak hw (hQ hne)
  have key3 : ∀ S', Wk 0 S' (g.Se y x) → seqK (PWP Tryd.prog 0 (tailN 0 (tailN 3 (gC3 Tryd.f3)))) Q (.exit 3) S' := h3
  generalize seqK (PWP Tryd.prog 0 (tailN 0 (tailN 3 (gC3 Tryd.f3)))) Q = Q2 at *
  have hw := g.hw
  have hn := g.hn
  have b1 := g.b1
  have b2 := g.b2
  unfold Sml at hw hn
  simp only [gC3, gX2, gC1, gX1, gT9, Tryd.f3, Option.getD_some, tailN, headN, pA, pB, pK, pL]
  simp only [Gv.Sb, Gv.E, Gv.O, List.cons_append, List.nil_append]
  cases c : ((g.how : Int) == 10) with
  | false =>
    have hne : g.how ≠ 10 := fun e => by rw [e] at c; exact absurd c (by decide)
    simp -implicitDefEqProofs only [push_cast, c, seval]
    refine key hne _ ?_
    (simp only [Gv.E, Gv.Sb, Gv.O, List.cons_append, List.nil_append, rc]; exact Wk.by _ _ _ [(0,0),(1,1),(2,2),(3,3),(4,4)] [] [] (by simp) (by simp [wkV, PV.el, PV.weak, PS.get, PS.obj, PS.lv, lkp_hit, lkp_miss, lkp_nil, lko, wkL, wkC, res1, rcs_wk, ics_wk]) (by simp [PS.get, PS.obj, PS.lv, lkp_hit, lkp_miss, lkp_nil, lko, wkL, wkC, PV.weak, wkL, wkC, res1, rcs_wk, ics_wk]) (by simp [PS.get, PS.obj, PS.lv, lkp_hit, lkp_miss, lkp_nil, lko]) (by rfl) (by rfl) (by simp [lko]) (by simp) (by simp) (by simp) (fun i hi => by rcases i with _ | _ | _ | _ | _ | _ | i <;> first | rfl | (exfalso; omega)))
  | true =>
    have he : g.how = 10 := by simp at c; omega
    obtain ⟨e1, e2⟩ := g.st he
    have w1 : IntKind.i64.wrap (g.was.x + (x : Int)) = g.was.x + x := wrap_i64_id (by omega) (by omega)
    have w2 : IntKind.i64.wrap (g.now.x + ((x : Int) + g.p1)) = g.was.x + x := by rw [e1, show g.now.x + ((x : Int) + (g.was.x - g.now.x)) = g.was.x + x by omega]; exact w1
    have w3 : IntKind.i64.wrap (g.was.y + (y : Int)) = g.was.y + y := wrap_i64_id (by omega) (by omega)
    have w4 : IntKind.i64.wrap (g.now.y + ((y : Int) + g.p2)) = g.was.y + y := by rw [e2, show g.now.y + ((y : Int) + (g.was.y - g.now.y)) = g.was.y + y by omega]; exact w3
    have z1 : (g.was.x + (x : Int) != g.was.x + x) = false := by simp
    have z2 : (g.was.y + (y : Int) != g.was.y + y) = false := by simp
    simp -implicitDefEqProofs only [push_cast, c, w1, w2, w3, w4, z1, z2, rc, seval]
    (repeat (first | refine ⟨(by omega : _ ≤ _), ?_⟩ | refine ⟨(by omega : _ < _), ?_⟩ | refine ⟨(by simp; omega), ?_⟩ | refine ⟨(by simp; done), ?_⟩ | refine ⟨(by (unfold drawOk; kernel_rfl)), ?_⟩))
    refine key3 _ ?_
    (simp only [Gv.E, Gv.Se, Gv.O, List.cons_append, List.nil_append, rc]; exact Wk.by _ _ _ [(0,0),(1,1),(2,2),(3,3),(4,4)] [] [] (by simp) (by simp [wkV, PV.el, PV.weak, PS.get, PS.obj, PS.lv, lkp_hit, lkp_miss, lkp_nil, lko, wkL, wkC, res1, rcs_wk, ics_wk]) (by simp [PS.get, PS.obj, PS.lv, lkp_hit, lkp_miss, lkp_nil, lko, wkL, wkC, PV.weak, wkL, wkC, res1, rcs_wk, ics_wk]) (by simp [PS.get, PS.obj, PS.lv, lkp_hit, lkp_miss, lkp_nil, lko]) (by rfl) (by rfl) (by simp [lko]) (by simp) (by simp) (by simp) (fun i hi => by rcases i with _ | _ | _ | _ | _ | _ | i <;> first | rfl | (exfalso; omega)))
set_option maxHeartbeats 4000000 in
theorem gD_fs (g : Gv) (y x : Nat) (hx : (x : Int) < g.was.w) (hy : (y : Int) < g.was.h) (hne : g.how ≠ 10) (Q : Post) (hQ : ∀ S, Wk 0 S (g.Se y x) → Q .normal S) : PWP Tryd.prog 0 (tailN 4 (gC3 Tryd.f3)) Q (g.Sb y x) := by
  have hw := g.hw
  have hn := g.hn
  have b1 := g.b1
  have b2 := g.b2
  have e0 := g.c0 hne
  have e2 := g.c2 hne
  have f0 := g.r0 hne
  have f2 := g.r2 hne
  have hc := g.hc
  have hr := g.hr
  unfold Sml at hw hn
  have w1 : IntKind.i64.wrap (g.now.w - ((x : Int) + g.p1)) = g.now.w - (x + g.p1) := wrap_i64_id (by omega) (by omega)
  have w2 : IntKind.i64.wrap (g.was.w - (x : Int)) = g.was.w - x := wrap_i64_id (by omega) (by omega)
  have w3 : IntKind.i64.wrap (g.now.h - ((y : Int) + g.p2)) = g.now.h - (y + g.p2) := wrap_i64_id (by omega) (by omega)
  have w4 : IntKind.i64.wrap (g.was.h - (y : Int)) = g.was.h - y := wrap_i64_id (by omega) (by omega)
  refine VC_sound mixed ?_
  simp only [gC3, gX2, gC1, gX1, gT9, Tryd.f3, Option.getD_some, tailN, headN, pA, pB, pK, pL]
  simp only [Gv.Sb, Gv.E, Gv.O, List.cons_append, List.nil_append]
  unfold Gv.Se Gv.E Gv.O at hQ
  simp only [List.cons_append, List.nil_append] at hQ
  generalize g.col = col at *
  generalize g.row = row at *
  generalize g.p1 = p1 at *
  generalize g.p2 = p2 at *
  rcases (by omega : col = 0 ∨ col = 1 ∨ col = 2 ∨ col = 3) with rfl | rfl | rfl | rfl
  all_goals rcases (by omega : row = 0 ∨ row = 1 ∨ row = 2 ∨ row = 3) with rfl | rfl | rfl | rfl
  all_goals (try (have e := e0 rfl; subst e))
  all_goals (try (have e := e2 rfl; subst e))
  all_goals (try (have e := f0 rfl; subst e))
  all_goals (try (have e := f2 rfl; subst e))
  all_goals (have a1 : ((x : Int) + 0 != x) = false := by simp)
  all_goals (have a2 : ((y : Int) + 0 != y) = false := by simp)
  all_goals (have a3 : (g.now.w - ((x : Int) + (g.now.w - g.was.w)) != g.was.w - x) = false := by simp; omega)
  all_goals (have a4 : (g.now.h - ((y : Int) + (g.now.h - g.was.h)) != g.was.h - y) = false := by simp; omega)
  all_goals simp -implicitDefEqProofs only [push_cast, w1, w2, w3, w4, a1, a2, a3, a4, rc, seval]
  all_goals (repeat (first | refine ⟨(by omega : _ ≤ _), ?_⟩ | refine ⟨(by omega : _ < _), ?_⟩ | refine ⟨(by simp; omega), ?_⟩ | refine ⟨(by simp; done), ?_⟩ | refine ⟨(by (unfold drawOk; kernel_rfl)), ?_⟩))
  all_goals (refine hQ _ ?_)
  all_goals (simp only [rc]; exact Wk.by _ _ _ [(0,0),(1,1),(2,2),(3,3),(4,4)] [] [] (by simp) (by simp [wkV, PV.el, PV.weak, PS.get, PS.obj, PS.lv, lkp_hit, lkp_miss, lkp_nil, lko, wkL, wkC, res1, rcs_wk, ics_wk]) (by simp [PS.get, PS.obj, PS.lv, lkp_hit, lkp_miss, lkp_nil, lko, wkL, wkC, PV.weak, wkL, wkC, res1, rcs_wk, ics_wk]) (by simp [PS.get, PS.obj, PS.lv, lkp_hit, lkp_miss, lkp_nil, lko]) (by rfl) (by rfl) (by simp [lko]) (by simp) (by simp) (by simp) (fun i hi => by rcases i with _ | _ | _ | _ | _ | _ | i <;> first | rfl | (exfalso; omega)))
end Go.Proofs.Sh
