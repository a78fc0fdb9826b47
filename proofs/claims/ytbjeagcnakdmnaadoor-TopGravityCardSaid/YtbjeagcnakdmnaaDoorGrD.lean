/- Packages rect, gravity: whether a rectangle has places; where contents go. -/
import Derived.Test.YtbjeagcnakdmnaaDoorPvYa
import Derived.Test.YtbjeagcnakdmnaaDoorGrB
set_option maxRecDepth 100000
set_option linter.unusedSimpArgs false
set_option linter.unusedVariables false
namespace Go.Proofs.Sh
open Go.Pv
open Rg
theorem rfits_fs (a n : Int) (ha : -1048576 ≤ a) (hn : 0 < n) (h : n ≤ 1048576 - a) (ha2 : a ≤ 1048576) : Fsp Tryd.prog 91 [] 0 [.int .i64 a, .int .i64 n] [] 0 (.bool true) := by
  have c1 : decide (-1048576 ≤ a) = true := by simpa using ha
  have c2 : decide ((1 : Int) ≤ n) = true := by simp; omega
  have hw : IntKind.i64.wrap (1048576 - a) = 1048576 - a := wrap_i64_id (by omega) (by omega)
  have c3 : decide (n ≤ 1048576 - a) = true := by simpa using h
  (refine Fsp.ofs (nx := 0) mixed Tryd.func91 rfl (by simp [Tryd.f91]) ?_; simp -implicitDefEqProofs only [push_cast, Tryd.f91, ge_iff_le, c1, c2, hw, c3, seval])
  (repeat (first | refine ⟨(by omega : _ ≤ _), ?_⟩ | refine ⟨(by omega : _ < _), ?_⟩ | refine ⟨by (unfold drawOk; kernel_rfl), ?_⟩ | refine ⟨(by simp; done), ?_⟩ | refine ⟨(by simp; omega), ?_⟩))
  all_goals (first | done | rfl | exact ⟨_, rfl, by simp [wkL, res2, res1, PV.weak, PV.el]⟩ | (simp [wkL, res2, res1, PV.weak, PV.el]; done))
def z4 : Rt := ⟨0, 0, 0, 0⟩
theorem z4_in : RtIn z4 := ⟨⟨by decide, by decide⟩, ⟨by decide, by decide⟩, ⟨by decide, by decide⟩, ⟨by decide, by decide⟩⟩
theorem rcheck_fs (r : Rt) (h : cntB r = true) : Fsp Tryd.prog 86 [] 0 [rpv r] [] 0 (.int .i64 0) := by
  have p := cnt_pos h
  have f1 := rfits_fs r.x r.w (by omega) (by omega) (by omega) (by omega)
  have f2 := rfits_fs r.y r.h (by omega) (by omega) (by omega) (by omega)
  have hq := rect_eq r z4 (cnt_in h) z4_in
  rw [show decide (r = z4) = false from decide_eq_false (fun e => by rw [e] at p; exact absurd p.1 (by decide))] at hq
  simp only [rc, z4] at hq
  have hkt : Tryd.prog.keyTypeAt 12 26 = true := by kernel_rfl
  (refine Fsp.ofs (nx := 0) mixed Tryd.func86 rfl (by simp [Tryd.f86]) ?_; simp -implicitDefEqProofs only [push_cast, Tryd.f86, rpv, rc, hq, hkt, seval])
  (repeat (first | refine ⟨(by omega : _ ≤ _), ?_⟩ | refine ⟨(by omega : _ < _), ?_⟩ | refine ⟨(by simp; omega), ?_⟩ | refine ⟨(by simp; done), ?_⟩ | refine ⟨(by (unfold drawOk; kernel_rfl)), ?_⟩))
  refine callE_p f1 ?_
  simp -implicitDefEqProofs only [push_cast, seval]
  refine callE_p f2 ?_
  simp -implicitDefEqProofs only [push_cast, seval]
  (repeat (first | refine ⟨(by omega : _ ≤ _), ?_⟩ | refine ⟨(by omega : _ < _), ?_⟩ | refine ⟨(by simp; omega), ?_⟩ | refine ⟨(by simp; done), ?_⟩ | refine ⟨(by (unfold drawOk; kernel_rfl)), ?_⟩))
  all_goals (first | done | rfl | exact ⟨_, rfl, by simp [wkL, res2, res1, PV.weak, PV.el]⟩ | (simp [wkL, res2, res1, PV.weak, PV.el]; done))
theorem right_fs (r : Rt) (h : cntB r = true) : Fsp Tryd.prog 71 [] 0 [rpv r] [] 0 (rpv r) := by
  have f1 := rcheck_fs r h
  (refine Fsp.ofs (nx := 0) mixed Tryd.func71 rfl (by simp [Tryd.f71]) ?_; simp -implicitDefEqProofs only [push_cast, Tryd.f71, rpv, rc, seval])
  (repeat (first | refine ⟨(by omega : _ ≤ _), ?_⟩ | refine ⟨(by omega : _ < _), ?_⟩ | refine ⟨by (unfold drawOk; kernel_rfl), ?_⟩ | refine ⟨(by simp; done), ?_⟩ | refine ⟨(by simp; omega), ?_⟩))
  refine callE_p f1 ?_
  simp -implicitDefEqProofs only [push_cast, rpv, rc, seval]
  (repeat (first | refine ⟨(by omega : _ ≤ _), ?_⟩ | refine ⟨(by omega : _ < _), ?_⟩ | refine ⟨by (unfold drawOk; kernel_rfl), ?_⟩ | refine ⟨(by simp; done), ?_⟩ | refine ⟨(by simp; omega), ?_⟩))
theorem rempty_fs (r : Rt) (h : cntB r = true) : Fsp Tryd.prog 50 [] 0 [rpv r] [] 0 (.bool false) := by
  have p := cnt_pos h
  have f1 := right_fs r h
  have hq := rect_eq r z4 (cnt_in h) z4_in
  rw [show decide (r = z4) = false from decide_eq_false (fun e => by rw [e] at p; exact absurd p.1 (by decide))] at hq
  simp only [rc, z4] at hq
  have hkt : Tryd.prog.keyTypeAt 12 26 = true := by kernel_rfl
  (refine Fsp.ofs (nx := 0) mixed Tryd.func50 rfl (by simp [Tryd.f50]) ?_; simp -implicitDefEqProofs only [push_cast, Tryd.f50, rpv, rc, seval])
  (repeat (first | refine ⟨(by omega : _ ≤ _), ?_⟩ | refine ⟨(by omega : _ < _), ?_⟩ | refine ⟨by (unfold drawOk; kernel_rfl), ?_⟩ | refine ⟨(by simp; done), ?_⟩ | refine ⟨(by simp; omega), ?_⟩))
  refine callE_p f1 ?_
  simp -implicitDefEqProofs only [push_cast, rpv, rc, hq, hkt, seval]
  (repeat (first | refine ⟨(by omega : _ ≤ _), ?_⟩ | refine ⟨(by omega : _ < _), ?_⟩ | refine ⟨by (unfold drawOk; kernel_rfl), ?_⟩ | refine ⟨(by simp; done), ?_⟩ | refine ⟨(by simp; omega), ?_⟩))
  all_goals (first | done | rfl | exact ⟨_, rfl, by simp [wkL, res2, res1, PV.weak, PV.el]⟩ | (simp [wkL, res2, res1, PV.weak, PV.el]; done))
theorem gcheck_fs (g : Int) (h1 : 1 ≤ g) (h2 : g ≤ 10) : Fsp Tryd.prog 49 [] 0 [.int .i64 g] [] 0 (.int .i64 0) := by
  have c1 : decide (g < 0) = false := by simp; omega
  have c2 : decide ((10 : Int) < g) = false := by simp; omega
  (refine Fsp.ofs (nx := 0) mixed Tryd.func49 rfl (by simp [Tryd.f49]) ?_; simp -implicitDefEqProofs only [push_cast, Tryd.f49, gt_iff_lt, c1, c2, seval])
  (repeat (first | refine ⟨(by omega : _ ≤ _), ?_⟩ | refine ⟨(by omega : _ < _), ?_⟩ | refine ⟨by (unfold drawOk; kernel_rfl), ?_⟩ | refine ⟨(by simp; done), ?_⟩ | refine ⟨(by simp; omega), ?_⟩))
  all_goals (first | done | rfl | exact ⟨_, rfl, by simp [wkL, res2, res1, PV.weak, PV.el]⟩ | (simp [wkL, res2, res1, PV.weak, PV.el]; done))
theorem part0_fs (n : Int) : Fsp Tryd.prog 51 [] 0 [.int .i64 n, .int .i64 0] [] 0 (.int .i64 0) := by
  (refine Fsp.ofs (nx := 0) mixed Tryd.func51 rfl (by simp [Tryd.f51]) ?_; simp -implicitDefEqProofs only [push_cast, Tryd.f51, seval])
  (repeat (first | refine ⟨(by omega : _ ≤ _), ?_⟩ | refine ⟨(by omega : _ < _), ?_⟩ | refine ⟨by (unfold drawOk; kernel_rfl), ?_⟩ | refine ⟨(by simp; done), ?_⟩ | refine ⟨(by simp; omega), ?_⟩))
  all_goals (first | done | rfl | exact ⟨_, rfl, by simp [wkL, res2, res1, PV.weak, PV.el]⟩ | (simp [wkL, res2, res1, PV.weak, PV.el]; done))
theorem part2_fs (n : Int) : Fsp Tryd.prog 51 [] 0 [.int .i64 n, .int .i64 2] [] 0 (.int .i64 n) := by
  (refine Fsp.ofs (nx := 0) mixed Tryd.func51 rfl (by simp [Tryd.f51]) ?_; simp -implicitDefEqProofs only [push_cast, Tryd.f51, seval])
  (repeat (first | refine ⟨(by omega : _ ≤ _), ?_⟩ | refine ⟨(by omega : _ < _), ?_⟩ | refine ⟨by (unfold drawOk; kernel_rfl), ?_⟩ | refine ⟨(by simp; done), ?_⟩ | refine ⟨(by simp; omega), ?_⟩))
  all_goals (first | done | rfl | exact ⟨_, rfl, by simp [wkL, res2, res1, PV.weak, PV.el]⟩ | (simp [wkL, res2, res1, PV.weak, PV.el]; done))
theorem part1_fs (n : Int) (h : -1000 ≤ n ∧ n ≤ 1000) : Fsp Tryd.prog 51 [] 0 [.int .i64 n, .int .i64 1] [] 0 (.int .i64 (n / 2)) := by
  (refine Fsp.ofs (nx := 0) mixed Tryd.func51 rfl (by simp [Tryd.f51]) ?_; simp -implicitDefEqProofs only [push_cast, Tryd.f51, seval])
  exact Int.fdiv_eq_ediv_of_nonneg _ (by decide)
theorem stay_fs (w n d : Int) (h : 0 ≤ w ∧ w ≤ 1000 ∧ 0 ≤ n ∧ n ≤ 1000 ∧ -1000 ≤ d ∧ d ≤ 1000) : Fsp Tryd.prog 29 [] 0 [.int .i64 w, .int .i64 n, .int .i64 d] [] 0 (.tup [.int .i64 (max 0 d), .int .i64 (min n (w + d) - max 0 d)]) := by
  have w1 : IntKind.i64.wrap (w + d) = w + d := wrap_i64_id (by omega) (by omega)
  have w2 : IntKind.i64.wrap (min n (w + d) - max 0 d) = min n (w + d) - max 0 d := wrap_i64_id (by omega) (by omega)
  have e1 : max 0 d = if 0 < d then d else 0 := by rw [Int.max_def]; split <;> split <;> omega
  have e2 : min n (w + d) = if w + d < n then w + d else n := by rw [Int.min_def]; split <;> split <;> omega
  (refine Fsp.ofs (nx := 0) mixed Tryd.func29 rfl (by simp [Tryd.f29]) ?_; simp -implicitDefEqProofs only [push_cast, Tryd.f29, w1, seval])
  rw [← e1, ← e2, w2]
  exact ⟨_, rfl, by simp [wkL, res2, res1, PV.weak]⟩
theorem small_fs (x y : Int) (w h : Nat) (hx : -128 ≤ x ∧ x ≤ 127) (hy : -128 ≤ y ∧ y ≤ 127) (hw : w < 256) (hh : h < 256) : Fsp Tryd.prog 5 [] 0 [.int .i8 x, .int .i8 y, .int .u8 w, .int .u8 h] [] 0 (rpv ⟨x, y, ((w % 24 : Nat) : Int) + 1, ((h % 24 : Nat) : Int) + 1⟩) := by
  have a1 : IntKind.i64.wrap x = x := wrap_i64_id (by omega) (by omega)
  have a2 : IntKind.i64.wrap y = y := wrap_i64_id (by omega) (by omega)
  have t1 : (w : Int).tmod 24 = (w : Int) % 24 := Int.tmod_eq_emod_of_nonneg (by omega)
  have t2 : (h : Int).tmod 24 = (h : Int) % 24 := Int.tmod_eq_emod_of_nonneg (by omega)
  have b1 : IntKind.i64.wrap ((w : Int) % 24) = (w : Int) % 24 := wrap_i64_id (by omega) (by omega)
  have b2 : IntKind.i64.wrap ((h : Int) % 24) = (h : Int) % 24 := wrap_i64_id (by omega) (by omega)
  have b3 : IntKind.i64.wrap ((w : Int) % 24 + 1) = (w : Int) % 24 + 1 := wrap_i64_id (by omega) (by omega)
  have b4 : IntKind.i64.wrap ((h : Int) % 24 + 1) = (h : Int) % 24 + 1 := wrap_i64_id (by omega) (by omega)
  (refine Fsp.ofs (nx := 0) mixed Tryd.func5 rfl (by simp [Tryd.f5]) ?_; simp -implicitDefEqProofs only [push_cast, Tryd.f5, a1, a2, t1, t2, b1, b2, b3, b4, rpv, rc, seval])
def gpart (k : Nat) (n : Int) : Int := if k = 1 then n / 2 else if k = 2 then n else 0
def gP1 (how : Nat) (was now : Rt) : Int := if how = 10 then was.x - now.x else gpart ((how - 1) % 3) (now.w - was.w)
def gP2 (how : Nat) (was now : Rt) : Int := if how = 10 then was.y - now.y else gpart ((how - 1) / 3) (now.h - was.h)
/-- A small one. -/
def Sml (r : Rt) : Prop := -128 ≤ r.x ∧ r.x ≤ 127 ∧ -128 ≤ r.y ∧ r.y ≤ 127 ∧ 1 ≤ r.w ∧ r.w ≤ 24 ∧ 1 ≤ r.h ∧ r.h ≤ 24
theorem Sml.cnt {r : Rt} (h : Sml r) : cntB r = true := by
  unfold Sml at h
  unfold cntB
  rw [Bool.and_eq_true, fit_iff, fit_iff]
  omega
theorem halves_at : gat GTab.tab 0 = some [PV.int .i64 0, .int .i64 0, .int .i64 0, .int .i64 0, .int .i64 1, .int .i64 0, .int .i64 2, .int .i64 0, .int .i64 0, .int .i64 1, .int .i64 1, .int .i64 1, .int .i64 2, .int .i64 1, .int .i64 0, .int .i64 2, .int .i64 1, .int .i64 2, .int .i64 2, .int .i64 2] := rfl
set_option maxHeartbeats 8000000 in
theorem gshift_fs (how : Nat) (h1 : 1 ≤ how) (h2 : how ≤ 10) (was now : Rt) (hw : Sml was) (hn : Sml now) : Fsp Tryd.prog 28 [] 0 [.int .i64 how, rpv was, rpv now] [] 0 (.tup [.agg [.int .i64 (gP1 how was now), .int .i64 (gP2 how was now)], .bool true]) := by
  have e1 := rempty_fs was hw.cnt
  have e2 := rempty_fs now hn.cnt
  have hc := gcheck_fs how (by omega) (by omega)
  unfold Sml at hw hn
  have w1 : IntKind.i64.wrap (was.x - now.x) = was.x - now.x := wrap_i64_id (by omega) (by omega)
  have w2 : IntKind.i64.wrap (was.y - now.y) = was.y - now.y := wrap_i64_id (by omega) (by omega)
  have w3 : IntKind.i64.wrap (now.w - was.w) = now.w - was.w := wrap_i64_id (by omega) (by omega)
  have w4 : IntKind.i64.wrap (now.h - was.h) = now.h - was.h := wrap_i64_id (by omega) (by omega)
  have pw0 := part0_fs (now.w - was.w)
  have pw1 := part1_fs (now.w - was.w) (by omega)
  have pw2 := part2_fs (now.w - was.w)
  have ph0 := part0_fs (now.h - was.h)
  have ph1 := part1_fs (now.h - was.h) (by omega)
  have ph2 := part2_fs (now.h - was.h)
  rcases (by omega : how = 1 ∨ how = 2 ∨ how = 3 ∨ how = 4 ∨ how = 5 ∨ how = 6 ∨ how = 7 ∨ how = 8 ∨ how = 9 ∨ how = 10) with rfl | rfl | rfl | rfl | rfl | rfl | rfl | rfl | rfl | rfl
  · rw [show gP1 1 was now = (0 : Int) from rfl, show gP2 1 was now = (0 : Int) from rfl]
    (refine Fsp.ofs (nx := 0) mixed Tryd.func28 rfl (by simp [Tryd.f28]) ?_; simp -implicitDefEqProofs only [push_cast, Tryd.f28, rpv, rc, seval])
    (repeat (first | refine ⟨(by omega : _ ≤ _), ?_⟩ | refine ⟨(by omega : _ < _), ?_⟩ | refine ⟨(by simp; omega), ?_⟩ | refine ⟨(by simp; done), ?_⟩ | refine ⟨(by (unfold drawOk; kernel_rfl)), ?_⟩))
    refine callE_p hc ?_
    simp -implicitDefEqProofs only [push_cast, seval]
    refine callE_p e1 ?_
    simp -implicitDefEqProofs only [push_cast, rpv, rc, seval]
    refine callE_p e2 ?_
    simp -implicitDefEqProofs only [push_cast, rpv, rc, w3, w4, halves_at, List.drop_succ_cons, List.drop_zero, List.take_succ_cons, List.take_zero, seval]
    (repeat (first | refine ⟨(by omega : _ ≤ _), ?_⟩ | refine ⟨(by omega : _ < _), ?_⟩ | refine ⟨(by simp; omega), ?_⟩ | refine ⟨(by simp; done), ?_⟩ | refine ⟨(by (unfold drawOk; kernel_rfl)), ?_⟩))
    refine callE_p pw0 ?_
    simp -implicitDefEqProofs only [push_cast, w4, seval]
    (repeat (first | refine ⟨(by omega : _ ≤ _), ?_⟩ | refine ⟨(by omega : _ < _), ?_⟩ | refine ⟨(by simp; omega), ?_⟩ | refine ⟨(by simp; done), ?_⟩ | refine ⟨(by (unfold drawOk; kernel_rfl)), ?_⟩))
    refine callE_p ph0 ?_
    simp -implicitDefEqProofs only [push_cast, seval]
    (repeat (first | refine ⟨(by omega : _ ≤ _), ?_⟩ | refine ⟨(by omega : _ < _), ?_⟩ | refine ⟨(by simp; omega), ?_⟩ | refine ⟨(by simp; done), ?_⟩ | refine ⟨(by (unfold drawOk; kernel_rfl)), ?_⟩))
    all_goals (first | done | rfl | exact ⟨_, rfl, by simp [wkL, res2, res1, PV.weak, PV.el]⟩ | (simp [wkL, res2, res1, PV.weak, PV.el]; done))
  · rw [show gP1 2 was now = (now.w - was.w) / 2 from rfl, show gP2 2 was now = (0 : Int) from rfl]
    (refine Fsp.ofs (nx := 0) mixed Tryd.func28 rfl (by simp [Tryd.f28]) ?_; simp -implicitDefEqProofs only [push_cast, Tryd.f28, rpv, rc, seval])
    (repeat (first | refine ⟨(by omega : _ ≤ _), ?_⟩ | refine ⟨(by omega : _ < _), ?_⟩ | refine ⟨(by simp; omega), ?_⟩ | refine ⟨(by simp; done), ?_⟩ | refine ⟨(by (unfold drawOk; kernel_rfl)), ?_⟩))
    refine callE_p hc ?_
    simp -implicitDefEqProofs only [push_cast, seval]
    refine callE_p e1 ?_
    simp -implicitDefEqProofs only [push_cast, rpv, rc, seval]
    refine callE_p e2 ?_
    simp -implicitDefEqProofs only [push_cast, rpv, rc, w3, w4, halves_at, List.drop_succ_cons, List.drop_zero, List.take_succ_cons, List.take_zero, seval]
    (repeat (first | refine ⟨(by omega : _ ≤ _), ?_⟩ | refine ⟨(by omega : _ < _), ?_⟩ | refine ⟨(by simp; omega), ?_⟩ | refine ⟨(by simp; done), ?_⟩ | refine ⟨(by (unfold drawOk; kernel_rfl)), ?_⟩))
    refine callE_p pw1 ?_
    simp -implicitDefEqProofs only [push_cast, w4, seval]
    (repeat (first | refine ⟨(by omega : _ ≤ _), ?_⟩ | refine ⟨(by omega : _ < _), ?_⟩ | refine ⟨(by simp; omega), ?_⟩ | refine ⟨(by simp; done), ?_⟩ | refine ⟨(by (unfold drawOk; kernel_rfl)), ?_⟩))
    refine callE_p ph0 ?_
    simp -implicitDefEqProofs only [push_cast, seval]
    (repeat (first | refine ⟨(by omega : _ ≤ _), ?_⟩ | refine ⟨(by omega : _ < _), ?_⟩ | refine ⟨(by simp; omega), ?_⟩ | refine ⟨(by simp; done), ?_⟩ | refine ⟨(by (unfold drawOk; kernel_rfl)), ?_⟩))
    all_goals (first | done | rfl | exact ⟨_, rfl, by simp [wkL, res2, res1, PV.weak, PV.el]⟩ | (simp [wkL, res2, res1, PV.weak, PV.el]; done))
  · rw [show gP1 3 was now = now.w - was.w from rfl, show gP2 3 was now = (0 : Int) from rfl]
    (refine Fsp.ofs (nx := 0) mixed Tryd.func28 rfl (by simp [Tryd.f28]) ?_; simp -implicitDefEqProofs only [push_cast, Tryd.f28, rpv, rc, seval])
    (repeat (first | refine ⟨(by omega : _ ≤ _), ?_⟩ | refine ⟨(by omega : _ < _), ?_⟩ | refine ⟨(by simp; omega), ?_⟩ | refine ⟨(by simp; done), ?_⟩ | refine ⟨(by (unfold drawOk; kernel_rfl)), ?_⟩))
    refine callE_p hc ?_
    simp -implicitDefEqProofs only [push_cast, seval]
    refine callE_p e1 ?_
    simp -implicitDefEqProofs only [push_cast, rpv, rc, seval]
    refine callE_p e2 ?_
    simp -implicitDefEqProofs only [push_cast, rpv, rc, w3, w4, halves_at, List.drop_succ_cons, List.drop_zero, List.take_succ_cons, List.take_zero, seval]
    (repeat (first | refine ⟨(by omega : _ ≤ _), ?_⟩ | refine ⟨(by omega : _ < _), ?_⟩ | refine ⟨(by simp; omega), ?_⟩ | refine ⟨(by simp; done), ?_⟩ | refine ⟨(by (unfold drawOk; kernel_rfl)), ?_⟩))
    refine callE_p pw2 ?_
    simp -implicitDefEqProofs only [push_cast, w4, seval]
    (repeat (first | refine ⟨(by omega : _ ≤ _), ?_⟩ | refine ⟨(by omega : _ < _), ?_⟩ | refine ⟨(by simp; omega), ?_⟩ | refine ⟨(by simp; done), ?_⟩ | refine ⟨(by (unfold drawOk; kernel_rfl)), ?_⟩))
    refine callE_p ph0 ?_
    simp -implicitDefEqProofs only [push_cast, seval]
    (repeat (first | refine ⟨(by omega : _ ≤ _), ?_⟩ | refine ⟨(by omega : _ < _), ?_⟩ | refine ⟨(by simp; omega), ?_⟩ | refine ⟨(by simp; done), ?_⟩ | refine ⟨(by (unfold drawOk; kernel_rfl)), ?_⟩))
    all_goals (first | done | rfl | exact ⟨_, rfl, by simp [wkL, res2, res1, PV.weak, PV.el]⟩ | (simp [wkL, res2, res1, PV.weak, PV.el]; done))
  · rw [show gP1 4 was now = (0 : Int) from rfl, show gP2 4 was now = (now.h - was.h) / 2 from rfl]
    (refine Fsp.ofs (nx := 0) mixed Tryd.func28 rfl (by simp [Tryd.f28]) ?_; simp -implicitDefEqProofs only [push_cast, Tryd.f28, rpv, rc, seval])
    (repeat (first | refine ⟨(by omega : _ ≤ _), ?_⟩ | refine ⟨(by omega : _ < _), ?_⟩ | refine ⟨(by simp; omega), ?_⟩ | refine ⟨(by simp; done), ?_⟩ | refine ⟨(by (unfold drawOk; kernel_rfl)), ?_⟩))
    refine callE_p hc ?_
    simp -implicitDefEqProofs only [push_cast, seval]
    refine callE_p e1 ?_
    simp -implicitDefEqProofs only [push_cast, rpv, rc, seval]
    refine callE_p e2 ?_
    simp -implicitDefEqProofs only [push_cast, rpv, rc, w3, w4, halves_at, List.drop_succ_cons, List.drop_zero, List.take_succ_cons, List.take_zero, seval]
    (repeat (first | refine ⟨(by omega : _ ≤ _), ?_⟩ | refine ⟨(by omega : _ < _), ?_⟩ | refine ⟨(by simp; omega), ?_⟩ | refine ⟨(by simp; done), ?_⟩ | refine ⟨(by (unfold drawOk; kernel_rfl)), ?_⟩))
    refine callE_p pw0 ?_
    simp -implicitDefEqProofs only [push_cast, w4, seval]
    (repeat (first | refine ⟨(by omega : _ ≤ _), ?_⟩ | refine ⟨(by omega : _ < _), ?_⟩ | refine ⟨(by simp; omega), ?_⟩ | refine ⟨(by simp; done), ?_⟩ | refine ⟨(by (unfold drawOk; kernel_rfl)), ?_⟩))
    refine callE_p ph1 ?_
    simp -implicitDefEqProofs only [push_cast, seval]
    (repeat (first | refine ⟨(by omega : _ ≤ _), ?_⟩ | refine ⟨(by omega : _ < _), ?_⟩ | refine ⟨(by simp; omega), ?_⟩ | refine ⟨(by simp; done), ?_⟩ | refine ⟨(by (unfold drawOk; kernel_rfl)), ?_⟩))
    all_goals (first | done | rfl | exact ⟨_, rfl, by simp [wkL, res2, res1, PV.weak, PV.el]⟩ | (simp [wkL, res2, res1, PV.weak, PV.el]; done))
  · rw [show gP1 5 was now = (now.w - was.w) / 2 from rfl, show gP2 5 was now = (now.h - was.h) / 2 from rfl]
    (refine Fsp.ofs (nx := 0) mixed Tryd.func28 rfl (by simp [Tryd.f28]) ?_; simp -implicitDefEqProofs only [push_cast, Tryd.f28, rpv, rc, seval])
    (repeat (first | refine ⟨(by omega : _ ≤ _), ?_⟩ | refine ⟨(by omega : _ < _), ?_⟩ | refine ⟨(by simp; omega), ?_⟩ | refine ⟨(by simp; done), ?_⟩ | refine ⟨(by (unfold drawOk; kernel_rfl)), ?_⟩))
    refine callE_p hc ?_
    simp -implicitDefEqProofs only [push_cast, seval]
    refine callE_p e1 ?_
    simp -implicitDefEqProofs only [push_cast, rpv, rc, seval]
    refine callE_p e2 ?_
    simp -implicitDefEqProofs only [push_cast, rpv, rc, w3, w4, halves_at, List.drop_succ_cons, List.drop_zero, List.take_succ_cons, List.take_zero, seval]
    (repeat (first | refine ⟨(by omega : _ ≤ _), ?_⟩ | refine ⟨(by omega : _ < _), ?_⟩ | refine ⟨(by simp; omega), ?_⟩ | refine ⟨(by simp; done), ?_⟩ | refine ⟨(by (unfold drawOk; kernel_rfl)), ?_⟩))
    refine callE_p pw1 ?_
    simp -implicitDefEqProofs only [push_cast, w4, seval]
    (repeat (first | refine ⟨(by omega : _ ≤ _), ?_⟩ | refine ⟨(by omega : _ < _), ?_⟩ | refine ⟨(by simp; omega), ?_⟩ | refine ⟨(by simp; done), ?_⟩ | refine ⟨(by (unfold drawOk; kernel_rfl)), ?_⟩))
    refine callE_p ph1 ?_
    simp -implicitDefEqProofs only [push_cast, seval]
    (repeat (first | refine ⟨(by omega : _ ≤ _), ?_⟩ | refine ⟨(by omega : _ < _), ?_⟩ | refine ⟨(by simp; omega), ?_⟩ | refine ⟨(by simp; done), ?_⟩ | refine ⟨(by (unfold drawOk; kernel_rfl)), ?_⟩))
    all_goals (first | done | rfl | exact ⟨_, rfl, by simp [wkL, res2, res1, PV.weak, PV.el]⟩ | (simp [wkL, res2, res1, PV.weak, PV.el]; done))
  · rw [show gP1 6 was now = now.w - was.w from rfl, show gP2 6 was now = (now.h - was.h) / 2 from rfl]
    (refine Fsp.ofs (nx := 0) mixed Tryd.func28 rfl (by simp [Tryd.f28]) ?_; simp -implicitDefEqProofs only [push_cast, Tryd.f28, rpv, rc, seval])
    (repeat (first | refine ⟨(by omega : _ ≤ _), ?_⟩ | refine ⟨(by omega : _ < _), ?_⟩ | refine ⟨(by simp; omega), ?_⟩ | refine ⟨(by simp; done), ?_⟩ | refine ⟨(by (unfold drawOk; kernel_rfl)), ?_⟩))
    refine callE_p hc ?_
    simp -implicitDefEqProofs only [push_cast, seval]
    refine callE_p e1 ?_
    simp -implicitDefEqProofs only [push_cast, rpv, rc, seval]
    refine callE_p e2 ?_
    simp -implicitDefEqProofs only [push_cast, rpv, rc, w3, w4, halves_at, List.drop_succ_cons, List.drop_zero, List.take_succ_cons, List.take_zero, seval]
    (repeat (first | refine ⟨(by omega : _ ≤ _), ?_⟩ | refine ⟨(by omega : _ < _), ?_⟩ | refine ⟨(by simp; omega), ?_⟩ | refine ⟨(by simp; done), ?_⟩ | refine ⟨(by (unfold drawOk; kernel_rfl)), ?_⟩))
    refine callE_p pw2 ?_
    simp -implicitDefEqProofs only [push_cast, w4, seval]
    (repeat (first | refine ⟨(by omega : _ ≤ _), ?_⟩ | refine ⟨(by omega : _ < _), ?_⟩ | refine ⟨(by simp; omega), ?_⟩ | refine ⟨(by simp; done), ?_⟩ | refine ⟨(by (unfold drawOk; kernel_rfl)), ?_⟩))
    refine callE_p ph1 ?_
    simp -implicitDefEqProofs only [push_cast, seval]
    (repeat (first | refine ⟨(by omega : _ ≤ _), ?_⟩ | refine ⟨(by omega : _ < _), ?_⟩ | refine ⟨(by simp; omega), ?_⟩ | refine ⟨(by simp; done), ?_⟩ | refine ⟨(by (unfold drawOk; kernel_rfl)), ?_⟩))
    all_goals (first | done | rfl | exact ⟨_, rfl, by simp [wkL, res2, res1, PV.weak, PV.el]⟩ | (simp [wkL, res2, res1, PV.weak, PV.el]; done))
  · rw [show gP1 7 was now = (0 : Int) from rfl, show gP2 7 was now = now.h - was.h from rfl]
    (refine Fsp.ofs (nx := 0) mixed Tryd.func28 rfl (by simp [Tryd.f28]) ?_; simp -implicitDefEqProofs only [push_cast, Tryd.f28, rpv, rc, seval])
    (repeat (first | refine ⟨(by omega : _ ≤ _), ?_⟩ | refine ⟨(by omega : _ < _), ?_⟩ | refine ⟨(by simp; omega), ?_⟩ | refine ⟨(by simp; done), ?_⟩ | refine ⟨(by (unfold drawOk; kernel_rfl)), ?_⟩))
    refine callE_p hc ?_
    simp -implicitDefEqProofs only [push_cast, seval]
    refine callE_p e1 ?_
    simp -implicitDefEqProofs only [push_cast, rpv, rc, seval]
    refine callE_p e2 ?_
    simp -implicitDefEqProofs only [push_cast, rpv, rc, w3, w4, halves_at, List.drop_succ_cons, List.drop_zero, List.take_succ_cons, List.take_zero, seval]
    (repeat (first | refine ⟨(by omega : _ ≤ _), ?_⟩ | refine ⟨(by omega : _ < _), ?_⟩ | refine ⟨(by simp; omega), ?_⟩ | refine ⟨(by simp; done), ?_⟩ | refine ⟨(by (unfold drawOk; kernel_rfl)), ?_⟩))
    refine callE_p pw0 ?_
    simp -implicitDefEqProofs only [push_cast, w4, seval]
    (repeat (first | refine ⟨(by omega : _ ≤ _), ?_⟩ | refine ⟨(by omega : _ < _), ?_⟩ | refine ⟨(by simp; omega), ?_⟩ | refine ⟨(by simp; done), ?_⟩ | refine ⟨(by (unfold drawOk; kernel_rfl)), ?_⟩))
    refine callE_p ph2 ?_
    simp -implicitDefEqProofs only [push_cast, seval]
    (repeat (first | refine ⟨(by omega : _ ≤ _), ?_⟩ | refine ⟨(by omega : _ < _), ?_⟩ | refine ⟨(by simp; omega), ?_⟩ | refine ⟨(by simp; done), ?_⟩ | refine ⟨(by (unfold drawOk; kernel_rfl)), ?_⟩))
    all_goals (first | done | rfl | exact ⟨_, rfl, by simp [wkL, res2, res1, PV.weak, PV.el]⟩ | (simp [wkL, res2, res1, PV.weak, PV.el]; done))
  · rw [show gP1 8 was now = (now.w - was.w) / 2 from rfl, show gP2 8 was now = now.h - was.h from rfl]
    (refine Fsp.ofs (nx := 0) mixed Tryd.func28 rfl (by simp [Tryd.f28]) ?_; simp -implicitDefEqProofs only [push_cast, Tryd.f28, rpv, rc, seval])
    (repeat (first | refine ⟨(by omega : _ ≤ _), ?_⟩ | refine ⟨(by omega : _ < _), ?_⟩ | refine ⟨(by simp; omega), ?_⟩ | refine ⟨(by simp; done), ?_⟩ | refine ⟨(by (unfold drawOk; kernel_rfl)), ?_⟩))
    refine callE_p hc ?_
    simp -implicitDefEqProofs only [push_cast, seval]
    refine callE_p e1 ?_
    simp -implicitDefEqProofs only [push_cast, rpv, rc, seval]
    refine callE_p e2 ?_
    simp -implicitDefEqProofs only [push_cast, rpv, rc, w3, w4, halves_at, List.drop_succ_cons, List.drop_zero, List.take_succ_cons, List.take_zero, seval]
    (repeat (first | refine ⟨(by omega : _ ≤ _), ?_⟩ | refine ⟨(by omega : _ < _), ?_⟩ | refine ⟨(by simp; omega), ?_⟩ | refine ⟨(by simp; done), ?_⟩ | refine ⟨(by (unfold drawOk; kernel_rfl)), ?_⟩))
    refine callE_p pw1 ?_
    simp -implicitDefEqProofs only [push_cast, w4, seval]
    (repeat (first | refine ⟨(by omega : _ ≤ _), ?_⟩ | refine ⟨(by omega : _ < _), ?_⟩ | refine ⟨(by simp; omega), ?_⟩ | refine ⟨(by simp; done), ?_⟩ | refine ⟨(by (unfold drawOk; kernel_rfl)), ?_⟩))
    refine callE_p ph2 ?_
    simp -implicitDefEqProofs only [push_cast, seval]
    (repeat (first | refine ⟨(by omega : _ ≤ _), ?_⟩ | refine ⟨(by omega : _ < _), ?_⟩ | refine ⟨(by simp; omega), ?_⟩ | refine ⟨(by simp; done), ?_⟩ | refine ⟨(by (unfold drawOk; kernel_rfl)), ?_⟩))
    all_goals (first | done | rfl | exact ⟨_, rfl, by simp [wkL, res2, res1, PV.weak, PV.el]⟩ | (simp [wkL, res2, res1, PV.weak, PV.el]; done))
  · rw [show gP1 9 was now = now.w - was.w from rfl, show gP2 9 was now = now.h - was.h from rfl]
    (refine Fsp.ofs (nx := 0) mixed Tryd.func28 rfl (by simp [Tryd.f28]) ?_; simp -implicitDefEqProofs only [push_cast, Tryd.f28, rpv, rc, seval])
    (repeat (first | refine ⟨(by omega : _ ≤ _), ?_⟩ | refine ⟨(by omega : _ < _), ?_⟩ | refine ⟨(by simp; omega), ?_⟩ | refine ⟨(by simp; done), ?_⟩ | refine ⟨(by (unfold drawOk; kernel_rfl)), ?_⟩))
    refine callE_p hc ?_
    simp -implicitDefEqProofs only [push_cast, seval]
    refine callE_p e1 ?_
    simp -implicitDefEqProofs only [push_cast, rpv, rc, seval]
    refine callE_p e2 ?_
    simp -implicitDefEqProofs only [push_cast, rpv, rc, w3, w4, halves_at, List.drop_succ_cons, List.drop_zero, List.take_succ_cons, List.take_zero, seval]
    (repeat (first | refine ⟨(by omega : _ ≤ _), ?_⟩ | refine ⟨(by omega : _ < _), ?_⟩ | refine ⟨(by simp; omega), ?_⟩ | refine ⟨(by simp; done), ?_⟩ | refine ⟨(by (unfold drawOk; kernel_rfl)), ?_⟩))
    refine callE_p pw2 ?_
    simp -implicitDefEqProofs only [push_cast, w4, seval]
    (repeat (first | refine ⟨(by omega : _ ≤ _), ?_⟩ | refine ⟨(by omega : _ < _), ?_⟩ | refine ⟨(by simp; omega), ?_⟩ | refine ⟨(by simp; done), ?_⟩ | refine ⟨(by (unfold drawOk; kernel_rfl)), ?_⟩))
    refine callE_p ph2 ?_
    simp -implicitDefEqProofs only [push_cast, seval]
    (repeat (first | refine ⟨(by omega : _ ≤ _), ?_⟩ | refine ⟨(by omega : _ < _), ?_⟩ | refine ⟨(by simp; omega), ?_⟩ | refine ⟨(by simp; done), ?_⟩ | refine ⟨(by (unfold drawOk; kernel_rfl)), ?_⟩))
    all_goals (first | done | rfl | exact ⟨_, rfl, by simp [wkL, res2, res1, PV.weak, PV.el]⟩ | (simp [wkL, res2, res1, PV.weak, PV.el]; done))
  · rw [show gP1 10 was now = was.x - now.x from rfl, show gP2 10 was now = was.y - now.y from rfl]
    (refine Fsp.ofs (nx := 0) mixed Tryd.func28 rfl (by simp [Tryd.f28]) ?_; simp -implicitDefEqProofs only [push_cast, Tryd.f28, rpv, rc, seval])
    (repeat (first | refine ⟨(by omega : _ ≤ _), ?_⟩ | refine ⟨(by omega : _ < _), ?_⟩ | refine ⟨(by simp; omega), ?_⟩ | refine ⟨(by simp; done), ?_⟩ | refine ⟨(by (unfold drawOk; kernel_rfl)), ?_⟩))
    refine callE_p hc ?_
    simp -implicitDefEqProofs only [push_cast, seval]
    refine callE_p e1 ?_
    simp -implicitDefEqProofs only [push_cast, rpv, rc, seval]
    refine callE_p e2 ?_
    simp -implicitDefEqProofs only [push_cast, rpv, rc, w1, w2, seval]
    (repeat (first | refine ⟨(by omega : _ ≤ _), ?_⟩ | refine ⟨(by omega : _ < _), ?_⟩ | refine ⟨(by simp; omega), ?_⟩ | refine ⟨(by simp; done), ?_⟩ | refine ⟨(by (unfold drawOk; kernel_rfl)), ?_⟩))
    all_goals (first | done | rfl | exact ⟨_, rfl, by simp [wkL, res2, res1, PV.weak, PV.el]⟩ | (simp [wkL, res2, res1, PV.weak, PV.el]; done))
theorem gpart_b {k : Nat} {n : Int} (h : -24 ≤ n ∧ n ≤ 24) : -24 ≤ gpart k n ∧ gpart k n ≤ 24 := by
  unfold gpart
  split
  · omega
  · split <;> omega
theorem gP_b {how : Nat} {was now : Rt} (hw : Sml was) (hn : Sml now) : (-300 ≤ gP1 how was now ∧ gP1 how was now ≤ 300) ∧ (-300 ≤ gP2 how was now ∧ gP2 how was now ≤ 300) := by
  unfold Sml at hw hn
  have h1 := gpart_b (k := (how - 1) % 3) (n := now.w - was.w) (by omega)
  have h2 := gpart_b (k := (how - 1) / 3) (n := now.h - was.h) (by omega)
  unfold gP1 gP2
  constructor
  · split <;> omega
  · split <;> omega
def kx (p : Int) : Int := max 0 p
def kw (w n p : Int) : Int := min n (w + p) - max 0 p
/-- What is kept. -/
def kR (how : Nat) (was now : Rt) : Rt := if kw was.w now.w (gP1 how was now) < 1 ∨ kw was.h now.h (gP2 how was now) < 1 then z4 else ⟨kx (gP1 how was now), kx (gP2 how was now), kw was.w now.w (gP1 how was now), kw was.h now.h (gP2 how was now)⟩
set_option maxHeartbeats 8000000 in
theorem kept_fs (how : Nat) (h1 : 1 ≤ how) (h2 : how ≤ 10) (was now : Rt) (hw : Sml was) (hn : Sml now) : Fsp Tryd.prog 8 [] 0 [.int .i64 how, rpv was, rpv now] [] 0 (.tup [.agg [.int .i64 (gP1 how was now), .int .i64 (gP2 how was now)], rpv (kR how was now), .bool true]) := by
  have hS := gshift_fs how h1 h2 was now hw hn
  obtain ⟨b1, b2⟩ := gP_b (how := how) hw hn
  unfold Sml at hw hn
  have s1 := stay_fs was.w now.w (gP1 how was now) (by omega)
  have s2 := stay_fs was.h now.h (gP2 how was now) (by omega)
  unfold kR kx kw
  generalize gP1 how was now = p1 at *
  generalize gP2 how was now = p2 at *
  generalize max 0 p1 = x at *
  generalize max 0 p2 = y at *
  generalize min now.w (was.w + p1) - x = w at *
  generalize min now.h (was.h + p2) - y = h at *
  cases c1 : decide (w < 1) with
  | true =>
    rw [if_pos (.inl (by simpa using c1))]
    (refine Fsp.ofs (nx := 0) mixed Tryd.func8 rfl (by simp [Tryd.f8]) ?_; simp -implicitDefEqProofs only [push_cast, Tryd.f8, rpv, rc, seval])
    (repeat (first | refine ⟨(by omega : _ ≤ _), ?_⟩ | refine ⟨(by omega : _ < _), ?_⟩ | refine ⟨(by simp; omega), ?_⟩ | refine ⟨(by simp; done), ?_⟩ | refine ⟨(by (unfold drawOk; kernel_rfl)), ?_⟩))
    refine callE_p hS ?_
    simp -implicitDefEqProofs only [push_cast, rpv, rc, seval]
    (repeat (first | refine ⟨(by omega : _ ≤ _), ?_⟩ | refine ⟨(by omega : _ < _), ?_⟩ | refine ⟨(by simp; omega), ?_⟩ | refine ⟨(by simp; done), ?_⟩ | refine ⟨(by (unfold drawOk; kernel_rfl)), ?_⟩))
    refine callE_p s1 ?_
    simp -implicitDefEqProofs only [push_cast, rpv, rc, seval]
    (repeat (first | refine ⟨(by omega : _ ≤ _), ?_⟩ | refine ⟨(by omega : _ < _), ?_⟩ | refine ⟨(by simp; omega), ?_⟩ | refine ⟨(by simp; done), ?_⟩ | refine ⟨(by (unfold drawOk; kernel_rfl)), ?_⟩))
    refine callE_p s2 ?_
    simp -implicitDefEqProofs only [push_cast, c1, z4, rpv, rc, seval]
    (repeat (first | refine ⟨(by omega : _ ≤ _), ?_⟩ | refine ⟨(by omega : _ < _), ?_⟩ | refine ⟨(by simp; omega), ?_⟩ | refine ⟨(by simp; done), ?_⟩ | refine ⟨(by (unfold drawOk; kernel_rfl)), ?_⟩))
    all_goals (first | done | rfl | exact ⟨_, rfl, by simp [wkL, res2, res1, PV.weak, PV.el, rpv, rc]⟩ | (simp [wkL, res2, res1, PV.weak, PV.el, rpv, rc]; done))
  | false =>
    cases c2 : decide (h < 1) with
    | true =>
      rw [if_pos (.inr (by simpa using c2))]
      (refine Fsp.ofs (nx := 0) mixed Tryd.func8 rfl (by simp [Tryd.f8]) ?_; simp -implicitDefEqProofs only [push_cast, Tryd.f8, rpv, rc, seval])
      (repeat (first | refine ⟨(by omega : _ ≤ _), ?_⟩ | refine ⟨(by omega : _ < _), ?_⟩ | refine ⟨(by simp; omega), ?_⟩ | refine ⟨(by simp; done), ?_⟩ | refine ⟨(by (unfold drawOk; kernel_rfl)), ?_⟩))
      refine callE_p hS ?_
      simp -implicitDefEqProofs only [push_cast, rpv, rc, seval]
      (repeat (first | refine ⟨(by omega : _ ≤ _), ?_⟩ | refine ⟨(by omega : _ < _), ?_⟩ | refine ⟨(by simp; omega), ?_⟩ | refine ⟨(by simp; done), ?_⟩ | refine ⟨(by (unfold drawOk; kernel_rfl)), ?_⟩))
      refine callE_p s1 ?_
      simp -implicitDefEqProofs only [push_cast, rpv, rc, seval]
      (repeat (first | refine ⟨(by omega : _ ≤ _), ?_⟩ | refine ⟨(by omega : _ < _), ?_⟩ | refine ⟨(by simp; omega), ?_⟩ | refine ⟨(by simp; done), ?_⟩ | refine ⟨(by (unfold drawOk; kernel_rfl)), ?_⟩))
      refine callE_p s2 ?_
      simp -implicitDefEqProofs only [push_cast, c1, c2, z4, rpv, rc, seval]
      (repeat (first | refine ⟨(by omega : _ ≤ _), ?_⟩ | refine ⟨(by omega : _ < _), ?_⟩ | refine ⟨(by simp; omega), ?_⟩ | refine ⟨(by simp; done), ?_⟩ | refine ⟨(by (unfold drawOk; kernel_rfl)), ?_⟩))
      all_goals (first | done | rfl | exact ⟨_, rfl, by simp [wkL, res2, res1, PV.weak, PV.el, rpv, rc]⟩ | (simp [wkL, res2, res1, PV.weak, PV.el, rpv, rc]; done))
    | false =>
      rw [if_neg (by simp at c1 c2; omega)]
      (refine Fsp.ofs (nx := 0) mixed Tryd.func8 rfl (by simp [Tryd.f8]) ?_; simp -implicitDefEqProofs only [push_cast, Tryd.f8, rpv, rc, seval])
      (repeat (first | refine ⟨(by omega : _ ≤ _), ?_⟩ | refine ⟨(by omega : _ < _), ?_⟩ | refine ⟨(by simp; omega), ?_⟩ | refine ⟨(by simp; done), ?_⟩ | refine ⟨(by (unfold drawOk; kernel_rfl)), ?_⟩))
      refine callE_p hS ?_
      simp -implicitDefEqProofs only [push_cast, rpv, rc, seval]
      (repeat (first | refine ⟨(by omega : _ ≤ _), ?_⟩ | refine ⟨(by omega : _ < _), ?_⟩ | refine ⟨(by simp; omega), ?_⟩ | refine ⟨(by simp; done), ?_⟩ | refine ⟨(by (unfold drawOk; kernel_rfl)), ?_⟩))
      refine callE_p s1 ?_
      simp -implicitDefEqProofs only [push_cast, rpv, rc, seval]
      (repeat (first | refine ⟨(by omega : _ ≤ _), ?_⟩ | refine ⟨(by omega : _ < _), ?_⟩ | refine ⟨(by simp; omega), ?_⟩ | refine ⟨(by simp; done), ?_⟩ | refine ⟨(by (unfold drawOk; kernel_rfl)), ?_⟩))
      refine callE_p s2 ?_
      simp -implicitDefEqProofs only [push_cast, c1, c2, rpv, rc, seval]
      (repeat (first | refine ⟨(by omega : _ ≤ _), ?_⟩ | refine ⟨(by omega : _ < _), ?_⟩ | refine ⟨(by simp; omega), ?_⟩ | refine ⟨(by simp; done), ?_⟩ | refine ⟨(by (unfold drawOk; kernel_rfl)), ?_⟩))
      all_goals (first | done | rfl | exact ⟨_, rfl, by simp [wkL, res2, res1, PV.weak, PV.el, rpv, rc]⟩ | (simp [wkL, res2, res1, PV.weak, PV.el, rpv, rc]; done))
end Go.Proofs.Sh

/- TopGravity: the example at its beginning (gravityAwake). -/
set_option maxRecDepth 100000
set_option linter.unusedSimpArgs false
set_option linter.unusedVariables false
namespace Go.Proofs.Sh
open Go.Pv
open Rg
/-- One rectangle is a region. -/
theorem one_reg {c : Rt} (h : cntB c = true) : Reg [c] := by
  have p := cnt_pos h
  refine ⟨[⟨c.y, c.y + c.h, [(c.x, c.x + c.w)]⟩], ⟨by simp only; omega, by simp, ⟨by simp only; omega, fun t ht => (by cases ht), trivial⟩, fun d hd => (by cases hd), fun d hd => (by cases hd), trivial⟩, ?_⟩
  obtain ⟨x, y, w, h'⟩ := c
  rw [flat_one]
  show _ = [(⟨x, y, x + w - x, y + h' - y⟩ : Rt)]
  rw [show x + w - x = w by omega, show y + h' - y = h' by omega]
theorem one_bnd {c : Rt} (h : cntB c = true) : Bnd [c] := fun r hr => by rw [List.mem_singleton] at hr; rw [hr]; exact h
theorem on_one {c : Rt} (h : cntB c = true) : on c = [c] := by
  unfold on
  rw [show cntL [c] = [c] from List.filter_eq_self.2 fun r hr => by rw [List.mem_singleton] at hr; rw [hr]; exact h]
  exact (one_reg h).eq
theorem on_none {c : Rt} (h : cntB c = false) : on c = [] := by
  unfold on
  rw [show cntL [c] = [] from List.filter_eq_nil_iff.2 fun r hr => by rw [List.mem_singleton] at hr; rw [hr, h]; decide]
  exact Reg.nil.eq
theorem of_on (c : Rt) (hc : RtIn c) : Fsp Tryd.prog 7 [] 0 [.sl 4 [rpv c]] [] 0 (rgn (on c)) := of_fs [c] (fun r hr => by rw [List.mem_singleton] at hr; rw [hr]; exact hc) (by simp)
theorem of_none : Fsp Tryd.prog 7 [] 0 [.sl 4 []] [] 0 (rgn []) := by
  have := of_fs [] (fun r hr => by cases hr) (by decide)
  rw [show cntL [] = [] from rfl, Reg.nil.eq] at this
  exact this
def tthinQ (c : Rt) : PS := { n := 36, env := [(5, .slb 1 0 1 4), (4, .box 0 0)], objs := [(0, some [.nilsl]), (1, some (rcs [c]))], live := [], nxt := 6 }
def tthinP (c : Rt) : PS := { n := 36, env := [(5, .sl 4 (rts [c])), (4, .box 0 0)], objs := [(0, some [.nilsl])], live := [], nxt := 6 }
theorem tthin_wk (c : Rt) : Wk 0 (tthinQ c) (tthinP c) := by
  have h2 : 0 + 1 * 4 ≤ (rcs [c]).length := by rw [rcs_length]; exact Nat.le_refl _
  have f3 : slOr 4 (chunk 4 1 (rcs [c])) = .sl 4 (rts [c]) := frzR (L := [c]) (by simp)
  refine Wk.trans (Wk.frz (id := 1) (ps := rcs [c]) (by simp [tthinQ, PS.obj, lkp_hit, lkp_miss]) (Nat.zero_le _)) ?_
  simp only [tthinQ, PS.frz, frEnv, frObjs, List.map_cons, List.map_nil, Option.map_some, fz_box _ _ _ _ (show (0 : Nat) ≠ 1 by decide), f1_nilsl, fz_slb _ _ _ _ h2, List.drop_zero, f3]
  (simp only [tthinP]; exact Wk.by _ _ _ [(0,0)] [] [] (by simp) (by simp [wkV, PV.el, PV.weak, PS.get, PS.obj, PS.lv, lkp_hit, lkp_miss, lkp_nil, lko, wkL, wkC, res1, rcs_wk, ics_wk]) (by simp [PS.get, PS.obj, PS.lv, lkp_hit, lkp_miss, lkp_nil, lko, wkL, wkC, PV.weak, wkL, wkC, res1, rcs_wk, ics_wk]) (by simp [PS.get, PS.obj, PS.lv, lkp_hit, lkp_miss, lkp_nil, lko]) (by rfl) (by rfl) (by simp [lko]) (by simp) (by simp) (by simp) (fun i hi => by rcases i with _ | _ | _ | _ | _ | _ | i <;> first | rfl | (exfalso; omega)))
def tthinT (f : Func) : Code := tailN 2 (f.body.getD .skip)
theorem tthinT_fs (c : Rt) (hc : RtIn c) : PWP Tryd.prog 0 (tthinT Tryd.f35) (retQ Tryd.prog 0 Tryd.f35.results.toList [] 0 (rgn (on c))) (tthinP c) := by
  have hO := of_on c hc
  generalize on c = X at *
  simp only [tthinT, Tryd.f35, Option.getD_some, tailN, tthinP]
  refine VC_sound mixed ?_
  simp -implicitDefEqProofs only [push_cast, rts, List.map_cons, List.map_nil, seval]
  refine callE_p hO ?_
  simp -implicitDefEqProofs only [push_cast, rgn, seval]
def tturnQ (c : Rt) : PS := { n := 30, env := [(3, .slb 1 0 1 4), (2, .box 0 0)], objs := [(0, some [.nilsl]), (1, some (rcs [c]))], live := [], nxt := 6 }
def tturnP (c : Rt) : PS := { n := 30, env := [(3, .sl 4 (rts [c])), (2, .box 0 0)], objs := [(0, some [.nilsl])], live := [], nxt := 6 }
theorem tturn_wk (c : Rt) : Wk 0 (tturnQ c) (tturnP c) := by
  have h2 : 0 + 1 * 4 ≤ (rcs [c]).length := by rw [rcs_length]; exact Nat.le_refl _
  have f3 : slOr 4 (chunk 4 1 (rcs [c])) = .sl 4 (rts [c]) := frzR (L := [c]) (by simp)
  refine Wk.trans (Wk.frz (id := 1) (ps := rcs [c]) (by simp [tturnQ, PS.obj, lkp_hit, lkp_miss]) (Nat.zero_le _)) ?_
  simp only [tturnQ, PS.frz, frEnv, frObjs, List.map_cons, List.map_nil, Option.map_some, fz_box _ _ _ _ (show (0 : Nat) ≠ 1 by decide), f1_nilsl, fz_slb _ _ _ _ h2, List.drop_zero, f3]
  (simp only [tturnP]; exact Wk.by _ _ _ [(0,0)] [] [] (by simp) (by simp [wkV, PV.el, PV.weak, PS.get, PS.obj, PS.lv, lkp_hit, lkp_miss, lkp_nil, lko, wkL, wkC, res1, rcs_wk, ics_wk]) (by simp [PS.get, PS.obj, PS.lv, lkp_hit, lkp_miss, lkp_nil, lko, wkL, wkC, PV.weak, wkL, wkC, res1, rcs_wk, ics_wk]) (by simp [PS.get, PS.obj, PS.lv, lkp_hit, lkp_miss, lkp_nil, lko]) (by rfl) (by rfl) (by simp [lko]) (by simp) (by simp) (by simp) (fun i hi => by rcases i with _ | _ | _ | _ | _ | _ | i <;> first | rfl | (exfalso; omega)))
def tturnT (f : Func) : Code := tailN 2 (f.body.getD .skip)
theorem tturnT_fs (c : Rt) (hc : RtIn c) : PWP Tryd.prog 0 (tturnT Tryd.f54) (retQ Tryd.prog 0 Tryd.f54.results.toList [] 0 (rgn (on c))) (tturnP c) := by
  have hO := of_on c hc
  generalize on c = X at *
  simp only [tturnT, Tryd.f54, Option.getD_some, tailN, tturnP]
  refine VC_sound mixed ?_
  simp -implicitDefEqProofs only [push_cast, rts, List.map_cons, List.map_nil, seval]
  refine callE_p hO ?_
  simp -implicitDefEqProofs only [push_cast, rgn, seval]
theorem thin_fs (c : Rt) (h : cntB c = true) (hb : c.w ≤ 100) : Fsp Tryd.prog 35 [] 0 [rgn [c], .int .i64 1] [] 0 (rgn (on ⟨c.x + 1, c.y, c.w - 2, c.h⟩)) := by
  have p := cnt_pos h
  have hR := rects_w [c] (by simp) (by simp)
  have w1 : IntKind.i64.wrap (c.x + 1) = c.x + 1 := wrap_i64_id (by omega) (by omega)
  have w2 : IntKind.i64.wrap (c.w - 2) = c.w - 2 := wrap_i64_id (by omega) (by omega)
  have hend := tthinT_fs ⟨c.x + 1, c.y, c.w - 2, c.h⟩ ⟨⟨by simp only; omega, by simp only; omega⟩, ⟨by simp only; omega, by simp only; omega⟩, ⟨by simp only; omega, by simp only; omega⟩, ⟨by simp only; omega, by simp only; omega⟩⟩
  refine Fsp.of' (nx := 0) mixed Tryd.func35 rfl (by decide) (by exact Nat.le_refl _) (by simp [Tryd.f35]) ⟨by decide, by decide⟩ ?_
  refine PWP.cutV mixed 2 ?_
  have e : ∀ c, Tryd.f35.body = some c → tailN 2 c = tthinT Tryd.f35 := fun c hc => by unfold tthinT; rw [hc]; rfl
  rw [e _ rfl]
  clear e
  show VC Tryd.prog 0 _ (seqK (PWP Tryd.prog 0 (tthinT Tryd.f35)) (retQ Tryd.prog 0 Tryd.f35.results.toList [] 0 (rgn (on ⟨c.x + 1, c.y, c.w - 2, c.h⟩)))) _
  have key : ∀ S, Wk 0 S (tthinQ ⟨c.x + 1, c.y, c.w - 2, c.h⟩) → seqK (PWP Tryd.prog 0 (tthinT Tryd.f35)) (retQ Tryd.prog 0 Tryd.f35.results.toList [] 0 (rgn (on ⟨c.x + 1, c.y, c.w - 2, c.h⟩))) .normal S := fun S hw => PWP.weak (Wk.trans hw (tthin_wk _)) hend
  clear hend
  generalize seqK (PWP Tryd.prog 0 (tthinT Tryd.f35)) (retQ Tryd.prog 0 Tryd.f35.results.toList [] 0 (rgn (on ⟨c.x + 1, c.y, c.w - 2, c.h⟩))) = Q2 at *
  have hrc : rcs [c] = [.int .i64 c.x, .int .i64 c.y, .int .i64 c.w, .int .i64 c.h] := rfl
  rw [hrc] at hR
  simp -implicitDefEqProofs only [push_cast, Tryd.f35, headN, rgn, rts, rpv, rc, List.map_cons, List.map_nil, seval]
  (repeat (first | refine ⟨(by omega : _ ≤ _), ?_⟩ | refine ⟨(by omega : _ < _), ?_⟩ | refine ⟨by (unfold drawOk; kernel_rfl), ?_⟩ | refine ⟨(by simp; done), ?_⟩ | refine ⟨(by simp; omega), ?_⟩))
  refine callE_new hR (by rfl) (by rfl) (by rfl) (by first | decide | simp) (by first | decide | simp) (by rfl) (by simp [tokLt1]) (fun _ => by rfl) (by first | rfl | simp [gdOk, newToks]) ?_
  simp -implicitDefEqProofs only [push_cast, zipB, upto, List.cons_append, List.nil_append, List.length_cons, List.length_nil, PV.back1, PV.weak, seval]
  refine loopC_un 2 ?_
  simp -implicitDefEqProofs only [push_cast, w1, w2, seval]
  (repeat (first | refine ⟨(by omega : _ ≤ _), ?_⟩ | refine ⟨(by omega : _ < _), ?_⟩ | refine ⟨(by simp; omega), ?_⟩ | refine ⟨(by simp; done), ?_⟩ | refine ⟨(by (unfold drawOk; kernel_rfl)), ?_⟩))
  refine key _ ?_
  have hC : rcs [⟨c.x + 1, c.y, c.w - 2, c.h⟩] = [.int .i64 (c.x + 1), .int .i64 c.y, .int .i64 (c.w - 2), .int .i64 c.h] := rfl
  (simp only [tthinQ]; exact Wk.by _ _ _ [(0,4),(1,12)] [] [] (by simp) (by simp [wkV, PV.el, PV.weak, PS.get, PS.obj, PS.lv, lkp_hit, lkp_miss, lkp_nil, lko, wkL, wkC, res1, rcs_wk, ics_wk, hC]) (by simp [PS.get, PS.obj, PS.lv, lkp_hit, lkp_miss, lkp_nil, lko, wkL, wkC, PV.weak, wkL, wkC, res1, rcs_wk, ics_wk, hC]) (by simp [PS.get, PS.obj, PS.lv, lkp_hit, lkp_miss, lkp_nil, lko]) (by rfl) (by rfl) (by simp [lko]) (by simp) (by simp) (by simp) (fun i hi => by rcases i with _ | _ | _ | _ | _ | _ | i <;> first | rfl | (exfalso; omega)))
theorem turn_fs (c : Rt) (h : cntB c = true) : Fsp Tryd.prog 54 [] 0 [rgn [c]] [] 0 (rgn (on ⟨c.y, c.x, c.h, c.w⟩)) := by
  have p := cnt_pos h
  have hR := rects_w [c] (by simp) (by simp)
  have hend := tturnT_fs ⟨c.y, c.x, c.h, c.w⟩ ⟨⟨by simp only; omega, by simp only; omega⟩, ⟨by simp only; omega, by simp only; omega⟩, ⟨by simp only; omega, by simp only; omega⟩, ⟨by simp only; omega, by simp only; omega⟩⟩
  refine Fsp.of' (nx := 0) mixed Tryd.func54 rfl (by decide) (by exact Nat.le_refl _) (by simp [Tryd.f54]) ⟨by decide, by decide⟩ ?_
  refine PWP.cutV mixed 2 ?_
  have e : ∀ c, Tryd.f54.body = some c → tailN 2 c = tturnT Tryd.f54 := fun c hc => by unfold tturnT; rw [hc]; rfl
  rw [e _ rfl]
  clear e
  show VC Tryd.prog 0 _ (seqK (PWP Tryd.prog 0 (tturnT Tryd.f54)) (retQ Tryd.prog 0 Tryd.f54.results.toList [] 0 (rgn (on ⟨c.y, c.x, c.h, c.w⟩)))) _
  have key : ∀ S, Wk 0 S (tturnQ ⟨c.y, c.x, c.h, c.w⟩) → seqK (PWP Tryd.prog 0 (tturnT Tryd.f54)) (retQ Tryd.prog 0 Tryd.f54.results.toList [] 0 (rgn (on ⟨c.y, c.x, c.h, c.w⟩))) .normal S := fun S hw => PWP.weak (Wk.trans hw (tturn_wk _)) hend
  clear hend
  generalize seqK (PWP Tryd.prog 0 (tturnT Tryd.f54)) (retQ Tryd.prog 0 Tryd.f54.results.toList [] 0 (rgn (on ⟨c.y, c.x, c.h, c.w⟩))) = Q2 at *
  have hrc : rcs [c] = [.int .i64 c.x, .int .i64 c.y, .int .i64 c.w, .int .i64 c.h] := rfl
  rw [hrc] at hR
  simp -implicitDefEqProofs only [push_cast, Tryd.f54, headN, rgn, rts, rpv, rc, List.map_cons, List.map_nil, seval]
  (repeat (first | refine ⟨(by omega : _ ≤ _), ?_⟩ | refine ⟨(by omega : _ < _), ?_⟩ | refine ⟨by (unfold drawOk; kernel_rfl), ?_⟩ | refine ⟨(by simp; done), ?_⟩ | refine ⟨(by simp; omega), ?_⟩))
  refine callE_new hR (by rfl) (by rfl) (by rfl) (by first | decide | simp) (by first | decide | simp) (by rfl) (by simp [tokLt1]) (fun _ => by rfl) (by first | rfl | simp [gdOk, newToks]) ?_
  simp -implicitDefEqProofs only [push_cast, zipB, upto, List.cons_append, List.nil_append, List.length_cons, List.length_nil, PV.back1, PV.weak, seval]
  refine loopC_un 2 ?_
  simp -implicitDefEqProofs only [push_cast, seval]
  (repeat (first | refine ⟨(by omega : _ ≤ _), ?_⟩ | refine ⟨(by omega : _ < _), ?_⟩ | refine ⟨(by simp; omega), ?_⟩ | refine ⟨(by simp; done), ?_⟩ | refine ⟨(by (unfold drawOk; kernel_rfl)), ?_⟩))
  refine key _ ?_
  have hC : rcs [⟨c.y, c.x, c.h, c.w⟩] = [.int .i64 c.y, .int .i64 c.x, .int .i64 c.h, .int .i64 c.w] := rfl
  (simp only [tturnQ]; exact Wk.by _ _ _ [(0,4),(1,12)] [] [] (by simp) (by simp [wkV, PV.el, PV.weak, PS.get, PS.obj, PS.lv, lkp_hit, lkp_miss, lkp_nil, lko, wkL, wkC, res1, rcs_wk, ics_wk, hC]) (by simp [PS.get, PS.obj, PS.lv, lkp_hit, lkp_miss, lkp_nil, lko, wkL, wkC, PV.weak, wkL, wkC, res1, rcs_wk, ics_wk, hC]) (by simp [PS.get, PS.obj, PS.lv, lkp_hit, lkp_miss, lkp_nil, lko]) (by rfl) (by rfl) (by simp [lko]) (by simp) (by simp) (by simp) (fun i hi => by rcases i with _ | _ | _ | _ | _ | _ | i <;> first | rfl | (exfalso; omega)))
theorem turn0_fs : Fsp Tryd.prog 54 [] 0 [rgn []] [] 0 (rgn []) := by
  have hR := rects_e
  have hO := of_none
  (refine Fsp.ofs (nx := 0) mixed Tryd.func54 rfl (by simp [Tryd.f54]) ?_; simp -implicitDefEqProofs only [push_cast, Tryd.f54, rgn, rts, List.map_nil, seval])
  (repeat (first | refine ⟨(by omega : _ ≤ _), ?_⟩ | refine ⟨(by omega : _ < _), ?_⟩ | refine ⟨by (unfold drawOk; kernel_rfl), ?_⟩ | refine ⟨(by simp; done), ?_⟩ | refine ⟨(by simp; omega), ?_⟩))
  refine callE_p hR ?_
  simp -implicitDefEqProofs only [push_cast, seval]
  refine loopC_un 1 ?_
  simp -implicitDefEqProofs only [push_cast, seval]
  refine callE_p hO ?_
  simp -implicitDefEqProofs only [push_cast, rgn, rts, List.map_nil, seval]
theorem low1_fs (c : Rt) (h : cntB c = true) (h1 : c.w = 1) (h2 : c.h = 1) : Fsp Tryd.prog 36 [] 0 [rgn [c], .int .i64 1] [] 0 (rgn []) := by
  have p := cnt_pos h
  have hc2 : cntB ⟨c.y, c.x, c.h, c.w⟩ = true := by unfold cntB; rw [Bool.and_eq_true, fit_iff, fit_iff]; simp only; omega
  have t1 := turn_fs c h
  rw [on_one hc2] at t1
  have t2 := thin_fs ⟨c.y, c.x, c.h, c.w⟩ hc2 (by simp only; omega)
  rw [on_none (by unfold cntB fitB; simp; omega)] at t2
  have t3 := turn0_fs
  (refine Fsp.ofs (nx := 0) mixed Tryd.func36 rfl (by simp [Tryd.f36]) ?_; simp -implicitDefEqProofs only [push_cast, Tryd.f36, rgn, rts, List.map_cons, List.map_nil, rpv, rc, seval])
  (repeat (first | refine ⟨(by omega : _ ≤ _), ?_⟩ | refine ⟨(by omega : _ < _), ?_⟩ | refine ⟨by (unfold drawOk; kernel_rfl), ?_⟩ | refine ⟨(by simp; done), ?_⟩ | refine ⟨(by simp; omega), ?_⟩))
  refine callE_p t1 ?_
  simp -implicitDefEqProofs only [push_cast, rgn, rts, List.map_cons, List.map_nil, rpv, rc, seval]
  refine callE_p t2 ?_
  simp -implicitDefEqProofs only [push_cast, rgn, rts, List.map_nil, seval]
  refine callE_p t3 ?_
  simp -implicitDefEqProofs only [push_cast, rgn, rts, List.map_nil, seval]
theorem hasL_nil (p q : Int) : ¬ hasL [] p q := fun ⟨r, hr, _⟩ => by cases hr
theorem bnd_nil : Bnd [] := fun r hr => by cases hr
theorem edge1_fs (c : Rt) (h : cntB c = true) (h1 : c.w = 1) (h2 : c.h = 1) : Fsp Tryd.prog 14 [] 0 [rgn [c]] [] 0 (rgn [c]) := by
  have p := cnt_pos h
  have t1 := thin_fs c h (by omega)
  rw [on_none (by unfold cntB fitB; simp; omega)] at t1
  have t2 := low1_fs c h h1 h2
  have t3 := meet_fs [] [] Reg.nil Reg.nil bnd_nil bnd_nil (by decide) (by decide)
  have e3 : mt [] [] = [] := (mt_reg Reg.nil Reg.nil bnd_nil bnd_nil).ext Reg.nil fun p q => by rw [mt_has Reg.nil Reg.nil bnd_nil bnd_nil]; exact ⟨fun h => h.1, fun h => ⟨h, h⟩⟩
  rw [e3] at t3
  have t4 := minus_fs [c] [] (one_reg h) Reg.nil (one_bnd h) bnd_nil (by simp) (by decide)
  have e4 : mn [c] [] = [c] := (mn_reg (one_reg h) Reg.nil (one_bnd h) bnd_nil).ext (one_reg h) fun p q => by rw [mn_has (one_reg h) Reg.nil (one_bnd h) bnd_nil]; exact ⟨fun h => h.1, fun h => ⟨h, hasL_nil p q⟩⟩
  rw [e4] at t4
  (refine Fsp.ofs (nx := 0) mixed Tryd.func14 rfl (by simp [Tryd.f14]) ?_; simp -implicitDefEqProofs only [push_cast, Tryd.f14, rgn, rts, List.map_cons, List.map_nil, rpv, rc, seval])
  (repeat (first | refine ⟨(by omega : _ ≤ _), ?_⟩ | refine ⟨(by omega : _ < _), ?_⟩ | refine ⟨(by simp; omega), ?_⟩ | refine ⟨(by simp; done), ?_⟩ | refine ⟨(by (unfold drawOk; kernel_rfl)), ?_⟩))
  refine callE_p t1 ?_
  simp -implicitDefEqProofs only [push_cast, rgn, rts, List.map_cons, List.map_nil, rpv, rc, seval]
  refine callE_p t2 ?_
  simp -implicitDefEqProofs only [push_cast, rgn, rts, List.map_nil, seval]
  refine callE_p t3 ?_
  simp -implicitDefEqProofs only [push_cast, rgn, rts, List.map_nil, seval]
  (repeat (first | refine ⟨(by omega : _ ≤ _), ?_⟩ | refine ⟨(by omega : _ < _), ?_⟩ | refine ⟨(by simp; omega), ?_⟩ | refine ⟨(by simp; done), ?_⟩ | refine ⟨(by (unfold drawOk; kernel_rfl)), ?_⟩))
  refine callE_p t4 ?_
  simp -implicitDefEqProofs only [push_cast, rgn, rts, List.map_cons, List.map_nil, rpv, rc, seval]
  unfold drawOk; kernel_rfl
theorem awake_fs : Fsp Tryd.prog 4 [] 0 [] [] 0 (.bool true) := by
  have k1 : cntB ⟨3, 0, 1, 1⟩ = true := by decide
  have k2 : cntB ⟨5, 0, 1, 1⟩ = true := by decide
  have k3 : cntB ⟨2, 0, 4, 1⟩ = true := by decide
  have t1 := of_on ⟨3, 0, 1, 1⟩ (cnt_in k1)
  rw [on_one k1] at t1
  have t2 := kept_fs 6 (by decide) (by decide) ⟨0, 0, 4, 1⟩ ⟨0, 0, 6, 1⟩ (by unfold Sml; decide) (by unfold Sml; decide)
  rw [show gP1 6 ⟨0, 0, 4, 1⟩ ⟨0, 0, 6, 1⟩ = 2 by decide, show gP2 6 ⟨0, 0, 4, 1⟩ ⟨0, 0, 6, 1⟩ = 0 by decide, show kR 6 ⟨0, 0, 4, 1⟩ ⟨0, 0, 6, 1⟩ = ⟨2, 0, 4, 1⟩ by decide] at t2
  have t3 := shift_fs [⟨3, 0, 1, 1⟩] 2 0 (one_bnd k1) (by decide) (by decide) (by decide)
  rw [show Rg.cn (hasL (cntL ([(⟨3, 0, 1, 1⟩ : Rt)].map (shR 2 0)))) = on ⟨5, 0, 1, 1⟩ by rw [show ([(⟨3, 0, 1, 1⟩ : Rt)].map (shR 2 0)) = [⟨5, 0, 1, 1⟩] by decide]; rfl, on_one k2] at t3
  have t4 := within_fs [⟨5, 0, 1, 1⟩] ⟨2, 0, 4, 1⟩ (one_reg k2) (one_bnd k2) (by decide) (cnt_in k3)
  have e4 : mt [⟨5, 0, 1, 1⟩] (on ⟨2, 0, 4, 1⟩) = [⟨5, 0, 1, 1⟩] := by
    rw [on_one k3]
    refine (mt_reg (one_reg k2) (one_reg k3) (one_bnd k2) (one_bnd k3)).ext (one_reg k2) fun p q => ?_
    rw [mt_has (one_reg k2) (one_reg k3) (one_bnd k2) (one_bnd k3)]
    refine ⟨fun h => h.1, fun h => ⟨h, ?_⟩⟩
    obtain ⟨r, hr, a1, a2, a3, a4⟩ := h
    rw [List.mem_singleton] at hr
    subst hr
    simp only at a1 a2 a3 a4
    exact ⟨_, List.mem_singleton.2 rfl, by simp only; omega, by simp only; omega, by simp only; omega, by simp only; omega⟩
  rw [e4] at t4
  have t5 := has_fs [⟨5, 0, 1, 1⟩] (one_bnd k2) (by decide) 5 0
  rw [show hasF 5 0 [⟨5, 0, 1, 1⟩] = true by decide] at t5
  have t6 := area_fs [⟨5, 0, 1, 1⟩] (one_bnd k2) (by decide)
  rw [show areaL [⟨5, 0, 1, 1⟩] = 1 by decide] at t6
  have t7 := edge1_fs ⟨3, 0, 1, 1⟩ k1 rfl rfl
  have t8 := area_fs [⟨3, 0, 1, 1⟩] (one_bnd k1) (by decide)
  rw [show areaL [⟨3, 0, 1, 1⟩] = 1 by decide] at t8
  (refine Fsp.ofs (nx := 0) mixed Tryd.func4 rfl (by simp [Tryd.f4]) ?_; simp -implicitDefEqProofs only [push_cast, Tryd.f4, seval])
  refine callE_p t1 ?_
  simp -implicitDefEqProofs only [push_cast, rgn, rts, List.map_cons, List.map_nil, rpv, rc, seval]
  (repeat (first | refine ⟨(by omega : _ ≤ _), ?_⟩ | refine ⟨(by omega : _ < _), ?_⟩ | refine ⟨(by simp; omega), ?_⟩ | refine ⟨(by simp; done), ?_⟩ | refine ⟨(by (unfold drawOk; kernel_rfl)), ?_⟩))
  refine callE_p t2 ?_
  simp -implicitDefEqProofs only [push_cast, rpv, rc, seval]
  (repeat (first | refine ⟨(by omega : _ ≤ _), ?_⟩ | refine ⟨(by omega : _ < _), ?_⟩ | refine ⟨(by simp; omega), ?_⟩ | refine ⟨(by simp; done), ?_⟩ | refine ⟨(by (unfold drawOk; kernel_rfl)), ?_⟩))
  refine callE_p t3 ?_
  simp -implicitDefEqProofs only [push_cast, rgn, rts, List.map_cons, List.map_nil, rpv, rc, seval]
  (repeat (first | refine ⟨(by omega : _ ≤ _), ?_⟩ | refine ⟨(by omega : _ < _), ?_⟩ | refine ⟨(by simp; omega), ?_⟩ | refine ⟨(by simp; done), ?_⟩ | refine ⟨(by (unfold drawOk; kernel_rfl)), ?_⟩))
  refine callE_p t4 ?_
  simp -implicitDefEqProofs only [push_cast, rgn, rts, List.map_cons, List.map_nil, rpv, rc, seval]
  (repeat (first | refine ⟨(by omega : _ ≤ _), ?_⟩ | refine ⟨(by omega : _ < _), ?_⟩ | refine ⟨(by simp; omega), ?_⟩ | refine ⟨(by simp; done), ?_⟩ | refine ⟨(by (unfold drawOk; kernel_rfl)), ?_⟩))
  refine callE_p t5 ?_
  simp -implicitDefEqProofs only [push_cast, rgn, rts, List.map_cons, List.map_nil, rpv, rc, seval]
  refine callE_p t6 ?_
  simp -implicitDefEqProofs only [push_cast, rgn, rts, List.map_cons, List.map_nil, rpv, rc, seval]
  refine callE_p t7 ?_
  simp -implicitDefEqProofs only [push_cast, rgn, rts, List.map_cons, List.map_nil, rpv, rc, seval]
  refine callE_p t8 ?_
  simp -implicitDefEqProofs only [push_cast, seval]
  all_goals (first | done | rfl | exact ⟨_, rfl, by simp [wkL, res2, res1, PV.weak, PV.el]⟩ | (simp [wkL, res2, res1, PV.weak, PV.el]; done))
end Go.Proofs.Sh
