/- Packages rect, region: what a rectangle is worth; all places of two, places of one of two. -/
import Derived.Test.YtbjeagcnakdmnaaPvYa
import Derived.Test.YtbjeagcnakdmnaaGrA
import Derived.Test.YtbjeagcnakdmnaaPvXg
set_option maxRecDepth 100000
set_option linter.unusedSimpArgs false
set_option linter.unusedVariables false
namespace Go.Proofs.Sh
open Go.Pv
open Rg
theorem rfits_fs (a n : Int) (ha : -1048576 ≤ a) (hn : 0 < n) (h : n ≤ 1048576 - a) (ha2 : a ≤ 1048576) : Fsp Try.prog 75 [] 0 [.int .i64 a, .int .i64 n] [] 0 (.bool true) := by
  have c1 : decide (-1048576 ≤ a) = true := by simpa using ha
  have c2 : decide ((1 : Int) ≤ n) = true := by simp; omega
  have hw : IntKind.i64.wrap (1048576 - a) = 1048576 - a := wrap_i64_id (by omega) (by omega)
  have c3 : decide (n ≤ 1048576 - a) = true := by simpa using h
  (refine Fsp.ofs (nx := 0) mixed Try.func75 rfl (by simp [Try.f75]) ?_; simp -implicitDefEqProofs only [push_cast, Try.f75, ge_iff_le, c1, c2, hw, c3, seval])
  (repeat (first | refine ⟨(by omega : _ ≤ _), ?_⟩ | refine ⟨(by omega : _ < _), ?_⟩ | refine ⟨by (unfold drawOk; kernel_rfl), ?_⟩ | refine ⟨(by simp; done), ?_⟩ | refine ⟨(by simp; omega), ?_⟩))
  all_goals (first | done | rfl | exact ⟨_, rfl, by simp [wkL, res2, res1, PV.weak, PV.el]⟩ | (simp [wkL, res2, res1, PV.weak, PV.el]; done))
def z4 : Rt := ⟨0, 0, 0, 0⟩
theorem z4_in : RtIn z4 := ⟨⟨by decide, by decide⟩, ⟨by decide, by decide⟩, ⟨by decide, by decide⟩, ⟨by decide, by decide⟩⟩
theorem rcheck_fs (r : Rt) (h : cntB r = true) : Fsp Try.prog 63 [] 0 [rpv r] [] 0 (.int .i64 0) := by
  have p := cnt_pos h
  have f1 := rfits_fs r.x r.w (by omega) (by omega) (by omega) (by omega)
  have f2 := rfits_fs r.y r.h (by omega) (by omega) (by omega) (by omega)
  have hq := rect_eq r z4 (cnt_in h) z4_in
  rw [show decide (r = z4) = false from decide_eq_false (fun e => by rw [e] at p; exact absurd p.1 (by decide))] at hq
  simp only [rc, z4] at hq
  have hkt : Try.prog.keyTypeAt 12 41 = true := by kernel_rfl
  (refine Fsp.ofs (nx := 0) mixed Try.func63 rfl (by simp [Try.f63]) ?_; simp -implicitDefEqProofs only [push_cast, Try.f63, rpv, rc, hq, hkt, seval])
  (repeat (first | refine ⟨(by omega : _ ≤ _), ?_⟩ | refine ⟨(by omega : _ < _), ?_⟩ | refine ⟨(by simp; omega), ?_⟩ | refine ⟨(by simp; done), ?_⟩ | refine ⟨(by (unfold drawOk; kernel_rfl)), ?_⟩))
  refine callE_p f1 ?_
  simp -implicitDefEqProofs only [push_cast, seval]
  refine callE_p f2 ?_
  simp -implicitDefEqProofs only [push_cast, seval]
  (repeat (first | refine ⟨(by omega : _ ≤ _), ?_⟩ | refine ⟨(by omega : _ < _), ?_⟩ | refine ⟨(by simp; omega), ?_⟩ | refine ⟨(by simp; done), ?_⟩ | refine ⟨(by (unfold drawOk; kernel_rfl)), ?_⟩))
  all_goals (first | done | rfl | exact ⟨_, rfl, by simp [wkL, res2, res1, PV.weak, PV.el]⟩ | (simp [wkL, res2, res1, PV.weak, PV.el]; done))
theorem right_fs (r : Rt) (h : cntB r = true) : Fsp Try.prog 44 [] 0 [rpv r] [] 0 (rpv r) := by
  have f1 := rcheck_fs r h
  (refine Fsp.ofs (nx := 0) mixed Try.func44 rfl (by simp [Try.f44]) ?_; simp -implicitDefEqProofs only [push_cast, Try.f44, rpv, rc, seval])
  (repeat (first | refine ⟨(by omega : _ ≤ _), ?_⟩ | refine ⟨(by omega : _ < _), ?_⟩ | refine ⟨by (unfold drawOk; kernel_rfl), ?_⟩ | refine ⟨(by simp; done), ?_⟩ | refine ⟨(by simp; omega), ?_⟩))
  refine callE_p f1 ?_
  simp -implicitDefEqProofs only [push_cast, rpv, rc, seval]
  (repeat (first | refine ⟨(by omega : _ ≤ _), ?_⟩ | refine ⟨(by omega : _ < _), ?_⟩ | refine ⟨by (unfold drawOk; kernel_rfl), ?_⟩ | refine ⟨(by simp; done), ?_⟩ | refine ⟨(by simp; omega), ?_⟩))
theorem rempty_fs (r : Rt) (h : cntB r = true) : Fsp Try.prog 17 [] 0 [rpv r] [] 0 (.bool false) := by
  have p := cnt_pos h
  have f1 := right_fs r h
  have hq := rect_eq r z4 (cnt_in h) z4_in
  rw [show decide (r = z4) = false from decide_eq_false (fun e => by rw [e] at p; exact absurd p.1 (by decide))] at hq
  simp only [rc, z4] at hq
  have hkt : Try.prog.keyTypeAt 12 41 = true := by kernel_rfl
  (refine Fsp.ofs (nx := 0) mixed Try.func17 rfl (by simp [Try.f17]) ?_; simp -implicitDefEqProofs only [push_cast, Try.f17, rpv, rc, seval])
  (repeat (first | refine ⟨(by omega : _ ≤ _), ?_⟩ | refine ⟨(by omega : _ < _), ?_⟩ | refine ⟨by (unfold drawOk; kernel_rfl), ?_⟩ | refine ⟨(by simp; done), ?_⟩ | refine ⟨(by simp; omega), ?_⟩))
  refine callE_p f1 ?_
  simp -implicitDefEqProofs only [push_cast, rpv, rc, hq, hkt, seval]
  (repeat (first | refine ⟨(by omega : _ ≤ _), ?_⟩ | refine ⟨(by omega : _ < _), ?_⟩ | refine ⟨by (unfold drawOk; kernel_rfl), ?_⟩ | refine ⟨(by simp; done), ?_⟩ | refine ⟨(by simp; omega), ?_⟩))
  all_goals (first | done | rfl | exact ⟨_, rfl, by simp [wkL, res2, res1, PV.weak, PV.el]⟩ | (simp [wkL, res2, res1, PV.weak, PV.el]; done))
/-- One rectangle is a region. -/
theorem one_reg {c : Rt} (h : cntB c = true) : Reg [c] := by
  have p := cnt_pos h
  refine ⟨[⟨c.y, c.y + c.h, [(c.x, c.x + c.w)]⟩], ⟨by simp only; omega, by simp, ⟨by simp only; omega, fun t ht => (by cases ht), trivial⟩, fun d hd => (by cases hd), fun d hd => (by cases hd), trivial⟩, ?_⟩
  obtain ⟨x, y, w, h'⟩ := c
  rw [flat_one]
  show _ = [(⟨x, y, x + w - x, y + h' - y⟩ : Rt)]
  rw [show x + w - x = w by omega, show y + h' - y = h' by omega]
theorem one_bnd {c : Rt} (h : cntB c = true) : Bnd [c] := fun r hr => by rw [List.mem_singleton] at hr; rw [hr]; exact h
theorem on_one {c : Rt} (h : cntB c = true) : on c = [c] := by
  unfold on
  rw [show cntL [c] = [c] from List.filter_eq_self.2 fun r hr => by rw [List.mem_singleton] at hr; rw [hr]; exact h]
  exact (one_reg h).eq
theorem of_on (c : Rt) (hc : RtIn c) : Fsp Try.prog 5 [] 0 [.sl 4 [rpv c]] [] 0 (rgn (on c)) := of_fs [c] (fun r hr => by rw [List.mem_singleton] at hr; rw [hr]; exact hc) (by simp)
theorem hasL_nil (p q : Int) : ¬ hasL [] p q := fun ⟨r, hr, _⟩ => by cases hr
theorem rcheck0_fs : Fsp Try.prog 63 [] 0 [rpv z4] [] 0 (.int .i64 0) := by
  have hq := rect_eq z4 z4 z4_in z4_in
  rw [show decide (z4 = z4) = true from decide_eq_true rfl] at hq
  simp only [rc, z4] at hq
  have hkt : Try.prog.keyTypeAt 12 41 = true := by kernel_rfl
  (refine Fsp.ofs (nx := 0) mixed Try.func63 rfl (by simp [Try.f63]) ?_; simp -implicitDefEqProofs only [push_cast, Try.f63, rpv, rc, hq, hkt, z4, seval])
  (repeat (first | refine ⟨(by omega : _ ≤ _), ?_⟩ | refine ⟨(by omega : _ < _), ?_⟩ | refine ⟨(by simp; omega), ?_⟩ | refine ⟨(by simp; done), ?_⟩ | refine ⟨(by (unfold drawOk; kernel_rfl)), ?_⟩))
  refine ⟨{ p := .bool false, ok := True }, (fun h => by cases h), (by first | rfl | (unfold gdOk; rfl)), ?_⟩
  simp -implicitDefEqProofs only [push_cast, seval]
  refine callE_no ?_
  simp -implicitDefEqProofs only [push_cast, seval]
  all_goals (first | done | rfl | exact ⟨_, rfl, by simp [wkL, res2, res1, PV.weak, PV.el]⟩ | (simp [wkL, res2, res1, PV.weak, PV.el]; done))
theorem right0_fs : Fsp Try.prog 44 [] 0 [rpv z4] [] 0 (rpv z4) := by
  have f1 := rcheck0_fs
  (refine Fsp.ofs (nx := 0) mixed Try.func44 rfl (by simp [Try.f44]) ?_; simp -implicitDefEqProofs only [push_cast, Try.f44, rpv, rc, seval])
  (repeat (first | refine ⟨(by omega : _ ≤ _), ?_⟩ | refine ⟨(by omega : _ < _), ?_⟩ | refine ⟨by (unfold drawOk; kernel_rfl), ?_⟩ | refine ⟨(by simp; done), ?_⟩ | refine ⟨(by simp; omega), ?_⟩))
  refine callE_p f1 ?_
  simp -implicitDefEqProofs only [push_cast, rpv, rc, seval]
  (repeat (first | refine ⟨(by omega : _ ≤ _), ?_⟩ | refine ⟨(by omega : _ < _), ?_⟩ | refine ⟨by (unfold drawOk; kernel_rfl), ?_⟩ | refine ⟨(by simp; done), ?_⟩ | refine ⟨(by simp; omega), ?_⟩))
theorem rempty0_fs : Fsp Try.prog 17 [] 0 [rpv z4] [] 0 (.bool true) := by
  have f1 := right0_fs
  have hq := rect_eq z4 z4 z4_in z4_in
  rw [show decide (z4 = z4) = true from decide_eq_true rfl] at hq
  simp only [rc, z4] at hq
  have hkt : Try.prog.keyTypeAt 12 41 = true := by kernel_rfl
  simp only [z4] at f1
  (refine Fsp.ofs (nx := 0) mixed Try.func17 rfl (by simp [Try.f17]) ?_; simp -implicitDefEqProofs only [push_cast, Try.f17, rpv, rc, z4, seval])
  (repeat (first | refine ⟨(by omega : _ ≤ _), ?_⟩ | refine ⟨(by omega : _ < _), ?_⟩ | refine ⟨by (unfold drawOk; kernel_rfl), ?_⟩ | refine ⟨(by simp; done), ?_⟩ | refine ⟨(by simp; omega), ?_⟩))
  refine callE_p f1 ?_
  simp -implicitDefEqProofs only [push_cast, rpv, rc, hq, hkt, seval]
  (repeat (first | refine ⟨(by omega : _ ≤ _), ?_⟩ | refine ⟨(by omega : _ < _), ?_⟩ | refine ⟨by (unfold drawOk; kernel_rfl), ?_⟩ | refine ⟨(by simp; done), ?_⟩ | refine ⟨(by simp; omega), ?_⟩))
  all_goals (first | done | rfl | exact ⟨_, rfl, by simp [wkL, res2, res1, PV.weak, PV.el]⟩ | (simp [wkL, res2, res1, PV.weak, PV.el]; done))
theorem rarea_fs (r : Rt) (h : cntB r = true) : Fsp Try.prog 16 [] 0 [rpv r] [] 0 (.int .i64 (r.w * r.h)) := by
  have f1 := right_fs r h
  have p := cnt_pos h
  have p2 := mul_le p.1 p.2.1 p.2.2.1 p.2.2.2.1
  have w1 : IntKind.i64.wrap (r.w * r.h) = r.w * r.h := wrap_i64_id (by omega) (by omega)
  (refine Fsp.ofs (nx := 0) mixed Try.func16 rfl (by simp [Try.f16]) ?_; simp -implicitDefEqProofs only [push_cast, Try.f16, rpv, rc, seval])
  (repeat (first | refine ⟨(by omega : _ ≤ _), ?_⟩ | refine ⟨(by omega : _ < _), ?_⟩ | refine ⟨by (unfold drawOk; kernel_rfl), ?_⟩ | refine ⟨(by simp; done), ?_⟩ | refine ⟨(by simp; omega), ?_⟩))
  refine callE_p f1 ?_
  simp -implicitDefEqProofs only [push_cast, rpv, rc, w1, seval]
  (repeat (first | refine ⟨(by omega : _ ≤ _), ?_⟩ | refine ⟨(by omega : _ < _), ?_⟩ | refine ⟨by (unfold drawOk; kernel_rfl), ?_⟩ | refine ⟨(by simp; done), ?_⟩ | refine ⟨(by simp; omega), ?_⟩))
  all_goals (first | done | rfl | exact ⟨_, rfl, by simp [wkL, res2, res1, PV.weak, PV.el]⟩ | (simp [wkL, res2, res1, PV.weak, PV.el]; done))
def btw (x y r b : Int) : Rt := if r ≤ x ∨ b ≤ y then z4 else ⟨x, y, r - x, b - y⟩
theorem between_fs (x y r b : Int) (hx : -2097152 ≤ x ∧ x ≤ 2097152) (hy : -2097152 ≤ y ∧ y ≤ 2097152) (hr : -2097152 ≤ r ∧ r ≤ 2097152) (hb : -2097152 ≤ b ∧ b ≤ 2097152) : Fsp Try.prog 45 [] 0 [.int .i64 x, .int .i64 y, .int .i64 r, .int .i64 b] [] 0 (rpv (btw x y r b)) := by
  have w1 : IntKind.i64.wrap (r - x) = r - x := wrap_i64_id (by omega) (by omega)
  have w2 : IntKind.i64.wrap (b - y) = b - y := wrap_i64_id (by omega) (by omega)
  cases c1 : decide (r ≤ x) with
  | true =>
    rw [show btw x y r b = z4 from if_pos (.inl (by simpa using c1))]
    (refine Fsp.ofs (nx := 0) mixed Try.func45 rfl (by simp [Try.f45]) ?_; simp -implicitDefEqProofs only [push_cast, Try.f45, ge_iff_le, c1, rpv, rc, z4, seval])
    (repeat (first | refine ⟨(by omega : _ ≤ _), ?_⟩ | refine ⟨(by omega : _ < _), ?_⟩ | refine ⟨by (unfold drawOk; kernel_rfl), ?_⟩ | refine ⟨(by simp; done), ?_⟩ | refine ⟨(by simp; omega), ?_⟩))
  | false =>
    cases c2 : decide (b ≤ y) with
    | true =>
      rw [show btw x y r b = z4 from if_pos (.inr (by simpa using c2))]
      (refine Fsp.ofs (nx := 0) mixed Try.func45 rfl (by simp [Try.f45]) ?_; simp -implicitDefEqProofs only [push_cast, Try.f45, ge_iff_le, c1, c2, rpv, rc, z4, seval])
      (repeat (first | refine ⟨(by omega : _ ≤ _), ?_⟩ | refine ⟨(by omega : _ < _), ?_⟩ | refine ⟨by (unfold drawOk; kernel_rfl), ?_⟩ | refine ⟨(by simp; done), ?_⟩ | refine ⟨(by simp; omega), ?_⟩))
    | false =>
      rw [show btw x y r b = ⟨x, y, r - x, b - y⟩ from if_neg (by simp at c1 c2; omega)]
      (refine Fsp.ofs (nx := 0) mixed Try.func45 rfl (by simp [Try.f45]) ?_; simp -implicitDefEqProofs only [push_cast, Try.f45, ge_iff_le, c1, c2, w1, w2, rpv, rc, seval])
      (repeat (first | refine ⟨(by omega : _ ≤ _), ?_⟩ | refine ⟨(by omega : _ < _), ?_⟩ | refine ⟨by (unfold drawOk; kernel_rfl), ?_⟩ | refine ⟨(by simp; done), ?_⟩ | refine ⟨(by simp; omega), ?_⟩))
def DisR (r s : Rt) : Prop := ∀ p q, r.has p q → s.has p q → False
theorem mx_if (a b : Int) : (if a < b then b else a) = max a b := by rw [Int.max_def]; split <;> split <;> omega
theorem mi_if (a b : Int) : (if b < a then b else a) = min a b := by rw [Int.min_def]; split <;> split <;> omega
theorem cross_fs (a b : Rt) (ha : cntB a = true) (hb : cntB b = true) (hd : DisR a b) : Fsp Try.prog 18 [] 0 [rpv a, rpv b] [] 0 (rpv z4) := by
  have f1 := rempty_fs a ha
  have f2 := rempty_fs b hb
  have p := cnt_pos ha
  have q := cnt_pos hb
  have w1 : IntKind.i64.wrap (a.x + a.w) = a.x + a.w := wrap_i64_id (by omega) (by omega)
  have w2 : IntKind.i64.wrap (b.x + b.w) = b.x + b.w := wrap_i64_id (by omega) (by omega)
  have w3 : IntKind.i64.wrap (a.y + a.h) = a.y + a.h := wrap_i64_id (by omega) (by omega)
  have w4 : IntKind.i64.wrap (b.y + b.h) = b.y + b.h := wrap_i64_id (by omega) (by omega)
  have f3 := between_fs (max a.x b.x) (max a.y b.y) (min (a.x + a.w) (b.x + b.w)) (min (a.y + a.h) (b.y + b.h)) (by omega) (by omega) (by omega) (by omega)
  rw [show btw (max a.x b.x) (max a.y b.y) (min (a.x + a.w) (b.x + b.w)) (min (a.y + a.h) (b.y + b.h)) = z4 from if_pos (by
    have := hd (max a.x b.x) (max a.y b.y)
    unfold Rt.has at this
    false_or_by_contra
    exact this (by omega) (by omega))] at f3
  (refine Fsp.ofs (nx := 0) mixed Try.func18 rfl (by simp [Try.f18]) ?_; simp -implicitDefEqProofs only [push_cast, Try.f18, rpv, rc, seval])
  (repeat (first | refine ⟨(by omega : _ ≤ _), ?_⟩ | refine ⟨(by omega : _ < _), ?_⟩ | refine ⟨by (unfold drawOk; kernel_rfl), ?_⟩ | refine ⟨(by simp; done), ?_⟩ | refine ⟨(by simp; omega), ?_⟩))
  refine callE_p f1 ?_
  simp -implicitDefEqProofs only [push_cast, rpv, rc, seval]
  refine callE_p f2 ?_
  simp -implicitDefEqProofs only [push_cast, rpv, rc, w1, w2, w3, w4, mx_if, mi_if, seval]
  (repeat (first | refine ⟨(by omega : _ ≤ _), ?_⟩ | refine ⟨(by omega : _ < _), ?_⟩ | refine ⟨by (unfold drawOk; kernel_rfl), ?_⟩ | refine ⟨(by simp; done), ?_⟩ | refine ⟨(by simp; omega), ?_⟩))
  refine callE_p f3 ?_
  simp -implicitDefEqProofs only [push_cast, rpv, rc, seval]
  (repeat (first | refine ⟨(by omega : _ ≤ _), ?_⟩ | refine ⟨(by omega : _ < _), ?_⟩ | refine ⟨by (unfold drawOk; kernel_rfl), ?_⟩ | refine ⟨(by simp; done), ?_⟩ | refine ⟨(by simp; omega), ?_⟩))
theorem k_xor (a b : Bool) : Fsp Try.prog 40 [] 0 [.bool a, .bool b] [] 0 (.bool (a != b)) := by
  (refine Fsp.ofs (nx := 0) mixed Try.func40 rfl (by simp [Try.f40]) ?_; simp -implicitDefEqProofs only [push_cast, Try.f40, seval])
  all_goals (first | done | rfl | exact ⟨_, rfl, by simp [wkL, res2, res1, PV.weak, PV.el]⟩ | (simp [wkL, res2, res1, PV.weak, PV.el]; done))
noncomputable def xr (L K : List Rt) : List Rt := jn (fun a b => a != b) L K
theorem xor_fs (L K : List Rt) (hL : Reg L) (hK : Reg K) (bL : Bnd L) (bK : Bnd K) (lL : L.length ≤ 1000000000) (lK : K.length ≤ 1000000000) : Fsp Try.prog 11 [] 0 [rgn L, rgn K] [] 0 (rgn (xr L K)) := by
  have hJ := join_fs 40 (fun a b => a != b) k_xor L K bL bK lL lK
  rw [(join_cn hL hK bL bK (kf := fun a b => a != b) rfl).1] at hJ
  show Fsp Try.prog 11 [] 0 [rgn L, rgn K] [] 0 (rgn (jn (fun a b => a != b) L K))
  unfold jn
  generalize Rg.cn _ = X at *
  (refine Fsp.ofs (nx := 0) mixed Try.func11 rfl (by simp [Try.f11]) ?_; simp -implicitDefEqProofs only [push_cast, Try.f11, rgn, seval])
  (repeat (first | refine ⟨(by omega : _ ≤ _), ?_⟩ | refine ⟨(by omega : _ < _), ?_⟩ | refine ⟨by (unfold drawOk; kernel_rfl), ?_⟩ | refine ⟨(by simp; done), ?_⟩ | refine ⟨(by simp; omega), ?_⟩))
  refine callE_p hJ ?_
  simp -implicitDefEqProofs only [push_cast, rgn, seval]
theorem xr_has {L K : List Rt} (hL : Reg L) (hK : Reg K) (bL : Bnd L) (bK : Bnd K) (p q : Int) : hasL (xr L K) p q ↔ (hasL L p q ↔ ¬ hasL K p q) := by
  unfold xr
  rw [jn_has hL hK bL bK (kf := fun a b => a != b) rfl, ← hL.hb, ← hK.hb]
  cases hbF L p q <;> cases hbF K p q <;> simp
theorem rects_t (L : List Rt) (hl : L.length ≤ 1000000000) : Fsp Try.prog 15 [] 0 [rgn L] [] 1 (.slt 4 (rts L) 0) := by
  have hC := (of_sl (fun h => by rw [h]; exact clone_nil.nilTok) (clone_sln L hl) : Fsp Try.prog 43 [] 0 [.sl 4 (rts L)] [] 1 (.slt 4 (rts L) 0))
  (refine Fsp.ofs (nx := 0) mixed Try.func15 rfl (by simp [Try.f15]) ?_; simp -implicitDefEqProofs only [push_cast, Try.f15, rgn, seval])
  (repeat (first | refine ⟨(by omega : _ ≤ _), ?_⟩ | refine ⟨(by omega : _ < _), ?_⟩ | refine ⟨by (unfold drawOk; kernel_rfl), ?_⟩ | refine ⟨(by simp; done), ?_⟩ | refine ⟨(by simp; omega), ?_⟩))
  refine callE_new hC (by rfl) (by rfl) (by rfl) (by first | decide | simp) (by first | decide | simp) (by rfl) (by simp [tokLt1]) (fun _ => by rfl) (by first | rfl | simp [gdOk, newToks]) ?_
  simp -implicitDefEqProofs only [push_cast, seval]
  exact endK_toks [16] rfl rfl (by simp [PS.lv, lkp_hit, lkp_miss, lkp_nil]) ⟨by simp [resOk, PS.get, PS.obj, lkp_hit, lkp_miss, lkp_nil, PS.ev, ldPV, ldOk, ofC, ofC1, TK.isAgg, PV.cnd], by simp [resPV, PS.get, PS.obj, lkp_hit, lkp_miss, lkp_nil, PS.ev, ldPV, ldOk, ofC, ofC1, TK.isAgg, PV.cnd], by simp [resOf, resPV, one', res3, res2, res1, PV.weak, PV.el, wkL, idx, PV.un, PS.get, PS.obj, lkp_hit, lkp_miss, lkp_nil, PS.ev, ldPV, ldOk, ofC, ofC1, TK.isAgg, PV.cnd]⟩
noncomputable def un (L K : List Rt) : List Rt := Rg.cn (hasL (cntL (L ++ K)))
theorem union_fs (L K : List Rt) (bL : Bnd L) (bK : Bnd K) (lL : L.length ≤ 1000000) (lK : K.length ≤ 1000000) : Fsp Try.prog 8 [] 0 [rgn L, rgn K] [] 0 (rgn (un L K)) := by
  have h1 := rects_t L (by omega)
  have h2 := rects_fs K (by omega)
  have h3 := of_fs (L ++ K) (fun r hr => by rcases List.mem_append.1 hr with h | h; exact cnt_in (bL r h); exact cnt_in (bK r h)) (by rw [List.length_append]; omega)
  rw [show Rg.cn (hasL (cntL (L ++ K))) = un L K from rfl] at h3
  generalize un L K = X at *
  have hr : rts (L ++ K) = rts L ++ rts K := by simp [rts]
  rw [hr] at h3
  (refine Fsp.ofs (nx := 0) mixed Try.func8 rfl (by simp [Try.f8]) ?_; simp -implicitDefEqProofs only [push_cast, Try.f8, rgn, seval])
  (repeat (first | refine ⟨(by omega : _ ≤ _), ?_⟩ | refine ⟨(by omega : _ < _), ?_⟩ | refine ⟨by (unfold drawOk; kernel_rfl), ?_⟩ | refine ⟨(by simp; done), ?_⟩ | refine ⟨(by simp; omega), ?_⟩))
  refine callE_new h1 (by rfl) (by rfl) (by rfl) (by first | decide | simp) (by first | decide | simp) (by rfl) (by simp [tokLt1]) (fun _ => by rfl) (by first | rfl | simp [gdOk, newToks]) ?_
  simp -implicitDefEqProofs only [push_cast, rgn, seval]
  (repeat (first | refine ⟨(by omega : _ ≤ _), ?_⟩ | refine ⟨(by omega : _ < _), ?_⟩ | refine ⟨by (unfold drawOk; kernel_rfl), ?_⟩ | refine ⟨(by simp; done), ?_⟩ | refine ⟨(by simp; omega), ?_⟩))
  refine callE_p h2 ?_
  simp -implicitDefEqProofs only [push_cast, rts_length, seval]
  (repeat (first | refine ⟨(by omega : _ ≤ _), ?_⟩ | refine ⟨(by omega : _ < _), ?_⟩ | refine ⟨by (unfold drawOk; kernel_rfl), ?_⟩ | refine ⟨(by simp; done), ?_⟩ | refine ⟨(by simp; omega), ?_⟩))
  refine callE_p h3 ?_
  simp -implicitDefEqProofs only [push_cast, rgn, seval]
  unfold drawOk; kernel_rfl
theorem un_has {L K : List Rt} (bL : Bnd L) (bK : Bnd K) (p q : Int) : hasL (un L K) p q ↔ hasL L p q ∨ hasL K p q := by
  unfold un
  rw [of_has, show cntL (L ++ K) = L ++ K from List.filter_eq_self.2 fun r hr => by rcases List.mem_append.1 hr with h | h; exact bL r h; exact bK r h]
  unfold hasL
  simp [or_and_right, exists_or]
theorem sided_fs (n : Int) (h : 1 ≤ n ∧ n ≤ 128) : Fsp Try.prog 35 [] 0 [.int .i64 n] [] 0 (.bool true) := by
  have c1 : decide ((1 : Int) ≤ n) = true := by simp; omega
  have c2 : decide (n ≤ 128) = true := by simp; omega
  (refine Fsp.ofs (nx := 0) mixed Try.func35 rfl (by simp [Try.f35]) ?_; simp -implicitDefEqProofs only [push_cast, Try.f35, c1, c2, seval])
  all_goals (first | done | rfl | exact ⟨_, rfl, by simp [wkL, res2, res1, PV.weak, PV.el]⟩ | (simp [wkL, res2, res1, PV.weak, PV.el]; done))
end Go.Proofs.Sh

/- Bits in bytes. Plain. -/
set_option linter.unusedVariables false
namespace Go.Proofs.Sh
open Go.Pv Rg
def bitB (b : UInt8) (j : Nat) : Bool := b.toNat.testBit j
theorem u8_ext {a b : UInt8} (h : ∀ j, j < 8 → bitB a j = bitB b j) : a = b := by
  refine UInt8.toNat_inj.1 (Nat.eq_of_testBit_eq fun j => ?_)
  by_cases hj : j < 8
  · exact h j hj
  · have e : 256 ≤ 2 ^ j := Nat.le_trans (by decide : 256 ≤ 2 ^ 8) (Nat.pow_le_pow_right (by decide) (by omega))
    have a1 := a.toNat_lt
    have b1 := b.toNat_lt
    rw [Nat.testBit_lt_two_pow (by omega), Nat.testBit_lt_two_pow (by omega)]
def byte8 (b0 b1 b2 b3 b4 b5 b6 b7 : Bool) : UInt8 := b0.toUInt8 ||| (b1.toUInt8 <<< 1) ||| (b2.toUInt8 <<< 2) ||| (b3.toUInt8 <<< 3) ||| (b4.toUInt8 <<< 4) ||| (b5.toUInt8 <<< 5) ||| (b6.toUInt8 <<< 6) ||| (b7.toUInt8 <<< 7)
theorem byte8_bit : ∀ b0 b1 b2 b3 b4 b5 b6 b7 : Bool, bitB (byte8 b0 b1 b2 b3 b4 b5 b6 b7) 0 = b0 ∧ bitB (byte8 b0 b1 b2 b3 b4 b5 b6 b7) 1 = b1 ∧ bitB (byte8 b0 b1 b2 b3 b4 b5 b6 b7) 2 = b2 ∧ bitB (byte8 b0 b1 b2 b3 b4 b5 b6 b7) 3 = b3 ∧ bitB (byte8 b0 b1 b2 b3 b4 b5 b6 b7) 4 = b4 ∧ bitB (byte8 b0 b1 b2 b3 b4 b5 b6 b7) 5 = b5 ∧ bitB (byte8 b0 b1 b2 b3 b4 b5 b6 b7) 6 = b6 ∧ bitB (byte8 b0 b1 b2 b3 b4 b5 b6 b7) 7 = b7 := by decide +kernel
/-- The bits of a set of places in a window of rows of `st` bytes. -/
def byAt (S : Int → Int → Bool) (st i : Nat) : UInt8 :=
  byte8 (S (8 * (i % st : Nat)) (i / st : Nat)) (S (8 * (i % st : Nat) + 1) (i / st : Nat)) (S (8 * (i % st : Nat) + 2) (i / st : Nat)) (S (8 * (i % st : Nat) + 3) (i / st : Nat)) (S (8 * (i % st : Nat) + 4) (i / st : Nat)) (S (8 * (i % st : Nat) + 5) (i / st : Nat)) (S (8 * (i % st : Nat) + 6) (i / st : Nat)) (S (8 * (i % st : Nat) + 7) (i / st : Nat))
def bitsL (S : Int → Int → Bool) (st n : Nat) : List UInt8 := (List.range n).map (byAt S st)
theorem bitsL_len (S : Int → Int → Bool) (st n : Nat) : (bitsL S st n).length = n := by simp [bitsL]
theorem byAt_bit (S : Int → Int → Bool) (st i j : Nat) (hj : j < 8) : bitB (byAt S st i) j = S (8 * (i % st : Nat) + j) (i / st : Nat) := by
  obtain ⟨h0, h1, h2, h3, h4, h5, h6, h7⟩ := byte8_bit (S (8 * (i % st : Nat)) (i / st : Nat)) (S (8 * (i % st : Nat) + 1) (i / st : Nat)) (S (8 * (i % st : Nat) + 2) (i / st : Nat)) (S (8 * (i % st : Nat) + 3) (i / st : Nat)) (S (8 * (i % st : Nat) + 4) (i / st : Nat)) (S (8 * (i % st : Nat) + 5) (i / st : Nat)) (S (8 * (i % st : Nat) + 6) (i / st : Nat)) (S (8 * (i % st : Nat) + 7) (i / st : Nat))
  unfold byAt
  rcases (by omega : j = 0 ∨ j = 1 ∨ j = 2 ∨ j = 3 ∨ j = 4 ∨ j = 5 ∨ j = 6 ∨ j = 7) with rfl | rfl | rfl | rfl | rfl | rfl | rfl | rfl
  · rw [h0]; simp
  · rw [h1]; rfl
  · rw [h2]; rfl
  · rw [h3]; rfl
  · rw [h4]; rfl
  · rw [h5]; rfl
  · rw [h6]; rfl
  · rw [h7]; rfl
/-- These bytes are the bits of that set. -/
def Bts (S : Int → Int → Bool) (st n : Nat) (B : List UInt8) : Prop := B.length = n ∧ ∀ i, (h : i < B.length) → ∀ j, j < 8 → bitB B[i] j = S (8 * (i % st : Nat) + j) (i / st : Nat)
theorem bitsL_bts (S : Int → Int → Bool) (st n : Nat) : Bts S st n (bitsL S st n) := ⟨bitsL_len S st n, fun i h j hj => by
  rw [bitsL_len] at h
  rw [show (bitsL S st n)[i]'(by rw [bitsL_len]; exact h) = byAt S st i by simp [bitsL]]
  exact byAt_bit S st i j hj⟩
theorem Bts.eq {S : Int → Int → Bool} {st n : Nat} {B : List UInt8} (h : Bts S st n B) : B = bitsL S st n := by
  have h2 := bitsL_bts S st n
  refine List.ext_getElem (by rw [h.1, h2.1]) fun i h3 h4 => u8_ext fun j hj => ?_
  rw [h.2 i h3 j hj, h2.2 i h4 j hj]
theorem bitB_or (a b : UInt8) (j : Nat) : bitB (a ||| b) j = (bitB a j || bitB b j) := by unfold bitB; rw [UInt8.toNat_or, Nat.testBit_or]
theorem bitB_and (a b : UInt8) (j : Nat) : bitB (a &&& b) j = (bitB a j && bitB b j) := by unfold bitB; rw [UInt8.toNat_and, Nat.testBit_and]
theorem bitB_xor (a b : UInt8) (j : Nat) : bitB (a ^^^ b) j = (bitB a j != bitB b j) := by unfold bitB; rw [UInt8.toNat_xor, Nat.testBit_xor]
theorem bitB_not (a : UInt8) (j : Nat) (h : j < 8) : bitB (~~~a) j = !bitB a j := by
  unfold bitB
  rw [← UInt8.toNat_toBitVec, ← UInt8.toNat_toBitVec, ← BitVec.getLsbD, ← BitVec.getLsbD, UInt8.toBitVec_not, BitVec.getLsbD_not]
  simp [h]
/-- One bit. -/
def one8 (j : Nat) : UInt8 := UInt8.ofNat (2 ^ j)
theorem one8_nat {j : Nat} (h : j < 8) : (one8 j).toNat = 2 ^ j := by
  have : 2 ^ j < 256 := Nat.lt_of_lt_of_le (Nat.pow_lt_pow_right (by decide) h) (by decide : 2 ^ 8 ≤ 256)
  unfold one8
  rw [UInt8.toNat_ofNat', Nat.mod_eq_of_lt (by omega)]
theorem bitB_one {j k : Nat} (h : j < 8) : bitB (one8 j) k = decide (k = j) := by
  unfold bitB
  rw [one8_nat h, Nat.testBit_two_pow]
  exact decide_eq_decide.2 ⟨Eq.symm, Eq.symm⟩
/-- The operations on bytes, as they are told. -/
theorem ofI8 (a : UInt8) : BitVec.ofInt 8 (a.toNat : Int) = a.toBitVec := by
  rw [BitVec.ofInt_natCast]
  exact BitVec.eq_of_toNat_eq (by simp)
theorem wrap8 (n : Nat) (h : n < 256) : IntKind.u8.wrap (n : Int) = n := wrap_u8_id (by omega) (by omega)
theorem bor (a b : UInt8) : bitsI .or .u8 (a.toNat : Int) (b.toNat : Int) = ((a ||| b).toNat : Int) := by
  show IntKind.u8.wrap ((BitVec.ofInt 8 (a.toNat : Int) ||| BitVec.ofInt 8 (b.toNat : Int)).toNat : Int) = _
  rw [ofI8, ofI8, ← UInt8.toBitVec_or, UInt8.toNat_toBitVec, wrap8 _ (a ||| b).toNat_lt]
theorem band (a b : UInt8) : bitsI .and .u8 (a.toNat : Int) (b.toNat : Int) = ((a &&& b).toNat : Int) := by
  show IntKind.u8.wrap ((BitVec.ofInt 8 (a.toNat : Int) &&& BitVec.ofInt 8 (b.toNat : Int)).toNat : Int) = _
  rw [ofI8, ofI8, ← UInt8.toBitVec_and, UInt8.toNat_toBitVec, wrap8 _ (a &&& b).toNat_lt]
theorem bxor (a b : UInt8) : bitsI .xor .u8 (a.toNat : Int) (b.toNat : Int) = ((a ^^^ b).toNat : Int) := by
  show IntKind.u8.wrap ((BitVec.ofInt 8 (a.toNat : Int) ^^^ BitVec.ofInt 8 (b.toNat : Int)).toNat : Int) = _
  rw [ofI8, ofI8, ← UInt8.toBitVec_xor, UInt8.toNat_toBitVec, wrap8 _ (a ^^^ b).toNat_lt]
theorem bandn (a b : UInt8) : bitsI .andNot .u8 (a.toNat : Int) (b.toNat : Int) = ((a &&& ~~~b).toNat : Int) := by
  show IntKind.u8.wrap ((BitVec.ofInt 8 (a.toNat : Int) &&& ~~~BitVec.ofInt 8 (b.toNat : Int)).toNat : Int) = _
  rw [ofI8, ofI8, ← UInt8.toBitVec_not, ← UInt8.toBitVec_and, UInt8.toNat_toBitVec, wrap8 _ (a &&& ~~~b).toNat_lt]
theorem bshl {j : Nat} (h : j < 8) : shI .shl .u8 1 (j : Int) = .int .u8 ((one8 j).toNat : Int) := by
  rw [one8_nat h]
  show PV.int .u8 (IntKind.u8.wrap (1 * 2 ^ (min (j : Int).toNat 8))) = _
  rw [Int.toNat_natCast, Nat.min_eq_left (by omega), Int.one_mul, show ((2 : Int) ^ j) = ((2 ^ j : Nat) : Int) by rw [Int.natCast_pow]; rfl, wrap8]
  exact Nat.lt_of_lt_of_le (Nat.pow_lt_pow_right (by decide) h) (by decide : 2 ^ 8 ≤ 256)
/-- A bit, as it is looked at. -/
theorem blook (b : UInt8) {j : Nat} (h : j < 8) : ((bitsI .and .u8 ((b.toNat : Int).fdiv (2 ^ (min (j : Int).toNat 8))) 1) == 1) = bitB b j := by
  rw [Int.toNat_natCast, Nat.min_eq_left (by omega), show ((2 : Int) ^ j) = ((2 ^ j : Nat) : Int) by rw [Int.natCast_pow]; rfl, Int.fdiv_eq_ediv_of_nonneg _ (Int.natCast_nonneg _), ← Int.natCast_ediv]
  have hq : b.toNat / 2 ^ j < 256 := Nat.lt_of_le_of_lt (Nat.div_le_self _ _) b.toNat_lt
  have e1 : ((b.toNat / 2 ^ j : Nat) : Int) = ((UInt8.ofNat (b.toNat / 2 ^ j)).toNat : Int) := by rw [UInt8.toNat_ofNat', Nat.mod_eq_of_lt (by omega)]
  rw [e1, show (1 : Int) = ((1 : UInt8).toNat : Int) from rfl, band, UInt8.toNat_and, UInt8.toNat_ofNat', Nat.mod_eq_of_lt (by omega), show (1 : UInt8).toNat = 1 from rfl, Nat.and_one_is_mod]
  unfold bitB
  rw [Nat.testBit_eq_decide_div_mod_eq]
  exact decide_eq_decide.2 (by omega)
end Go.Proofs.Sh

/- Package shape: the bits of a region (walk). -/
set_option maxRecDepth 100000
set_option linter.unusedSimpArgs false
set_option linter.unusedVariables false
namespace Go.Proofs.Sh
open Go.Pv
open Rg
def rB (r : Rt) (p q : Int) : Bool := decide (r.x ≤ p ∧ p < r.x + r.w ∧ r.y ≤ q ∧ q < r.y + r.h)
def lB (L : List Rt) (p q : Int) : Bool := L.any fun r => rB r p q
theorem lB_iff (L : List Rt) (p q : Int) : lB L p q = true ↔ hasL L p q := by
  unfold lB hasL
  rw [List.any_eq_true]
  exact ⟨fun ⟨r, hr, h⟩ => ⟨r, hr, by unfold rB at h; have := of_decide_eq_true h; exact this⟩, fun ⟨r, hr, h⟩ => ⟨r, hr, by unfold rB; exact decide_eq_true h⟩⟩
theorem lB_snoc {M : List Rt} {k : Nat} (h : k < M.length) (p q : Int) : lB (M.take (k + 1)) p q = (lB (M.take k) p q || rB M[k] p q) := by
  unfold lB
  rw [List.take_succ_eq_append_getElem h, List.any_append]
  simp
/-- One bit more. -/
theorem bits_set {V : Int → Int → Bool} {st n : Nat} {x y : Nat} (hx : x < 8 * st) (hn : y * st + x / 8 < n) : (bitsL V st n).set (y * st + x / 8) ((bitsL V st n)[y * st + x / 8]'(by rw [bitsL_len]; exact hn) ||| one8 (x % 8)) = bitsL (fun p q => V p q || decide (p = (x : Int) ∧ q = (y : Int))) st n := by
  have h := bitsL_bts V st n
  have hst : 0 < st := by omega
  have hm : (y * st + x / 8) % st = x / 8 := by rw [Nat.mul_comm, Nat.mul_add_mod, Nat.mod_eq_of_lt (by omega)]
  have hd : (y * st + x / 8) / st = y := by rw [Nat.mul_comm, Nat.mul_add_div hst, Nat.div_eq_of_lt (by omega), Nat.add_zero]
  refine Bts.eq ⟨by rw [List.length_set]; exact h.1, fun i hi j hj => ?_⟩
  rw [List.length_set] at hi
  rw [List.getElem_set]
  split
  · rename_i e
    subst e
    rw [bitB_or, h.2 _ hi j hj, bitB_one (by omega), hm, hd]
    congr 1
    exact decide_eq_decide.2 (by omega)
  · rename_i e
    rw [h.2 _ hi j hj]
    show _ = (V (8 * ((i % st : Nat) : Int) + j) ((i / st : Nat) : Int) || decide ((8 * ((i % st : Nat) : Int) + j = (x : Int)) ∧ (((i / st : Nat) : Int) = (y : Int))))
    rw [show decide ((8 * ((i % st : Nat) : Int) + j = (x : Int)) ∧ (((i / st : Nat) : Int) = (y : Int))) = false from decide_eq_false (by
      rintro ⟨a, b⟩
      have e2 : i % st = x / 8 := by omega
      have e3 : i / st = y := by omega
      have := Nat.div_add_mod i st
      rw [e2, e3, Nat.mul_comm] at this
      exact e this), Bool.or_false]
theorem byL_set {B : List UInt8} {k : Nat} (h : k < B.length) (b : UInt8) : (byL B).take k ++ (.int .u8 (b.toNat : Int) :: (byL B).drop (k + 1)) = byL (B.set k b) := by
  rw [List.set_eq_take_append_cons_drop, if_pos h]
  unfold byL
  rw [List.map_append, List.map_cons, List.map_take, List.map_drop]
theorem byL_at {B : List UInt8} {k : Nat} (h : k < B.length) : (byL B).drop k = .int .u8 (B[k].toNat : Int) :: (byL B).drop (k + 1) := by
  unfold byL
  rw [List.drop_eq_getElem_cons (by rw [List.length_map]; exact h), List.getElem_map]
theorem byL_zero (n : Nat) : (List.replicate n [PV.int .u8 0]).flatten = byL (bitsL (fun _ _ => false) 1 n) := by
  have e : bitsL (fun _ _ => false) 1 n = List.replicate n 0 := by
    refine (Bts.eq ⟨List.length_replicate, fun i h j hj => ?_⟩).symm
    rw [List.getElem_replicate]
    rcases (by omega : j = 0 ∨ j = 1 ∨ j = 2 ∨ j = 3 ∨ j = 4 ∨ j = 5 ∨ j = 6 ∨ j = 7) with rfl | rfl | rfl | rfl | rfl | rfl | rfl | rfl <;> rfl
  rw [e]
  unfold byL
  rw [List.map_replicate]
  clear e
  induction n with
  | zero => rfl
  | succ n ih => rw [List.replicate_succ, List.flatten_cons, ih, List.replicate_succ]; rfl
theorem bitsL_0 (st n : Nat) : bitsL (fun _ _ => false) 1 n = bitsL (fun _ _ => false) st n := by
  unfold bitsL
  exact List.map_congr_left fun i _ => rfl
theorem byL_int {B : List UInt8} {p : PV} (h : p ∈ byL B) : ∃ n, p = .int .u8 n := by
  obtain ⟨b, _, rfl⟩ := List.mem_map.1 h
  exact ⟨_, rfl⟩
theorem byL_wk (β τ : List (Nat × Nat)) (em : List Nat) (B : List UInt8) : wkL (wkC β τ em) (byL B) (byL B) := wkL_id fun p h => by obtain ⟨n, rfl⟩ := byL_int h; rfl
theorem byL_str (B : List UInt8) : (byL B).map Pv.byteOf = B := by
  unfold byL
  rw [List.map_map]
  conv => rhs; rw [← List.map_id B]
  exact List.map_congr_left fun b _ => by show UInt8.ofNat ((b.toNat : Int)).toNat = b; rw [Int.toNat_natCast]; exact UInt8.ofNat_toNat
theorem byL_all (B : List UInt8) : (byL B).all isByte = true := List.all_eq_true.2 fun p h => by obtain ⟨n, rfl⟩ := byL_int h; rfl
def BtV (M : List Rt) (k : Nat) (r : Rt) (y : Int) (p q : Int) : Bool := lB (M.take k) p q || decide (r.x ≤ p ∧ p < r.x + r.w ∧ r.y ≤ q ∧ q < y)
def BtW (M : List Rt) (k : Nat) (r : Rt) (y x : Int) (p q : Int) : Bool := BtV M k r y p q || decide (q = y ∧ r.x ≤ p ∧ p < x)
theorem BtV_0 (M : List Rt) (k : Nat) (r : Rt) : BtV M k r r.y = lB (M.take k) := by
  funext p q
  unfold BtV
  rw [show decide (r.x ≤ p ∧ p < r.x + r.w ∧ r.y ≤ q ∧ q < r.y) = false from decide_eq_false (by omega), Bool.or_false]
theorem BtV_n {M : List Rt} {k : Nat} (h : k < M.length) : BtV M k M[k] (M[k].y + M[k].h) = lB (M.take (k + 1)) := by
  funext p q
  rw [lB_snoc h]
  rfl
theorem BtW_0 (M : List Rt) (k : Nat) (r : Rt) (y : Int) : BtW M k r y r.x = BtV M k r y := by
  funext p q
  unfold BtW
  rw [show decide (q = y ∧ r.x ≤ p ∧ p < r.x) = false from decide_eq_false (by omega), Bool.or_false]
theorem BtW_n (M : List Rt) (k : Nat) (r : Rt) (y : Int) (h : r.y ≤ y) : BtW M k r y (r.x + r.w) = BtV M k r (y + 1) := by
  funext p q
  unfold BtW BtV
  rw [Bool.or_assoc]
  congr 1
  rw [← Bool.decide_or]
  exact decide_eq_decide.2 (by omega)
theorem BtW_s (M : List Rt) (k : Nat) (r : Rt) (y x : Int) (h : r.x ≤ x) : (fun p q => BtW M k r y x p q || decide (p = x ∧ q = y)) = BtW M k r y (x + 1) := by
  funext p q
  unfold BtW
  rw [Bool.or_assoc]
  congr 1
  rw [← Bool.decide_or]
  exact decide_eq_decide.2 (by omega)
def BtS (M : List Rt) (st nn k : Nat) : PS := { n := 79, env := [(36, .int .i64 k), (35, .int .i64 M.length), (34, .sl 4 (rts M)), (9, .slb 1 0 nn 1), (8, .int .i64 st)], objs := [(1, some (byL (bitsL (lB (M.take k)) st nn)))], live := [], nxt := 6 }
def BtS1 (M : List Rt) (st nn k : Nat) (r : Rt) (y : Int) : PS := { n := 79, env := [(12, .int .i64 y), (11, .box 2 0), (36, .int .i64 k), (35, .int .i64 M.length), (34, .sl 4 (rts M)), (9, .slb 1 0 nn 1), (8, .int .i64 st)], objs := [(1, some (byL (bitsL (BtV M k r y) st nn))), (2, some (rc r))], live := [], nxt := 6 }
def BtS2 (M : List Rt) (st nn k : Nat) (r : Rt) (y x : Int) : PS := { n := 79, env := [(13, .int .i64 x), (12, .int .i64 y), (11, .box 2 0), (36, .int .i64 k), (35, .int .i64 M.length), (34, .sl 4 (rts M)), (9, .slb 1 0 nn 1), (8, .int .i64 st)], objs := [(1, some (byL (bitsL (BtW M k r y x) st nn))), (2, some (rc r))], live := [], nxt := 6 }
set_option maxHeartbeats 4000000 in
theorem bits_fs (L : List Rt) (w h : Nat) (hw : 1 ≤ w ∧ w ≤ 128) (hh : 1 ≤ h ∧ h ≤ 128) (hL : Reg L) (bL : Bnd L) (lL : L.length ≤ 1000000000) : Fsp Try.prog 7 [] 0 [rgn L, .int .i64 w, .int .i64 h] [] 0 (.tup [.str (bitsL (lB (mt L (on ⟨0, 0, w, h⟩))) ((w + 7) / 8) ((w + 7) / 8 * h)), .int .i64 0]) := by
  have f1 := sided_fs w (by omega)
  have f2 := sided_fs h (by omega)
  have f3 := within_fs L ⟨0, 0, w, h⟩ hL bL lL ⟨⟨by simp only; omega, by simp only; omega⟩, ⟨by simp only; omega, by simp only; omega⟩, ⟨by simp only; omega, by simp only; omega⟩, ⟨by simp only; omega, by simp only; omega⟩⟩
  have rM := mt_reg hL (of_reg [(⟨0, 0, w, h⟩ : Rt)]) bL (of_bnd _)
  have bM := mt_bnd hL (of_reg [(⟨0, 0, w, h⟩ : Rt)]) bL (of_bnd _)
  rw [show Rg.cn (hasL (cntL [(⟨0, 0, w, h⟩ : Rt)])) = on ⟨0, 0, w, h⟩ from rfl] at rM bM
  have iM : ∀ p q, hasL (mt L (on ⟨0, 0, w, h⟩)) p q → 0 ≤ p ∧ p < w ∧ 0 ≤ q ∧ q < h := fun p q hp => by
    have hp := (mt_has hL (K := on ⟨0, 0, w, h⟩) (of_reg _) bL (of_bnd _) p q).1 hp
    rw [on_has] at hp
    obtain ⟨-, -, a, b, c, d⟩ := hp
    simp only at a b c d
    omega
  have hin := rM.inside iM
  have lM := rM.len iM (by omega) (by omega)
  have hpr : (w : Int) * h ≤ 128 * 128 := Int.mul_le_mul (by omega) (by omega) (by omega) (by omega)
  have lM2 : (mt L (on ⟨0, 0, w, h⟩)).length ≤ 16384 := by simp only [Int.sub_zero] at lM; omega
  have f4 := rects_fs (mt L (on ⟨0, 0, w, h⟩)) (by omega)
  have hpos := rM.pos
  generalize mt L (on ⟨0, 0, w, h⟩) = M at *
  obtain ⟨st, hst⟩ : ∃ st, st = (w + 7) / 8 := ⟨_, rfl⟩
  obtain ⟨nn, hnn⟩ : ∃ nn, nn = st * h := ⟨_, rfl⟩
  rw [← hst, ← hnn]
  have hs1 : 1 ≤ st ∧ st ≤ 16 := by omega
  have hns : nn ≤ 16 * 128 := by rw [hnn]; exact Nat.mul_le_mul (by omega) (by omega)
  have w1 : IntKind.i64.wrap ((w : Int) + 7) = w + 7 := wrap_i64_id (by omega) (by omega)
  have w2 : Int.tdiv ((w : Int) + 7) 8 = st := by rw [Int.tdiv_eq_ediv_of_nonneg (by omega)]; omega
  have w3 : IntKind.i64.wrap (st : Int) = st := wrap_i64_id (by omega) (by omega)
  have w4 : IntKind.i64.wrap ((st : Int) * h) = nn := by rw [show (st : Int) * h = ((nn : Nat) : Int) by rw [hnn, Int.natCast_mul]]; exact wrap_i64_id (by omega) (by omega)
  (refine Fsp.ofs (nx := 0) mixed Try.func7 rfl (by simp [Try.f7]) ?_; simp -implicitDefEqProofs only [push_cast, Try.f7, rgn, seval])
  (repeat (first | refine ⟨(by omega : _ ≤ _), ?_⟩ | refine ⟨(by omega : _ < _), ?_⟩ | refine ⟨by (unfold drawOk; kernel_rfl), ?_⟩ | refine ⟨(by simp; done), ?_⟩ | refine ⟨(by simp; omega), ?_⟩))
  refine callE_p f1 ?_
  simp -implicitDefEqProofs only [push_cast, seval]
  refine callE_p f2 ?_
  simp -implicitDefEqProofs only [push_cast, w1, w2, w3, w4, seval]
  (repeat (first | refine ⟨(by omega : _ ≤ _), ?_⟩ | refine ⟨(by omega : _ < _), ?_⟩ | refine ⟨by (unfold drawOk; kernel_rfl), ?_⟩ | refine ⟨(by simp; done), ?_⟩ | refine ⟨(by simp; omega), ?_⟩))
  refine callE_mk rfl (by rfl) (by rfl) tk_65 (sz := 1) tsz_5 (by decide) zc_5 rfl (by omega) (by omega) (by rw [show tby Try.prog 5 = 1 by kernel_rfl]; omega) (by omega) (by rfl) ?_
  simp -implicitDefEqProofs only [push_cast, seval]
  refine callE_p f3 ?_
  simp -implicitDefEqProofs only [push_cast, rgn, seval]
  refine callE_p f4 ?_
  simp -implicitDefEqProofs only [push_cast, rts_length, seval]
  refine loopC_of (α := { k : Nat // k ≤ M.length }) (fun a => BtS M st nn a.1) (fun a => M.length - a.1) ⟨0, Nat.zero_le _⟩ ?_ ?_
  · have e0 : (List.replicate nn [PV.int .u8 0]).flatten = byL (bitsL (lB (M.take 0)) st nn) := by rw [byL_zero, bitsL_0 st]; rfl
    rw [e0]
    (simp only [BtS]; exact Wk.by _ _ _ [(1,72)] [] [] (by simp) (by simp [wkV, PV.el, PV.weak, PS.get, PS.obj, PS.lv, lkp_hit, lkp_miss, lkp_nil, lko, wkL, wkC, res1, rcs_wk, ics_wk, byL_wk]) (by simp [PS.get, PS.obj, PS.lv, lkp_hit, lkp_miss, lkp_nil, lko, wkL, wkC, PV.weak, wkL, wkC, res1, rcs_wk, ics_wk, byL_wk]) (by simp [PS.get, PS.obj, PS.lv, lkp_hit, lkp_miss, lkp_nil, lko]) (by rfl) (by rfl) (by simp [lko]) (by simp) (by simp) (by simp) (fun i hi => by rcases i with _ | _ | _ | _ | _ | _ | i <;> first | rfl | (exfalso; omega)))
  rintro ⟨k, hk⟩
  simp only [BtS]
  simp -implicitDefEqProofs only [push_cast, seval]
  refine condC_split (fun g1 => ?_) (fun g1 => ?_)
  · have hlt : k < M.length := by simp at g1; omega
    have hu := wr_up (k := k) (by omega)
    have hat := rt_at hlt
    have hr := hin M[k] (List.getElem_mem hlt)
    have hp := hpos M[k] (List.getElem_mem hlt)
    have hV := BtV_n hlt
    generalize M[k] = r at *
    have wy : IntKind.i64.wrap (r.y + r.h) = r.y + r.h := wrap_i64_id (by omega) (by omega)
    have wx : IntKind.i64.wrap (r.x + r.w) = r.x + r.w := wrap_i64_id (by omega) (by omega)
    simp -implicitDefEqProofs only [push_cast, hat, rts_length, rpv, rc, seval]
    (repeat (first | refine ⟨(by omega : _ ≤ _), ?_⟩ | refine ⟨(by omega : _ < _), ?_⟩ | refine ⟨(by simp; omega), ?_⟩ | refine ⟨(by simp; done), ?_⟩ | refine ⟨(by (unfold drawOk; kernel_rfl)), ?_⟩))
    refine loopC_of (α := { y : Int // r.y ≤ y ∧ y ≤ r.y + r.h }) (fun a => BtS1 M st nn k r a.1) (fun a => (r.y + r.h - a.1).toNat) ⟨r.y, by omega, by omega⟩ ?_ ?_
    · (simp only [BtS1]; exact Wk.by _ _ _ [(1,1),(2,18)] [] [] (by simp) (by simp [wkV, PV.el, PV.weak, PS.get, PS.obj, PS.lv, lkp_hit, lkp_miss, lkp_nil, lko, wkL, wkC, res1, rcs_wk, ics_wk, byL_wk, BtV_0, rc]) (by simp [PS.get, PS.obj, PS.lv, lkp_hit, lkp_miss, lkp_nil, lko, wkL, wkC, PV.weak, wkL, wkC, res1, rcs_wk, ics_wk, byL_wk, BtV_0, rc]) (by simp [PS.get, PS.obj, PS.lv, lkp_hit, lkp_miss, lkp_nil, lko]) (by rfl) (by rfl) (by simp [lko]) (by simp) (by simp) (by simp) (fun i hi => by rcases i with _ | _ | _ | _ | _ | _ | i <;> first | rfl | (exfalso; omega)))
    rintro ⟨y, hy1, hy2⟩
    simp only [BtS1]
    simp -implicitDefEqProofs only [push_cast, rc, wy, seval]
    (repeat (first | refine ⟨(by omega : _ ≤ _), ?_⟩ | refine ⟨(by omega : _ < _), ?_⟩ | refine ⟨(by simp; omega), ?_⟩ | refine ⟨(by simp; done), ?_⟩ | refine ⟨(by (unfold drawOk; kernel_rfl)), ?_⟩))
    refine condC_split (fun g2 => ?_) (fun g2 => ?_)
    · have hylt : y < r.y + r.h := by simpa using g2
      have uy : IntKind.i64.wrap (y + 1) = y + 1 := wrap_i64_id (by omega) (by omega)
      simp -implicitDefEqProofs only [push_cast, rc, seval]
      (repeat (first | refine ⟨(by omega : _ ≤ _), ?_⟩ | refine ⟨(by omega : _ < _), ?_⟩ | refine ⟨(by simp; omega), ?_⟩ | refine ⟨(by simp; done), ?_⟩ | refine ⟨(by (unfold drawOk; kernel_rfl)), ?_⟩))
      refine loopC_of (α := { x : Int // r.x ≤ x ∧ x ≤ r.x + r.w }) (fun a => BtS2 M st nn k r y a.1) (fun a => (r.x + r.w - a.1).toNat) ⟨r.x, by omega, by omega⟩ ?_ ?_
      · (simp only [BtS2]; exact Wk.by _ _ _ [(1,1),(2,2)] [] [] (by simp) (by simp [wkV, PV.el, PV.weak, PS.get, PS.obj, PS.lv, lkp_hit, lkp_miss, lkp_nil, lko, wkL, wkC, res1, rcs_wk, ics_wk, byL_wk, BtW_0, rc]) (by simp [PS.get, PS.obj, PS.lv, lkp_hit, lkp_miss, lkp_nil, lko, wkL, wkC, PV.weak, wkL, wkC, res1, rcs_wk, ics_wk, byL_wk, BtW_0, rc]) (by simp [PS.get, PS.obj, PS.lv, lkp_hit, lkp_miss, lkp_nil, lko]) (by rfl) (by rfl) (by simp [lko]) (by simp) (by simp) (by simp) (fun i hi => by rcases i with _ | _ | _ | _ | _ | _ | i <;> first | rfl | (exfalso; omega)))
      rintro ⟨x, hx1, hx2⟩
      simp only [BtS2]
      simp -implicitDefEqProofs only [push_cast, rc, wx, seval]
      (repeat (first | refine ⟨(by omega : _ ≤ _), ?_⟩ | refine ⟨(by omega : _ < _), ?_⟩ | refine ⟨(by simp; omega), ?_⟩ | refine ⟨(by simp; done), ?_⟩ | refine ⟨(by (unfold drawOk; kernel_rfl)), ?_⟩))
      refine condC_split (fun g3 => ?_) (fun g3 => ?_)
      · have hxlt : x < r.x + r.w := by simpa using g3
        have ux : IntKind.i64.wrap (x + 1) = x + 1 := wrap_i64_id (by omega) (by omega)
        have hW := BtW_s M k r y x hx1
        generalize BtW M k r y x = V at *
        obtain ⟨xn, rfl⟩ := Int.eq_ofNat_of_zero_le (by omega : 0 ≤ x)
        obtain ⟨yn, rfl⟩ := Int.eq_ofNat_of_zero_le (by omega : 0 ≤ y)
        have hx8 : xn < 8 * st := by omega
        have hyh : yn * st + st ≤ nn := by
          rw [hnn, show yn * st + st = st * (yn + 1) by rw [Nat.mul_add, Nat.mul_one, Nat.mul_comm]]
          exact Nat.mul_le_mul (Nat.le_refl _) (by omega)
        have hin2 : yn * st + xn / 8 < nn := by omega
        have hB := bits_set (V := V) hx8 hin2
        rw [hW] at hB
        have hlB : yn * st + xn / 8 < (bitsL V st nn).length := by rw [bitsL_len]; exact hin2
        have hS := byL_set hlB ((bitsL V st nn)[yn * st + xn / 8] ||| one8 (xn % 8))
        rw [hB] at hS
        have hA := byL_at hlB
        have hO := bor (bitsL V st nn)[yn * st + xn / 8] (one8 (xn % 8))
        have hI := bshl (show xn % 8 < 8 by omega)
        have hlen : (byL (bitsL V st nn)).length = nn := by rw [byL_length, bitsL_len]
        clear hB
        generalize (bitsL V st nn)[yn * st + xn / 8] = bb at *
        clear hlB
        generalize bitsL V st nn = B at *
        generalize hB2 : bitsL (BtW M k r (yn : Int) ((xn : Int) + 1)) st nn = B2 at *
        obtain ⟨yy, hyy⟩ : ∃ yy, yy = yn * st := ⟨_, rfl⟩
        obtain ⟨xx, hxx⟩ : ∃ xx, xx = xn / 8 := ⟨_, rfl⟩
        obtain ⟨xj, hxj⟩ : ∃ xj, xj = xn % 8 := ⟨_, rfl⟩
        have m1 : IntKind.i64.wrap ((yn : Int) * st) = yy := by rw [show (yn : Int) * st = ((yy : Nat) : Int) by rw [hyy, Int.natCast_mul]]; exact wrap_i64_id (by omega) (by omega)
        have m2 : Int.tdiv (xn : Int) 8 = xx := by rw [Int.tdiv_eq_ediv_of_nonneg (by omega)]; omega
        have m3 : IntKind.i64.wrap (xx : Int) = xx := wrap_i64_id (by omega) (by omega)
        have m5 : Int.tmod (xn : Int) 8 = xj := by rw [Int.tmod_eq_emod_of_nonneg (by omega)]; omega
        have m6 : IntKind.i64.wrap (xj : Int) = xj := wrap_i64_id (by omega) (by omega)
        simp only [← hyy, ← hxx, ← hxj] at *
        obtain ⟨ii, hii⟩ : ∃ ii, ii = yy + xx := ⟨_, rfl⟩
        have m4 : IntKind.i64.wrap ((yy : Int) + xx) = ii := by rw [show (yy : Int) + xx = ((ii : Nat) : Int) by omega]; exact wrap_i64_id (by omega) (by omega)
        simp only [← hii] at *
        generalize one8 xj = ob at *
        have hI2 : IntKind.u8.wrap (1 * 2 ^ (if xj ≤ 8 then xj else 8)) = (ob.toNat : Int) := by
          have h := hI
          simp only [shI, Int.toNat_natCast, IntKind.bits, Nat.min_def] at h
          injection h
        simp -implicitDefEqProofs only [push_cast, m1, m2, m3, m4, m5, m6, Nat.mul_one, hA, hI2, hO, hS, hlen, ux, seval]
        (repeat (first | refine ⟨(by omega : _ ≤ _), ?_⟩ | refine ⟨(by omega : _ < _), ?_⟩ | refine ⟨(by simp; omega), ?_⟩ | refine ⟨(by simp; done), ?_⟩ | refine ⟨(by (unfold drawOk; kernel_rfl)), ?_⟩))
        refine ⟨⟨xn + 1, by omega, by omega⟩, by simp only; omega, ?_⟩
        have hV2 : bitsL (BtW M k r (yn : Int) ((xn : Int) + 1)) st nn = B2 := hB2
        (simp only [BtS2]; exact Wk.by _ _ _ [(1,1),(2,2)] [] [] (by simp) (by simp [wkV, PV.el, PV.weak, PS.get, PS.obj, PS.lv, lkp_hit, lkp_miss, lkp_nil, lko, wkL, wkC, res1, rcs_wk, ics_wk, byL_wk, rc, hV2]) (by simp [PS.get, PS.obj, PS.lv, lkp_hit, lkp_miss, lkp_nil, lko, wkL, wkC, PV.weak, wkL, wkC, res1, rcs_wk, ics_wk, byL_wk, rc, hV2]) (by simp [PS.get, PS.obj, PS.lv, lkp_hit, lkp_miss, lkp_nil, lko]) (by rfl) (by rfl) (by simp [lko]) (by simp) (by simp) (by simp) (fun i hi => by rcases i with _ | _ | _ | _ | _ | _ | i <;> first | rfl | (exfalso; omega)))
      · have hxe : x = r.x + r.w := by simp at g3; omega
        subst hxe
        rw [BtW_n M k r y hy1]
        simp -implicitDefEqProofs only [push_cast, uy, seval]
        refine ⟨⟨y + 1, by omega, by omega⟩, by simp only; omega, ?_⟩
        (simp only [BtS1]; exact Wk.by _ _ _ [(1,1),(2,2)] [] [] (by simp) (by simp [wkV, PV.el, PV.weak, PS.get, PS.obj, PS.lv, lkp_hit, lkp_miss, lkp_nil, lko, wkL, wkC, res1, rcs_wk, ics_wk, byL_wk, rc]) (by simp [PS.get, PS.obj, PS.lv, lkp_hit, lkp_miss, lkp_nil, lko, wkL, wkC, PV.weak, wkL, wkC, res1, rcs_wk, ics_wk, byL_wk, rc]) (by simp [PS.get, PS.obj, PS.lv, lkp_hit, lkp_miss, lkp_nil, lko]) (by rfl) (by rfl) (by simp [lko]) (by simp) (by simp) (by simp) (fun i hi => by rcases i with _ | _ | _ | _ | _ | _ | i <;> first | rfl | (exfalso; omega)))
    · have hye : y = r.y + r.h := by simp at g2; omega
      subst hye
      rw [hV]
      simp -implicitDefEqProofs only [push_cast, hu, seval]
      refine ⟨⟨k + 1, hlt⟩, by simp only; omega, ?_⟩
      (simp only [BtS]; exact Wk.by _ _ _ [(1,1)] [] [] (by simp) (by simp [wkV, PV.el, PV.weak, PS.get, PS.obj, PS.lv, lkp_hit, lkp_miss, lkp_nil, lko, wkL, wkC, res1, rcs_wk, ics_wk, byL_wk]) (by simp [PS.get, PS.obj, PS.lv, lkp_hit, lkp_miss, lkp_nil, lko, wkL, wkC, PV.weak, wkL, wkC, res1, rcs_wk, ics_wk, byL_wk]) (by simp [PS.get, PS.obj, PS.lv, lkp_hit, lkp_miss, lkp_nil, lko]) (by rfl) (by rfl) (by simp [lko]) (by simp) (by simp) (by simp) (fun i hi => by rcases i with _ | _ | _ | _ | _ | _ | i <;> first | rfl | (exfalso; omega)))
  · have hke : k = M.length := by simp at g1; omega
    subst hke
    rw [List.take_length]
    have hlen : (byL (bitsL (lB M) st nn)).length = nn := by rw [byL_length, bitsL_len]
    have hT : List.take nn (byL (bitsL (lB M) st nn)) = byL (bitsL (lB M) st nn) := List.take_of_length_le (by omega)
    simp -implicitDefEqProofs only [push_cast, hT, hlen, byL_str, byL_all, seval]
    (repeat (first | refine ⟨(by omega : _ ≤ _), ?_⟩ | refine ⟨(by omega : _ < _), ?_⟩ | refine ⟨(by simp; omega), ?_⟩ | refine ⟨(by simp; done), ?_⟩ | refine ⟨(by (unfold drawOk; kernel_rfl)), ?_⟩))
    all_goals (first | done | rfl | exact ⟨_, rfl, by simp [wkL, res2, res1, PV.weak, PV.el]⟩ | (simp [wkL, res2, res1, PV.weak, PV.el]; done))
end Go.Proofs.Sh

/- Chapter 14: small rectangles (walk). -/
set_option maxRecDepth 100000
set_option linter.unusedSimpArgs false
set_option linter.unusedVariables false
namespace Go.Proofs.Sh
open Go.Pv
open Rg
structure Sm where
  x : UInt8
  y : UInt8
  w : UInt8
  h : UInt8
def Sm.pv (s : Sm) : PV := .agg [.int .u8 (s.x.toNat : Int), .int .u8 (s.y.toNat : Int), .int .u8 (s.w.toNat : Int), .int .u8 (s.h.toNat : Int)]
def Sm.rt (s : Sm) : Rt := ⟨(s.x.toNat : Int) % 16, (s.y.toNat : Int) % 16, (s.w.toNat : Int) % 12, (s.h.toNat : Int) % 12⟩
def sms (X : List Sm) : List PV := X.map Sm.pv
theorem sms_length (X : List Sm) : (sms X).length = X.length := List.length_map _
theorem sms_at {X : List Sm} {k : Nat} (h : k < X.length) : (sms X).getD k .any = X[k].pv := by
  rw [sms, List.getD_eq_getElem?_getD, List.getElem?_map, List.getElem?_eq_getElem h]; rfl
def rlS (g : Bool) (n : Nat) : PV := match g with
  | true => .nilsl
  | false => .slg 1 n 4
def rlB (g : Bool) (acc : List Rt) : List (Nat × Option (List PV)) := match g with
  | true => []
  | false => [(1, some (rcs acc))]
structure RlA (X : List Sm) where
  g : Bool
  k : Nat
  acc : List Rt
  hk : k ≤ X.length
  ha : acc = (X.take k).map Sm.rt
  hg : g = true → acc = []
def RlA.st {X : List Sm} (a : RlA X) : PS := { n := 34, env := [(8, .int .i64 a.k), (7, .int .i64 X.length), (6, .sl 4 (sms X)), (3, rlS a.g a.acc.length)], objs := rlB a.g a.acc, live := [], nxt := 60 }
def rlY (L : List Rt) : PS := { n := 34, env := [(2, .slg 1 L.length 4)], objs := [(1, some (rcs L))], live := [], nxt := 6 }
def rlZ (L : List Rt) : PS := { n := 34, env := [(2, .sl 4 (rts L))], objs := [], live := [], nxt := 6 }
set_option maxHeartbeats 2000000 in
theorem smalls_fs (X : List Sm) (hl : X.length ≤ 1000000) (hne : X ≠ []) : Fsp Try.prog 6 [] 0 [.sl 4 (sms X)] [] 0 (.sl 4 (rts (X.map Sm.rt))) := by
  refine Fsp.of' (nx := 0) mixed Try.func6 rfl (by decide) (by exact Nat.le_refl _) (by simp [Try.f6]) ⟨by decide, by decide⟩ ?_
  refine PWP.cutV mixed 3 ?_
  simp -implicitDefEqProofs only [push_cast, Try.f6, headN, sms_length, seval]
  refine loopC_of (α := RlA X) RlA.st (fun a => X.length - a.k) ⟨true, 0, [], Nat.zero_le _, rfl, fun _ => rfl⟩ ?_ ?_
  · (simp only [RlA.st, rlS, rlB, List.length_nil]; exact Wk.by _ _ _ [] [] [] (by simp) (by simp [wkV, PV.el, PV.weak, PS.get, PS.obj, PS.lv, lkp_hit, lkp_miss, lkp_nil, lko, wkL, wkC, res1, rcs_wk, ics_wk]) (by simp [PS.get, PS.obj, PS.lv, lkp_hit, lkp_miss, lkp_nil, lko, wkL, wkC, PV.weak, wkL, wkC, res1, rcs_wk, ics_wk]) (by simp [PS.get, PS.obj, PS.lv, lkp_hit, lkp_miss, lkp_nil, lko]) (by rfl) (by rfl) (by simp [lko]) (by simp) (by simp) (by simp) (fun i hi => by rcases i with _ | _ | _ | _ | _ | _ | i <;> first | rfl | (exfalso; omega)))
  rintro ⟨g, k, acc, hk, ha, hg⟩
  simp only [RlA.st]
  simp -implicitDefEqProofs only [push_cast, seval]
  refine condC_split (fun g1 => ?_) (fun g1 => ?_)
  · have hlt : k < X.length := by simp at g1; omega
    have hu := wr_up (k := k) (by omega)
    have hat := sms_at hlt
    have hn : acc ++ [X[k].rt] = (X.take (k + 1)).map Sm.rt := by rw [List.take_succ_eq_append_getElem hlt, List.map_append, ← ha]; rfl
    have hacl : acc.length = k := by rw [ha, List.length_map, List.length_take]; omega
    generalize hs : X[k] = s at *
    obtain ⟨x, y, w, h⟩ := s
    have b1 := x.toNat_lt
    have b2 := y.toNat_lt
    have b3 := w.toNat_lt
    have b4 := h.toNat_lt
    have t1 : (x.toNat : Int).tmod 16 = (x.toNat : Int) % 16 := Int.tmod_eq_emod_of_nonneg (by omega)
    have t2 : (y.toNat : Int).tmod 16 = (y.toNat : Int) % 16 := Int.tmod_eq_emod_of_nonneg (by omega)
    have t3 : (w.toNat : Int).tmod 12 = (w.toNat : Int) % 12 := Int.tmod_eq_emod_of_nonneg (by omega)
    have t4 : (h.toNat : Int).tmod 12 = (h.toNat : Int) % 12 := Int.tmod_eq_emod_of_nonneg (by omega)
    have v1 : IntKind.i64.wrap ((x.toNat : Int) % 16) = (x.toNat : Int) % 16 := wrap_i64_id (by omega) (by omega)
    have v2 : IntKind.i64.wrap ((y.toNat : Int) % 16) = (y.toNat : Int) % 16 := wrap_i64_id (by omega) (by omega)
    have v3 : IntKind.i64.wrap ((w.toNat : Int) % 12) = (w.toNat : Int) % 12 := wrap_i64_id (by omega) (by omega)
    have v4 : IntKind.i64.wrap ((h.toNat : Int) % 12) = (h.toNat : Int) % 12 := wrap_i64_id (by omega) (by omega)
    simp -implicitDefEqProofs only [push_cast, sms_length, hat, Sm.pv, seval]
    (repeat (first | refine ⟨(by omega : _ ≤ _), ?_⟩ | refine ⟨(by omega : _ < _), ?_⟩ | refine ⟨(by simp; omega), ?_⟩ | refine ⟨(by simp; done), ?_⟩ | refine ⟨(by (unfold drawOk; kernel_rfl)), ?_⟩))
    cases g with
    | true =>
      have hacc := hg rfl
      subst hacc
      simp only [rlS, rlB]
      simp -implicitDefEqProofs only [push_cast, t1, t2, t3, t4, v1, v2, v3, v4, hu, seval]
      (repeat (first | refine ⟨(by omega : _ ≤ _), ?_⟩ | refine ⟨(by omega : _ < _), ?_⟩ | refine ⟨(by simp; omega), ?_⟩ | refine ⟨(by simp; done), ?_⟩ | refine ⟨(by (unfold drawOk; kernel_rfl)), ?_⟩))
      refine ⟨⟨false, k + 1, [Sm.rt ⟨x, y, w, h⟩], hlt, hn, fun h => by cases h⟩, by simp only; omega, ?_⟩
      have hC : rcs [Sm.rt ⟨x, y, w, h⟩] = [.int .i64 ((x.toNat : Int) % 16), .int .i64 ((y.toNat : Int) % 16), .int .i64 ((w.toNat : Int) % 12), .int .i64 ((h.toNat : Int) % 12)] := rfl
      (simp only [RlA.st, rlS, rlB]; exact Wk.by _ _ _ [(1,156)] [] [] (by simp) (by simp [wkV, PV.el, PV.weak, PS.get, PS.obj, PS.lv, lkp_hit, lkp_miss, lkp_nil, lko, wkL, wkC, res1, rcs_wk, ics_wk, hC, hu, PV.cells]) (by simp [PS.get, PS.obj, PS.lv, lkp_hit, lkp_miss, lkp_nil, lko, wkL, wkC, PV.weak, wkL, wkC, res1, rcs_wk, ics_wk, hC, hu, PV.cells]) (by simp [PS.get, PS.obj, PS.lv, lkp_hit, lkp_miss, lkp_nil, lko]) (by rfl) (by rfl) (by simp [lko]) (by simp) (by simp) (by simp) (fun i hi => by rcases i with _ | _ | _ | _ | _ | _ | i <;> first | rfl | (exfalso; omega)))
    | false =>
      simp only [rlS, rlB]
      have hil := rcs_length acc
      simp -implicitDefEqProofs only [push_cast, t1, t2, t3, t4, v1, v2, v3, v4, hu, hil, seval]
      (repeat (first | refine ⟨(by omega : _ ≤ _), ?_⟩ | refine ⟨(by omega : _ < _), ?_⟩ | refine ⟨(by simp; omega), ?_⟩ | refine ⟨(by simp; done), ?_⟩ | refine ⟨(by (unfold drawOk; kernel_rfl)), ?_⟩))
      refine ⟨⟨false, k + 1, acc ++ [Sm.rt ⟨x, y, w, h⟩], hlt, hn, fun h => by cases h⟩, by simp only; omega, ?_⟩
      have hC : List.take (acc.length * 4) (rcs acc) ++ [.int .i64 ((x.toNat : Int) % 16), .int .i64 ((y.toNat : Int) % 16), .int .i64 ((w.toNat : Int) % 12), .int .i64 ((h.toNat : Int) % 12)] = rcs (acc ++ [Sm.rt ⟨x, y, w, h⟩]) := by rw [List.take_of_length_le (by rw [rcs_length]; exact Nat.le_refl _), rcs_app]; rfl
      have hLn : (acc ++ [Sm.rt ⟨x, y, w, h⟩]).length = acc.length + 1 := by simp
      simp only [RlA.st]
      generalize acc ++ [Sm.rt ⟨x, y, w, h⟩] = R2 at *
      (simp only [RlA.st, rlS, rlB]; exact Wk.by _ _ _ [(1,156)] [] [] (by simp) (by simp [wkV, PV.el, PV.weak, PS.get, PS.obj, PS.lv, lkp_hit, lkp_miss, lkp_nil, lko, wkL, wkC, res1, rcs_wk, ics_wk, hC, hLn, hu, PV.cells, List.cons_append, List.nil_append]) (by simp [PS.get, PS.obj, PS.lv, lkp_hit, lkp_miss, lkp_nil, lko, wkL, wkC, PV.weak, wkL, wkC, res1, rcs_wk, ics_wk, hC, hLn, hu, PV.cells, List.cons_append, List.nil_append]) (by simp [PS.get, PS.obj, PS.lv, lkp_hit, lkp_miss, lkp_nil, lko]) (by rfl) (by rfl) (by simp [lko]) (by simp) (by simp) (by simp) (fun i hi => by rcases i with _ | _ | _ | _ | _ | _ | i <;> first | rfl | (exfalso; omega)))
  · have hke : k = X.length := by simp at g1; omega
    rw [hke, List.take_length] at ha
    cases g with
    | true =>
      have h1 := ha.symm.trans (hg rfl)
      exact absurd (List.map_eq_nil_iff.1 h1) hne
    | false =>
    subst ha
    have hne2 : X.map Sm.rt ≠ [] := fun e => hne (List.map_eq_nil_iff.1 e)
    generalize X.map Sm.rt = L at *
    simp only [rlS, rlB]
    simp -implicitDefEqProofs only [push_cast, seval]
    show PWP Try.prog 0 Code.ret _ _
    refine PWP.weak (T := rlY L) ?_ ?_
    · (simp only [rlY]; exact Wk.by _ _ _ [(1,1)] [] [] (by simp) (by simp [wkV, PV.el, PV.weak, PS.get, PS.obj, PS.lv, lkp_hit, lkp_miss, lkp_nil, lko, wkL, wkC, res1, rcs_wk, ics_wk]) (by simp [PS.get, PS.obj, PS.lv, lkp_hit, lkp_miss, lkp_nil, lko, wkL, wkC, PV.weak, wkL, wkC, res1, rcs_wk, ics_wk]) (by simp [PS.get, PS.obj, PS.lv, lkp_hit, lkp_miss, lkp_nil, lko]) (by rfl) (by rfl) (by simp [lko]) (by simp) (by simp) (by simp) (fun i hi => by rcases i with _ | _ | _ | _ | _ | _ | i <;> first | rfl | (exfalso; omega)))
    refine PWP.weak (T := rlZ L) ?_ ?_
    · refine Wk.trans (Wk.frz (id := 1) (ps := rcs L) (by simp [rlY, PS.obj, lkp_hit, lkp_miss]) (Nat.zero_le _)) ?_
      have h3 : L.length * 4 ≤ (rcs L).length := by rw [rcs_length]; omega
      have f4 := frzR hne2
      simp only [rlY, PS.frz, frEnv, frObjs, List.map_cons, List.map_nil, Option.map_some, fz_slg _ _ _ _ h3, f4]
      (simp only [rlZ]; exact Wk.by _ _ _ [] [] [] (by simp) (by simp [wkV, PV.el, PV.weak, PS.get, PS.obj, PS.lv, lkp_hit, lkp_miss, lkp_nil, lko, wkL, wkC, res1, rcs_wk, ics_wk]) (by simp [PS.get, PS.obj, PS.lv, lkp_hit, lkp_miss, lkp_nil, lko, wkL, wkC, PV.weak, wkL, wkC, res1, rcs_wk, ics_wk]) (by simp [PS.get, PS.obj, PS.lv, lkp_hit, lkp_miss, lkp_nil, lko]) (by rfl) (by rfl) (by simp [lko]) (by simp) (by simp) (by simp) (fun i hi => by rcases i with _ | _ | _ | _ | _ | _ | i <;> first | rfl | (exfalso; omega)))
    refine VC_sound mixed ?_
    simp only [rlZ]
    simp -implicitDefEqProofs only [push_cast, seval]
    all_goals (first | done | rfl | exact ⟨_, rfl, by simp [wkL, res2, res1, PV.weak, PV.el]⟩ | (simp [wkL, res2, res1, PV.weak, PV.el]; done))
theorem smalls0_fs : Fsp Try.prog 6 [] 0 [.sl 4 []] [] 0 .nilsl := by
  (refine Fsp.ofs (nx := 0) mixed Try.func6 rfl (by simp [Try.f6]) ?_; simp -implicitDefEqProofs only [push_cast, Try.f6, seval])
  refine loopC_un 1 ?_
  simp -implicitDefEqProofs only [push_cast, seval]
theorem rects14_fs (X : List Sm) (hl : X.length ≤ 1000000) : Fsp Try.prog 6 [] 0 [.sl 4 (sms X)] [] 0 (.sl 4 (rts (X.map Sm.rt))) := by
  by_cases h : X = []
  · subst h
    exact smalls0_fs.say fun g v h => by rw [h.nilsl_inv]; exact .slnil 4
  · exact smalls_fs X hl h
end Go.Proofs.Sh

/- TopSets: what bits are together (setsBits). -/
set_option maxRecDepth 100000
set_option linter.unusedSimpArgs false
set_option linter.unusedVariables false
namespace Go.Proofs.Sh
open Go.Pv
open Rg
theorem byL_app (A B : List UInt8) : byL (A ++ B) = byL A ++ byL B := List.map_append
def sbS (g : Bool) (acc : List UInt8) : PV := match g with
  | true => .nilsl
  | false => .slt 1 (byL acc) 50
def sbT (g : Bool) : List (Nat × Bool) := match g with
  | true => []
  | false => [(50, true)]
structure SbA (Z : List UInt8) where
  g : Bool
  i : Nat
  acc : List UInt8
  hi : i ≤ Z.length
  ha : acc = Z.take i
  hg : g = true → acc = []
def SbA.st (w : Int) (A B : List UInt8) {Z : List UInt8} (a : SbA Z) : PS := { n := 55, env := [(14, .int .i64 a.i), (13, .int .i64 Z.length), (7, sbS a.g a.acc), (2, .str B), (1, .str A), (0, .int .i64 w)], objs := [], live := sbT a.g, nxt := 60 }
set_option maxHeartbeats 2000000
def opS (k : Nat) (a b : UInt8) : UInt8 := match k with
  | 0 => a ||| b
  | 1 => a &&& b
  | 2 => a &&& ~~~b
  | _ => a ^^^ b
theorem sbits0_fs (A B : List UInt8) (hAB : A.length = B.length) (hl : A.length ≤ 1000000) (hps : 0 < A.length) : Fsp Try.prog 13 [] 0 [.int .i64 0, .str A, .str B] [] 0 (.str (List.zipWith (opS 0) A B)) := by
  have hBi : ∀ i, i < A.length → i < B.length := fun i h => hAB ▸ h
  have hZ : (List.zipWith (opS 0) A B).length = A.length := by rw [List.length_zipWith, hAB, Nat.min_self]
  have hat : ∀ i (h : i < A.length), (List.zipWith (opS 0) A B)[i]? = some (opS 0 A[i] (B[i]'(hBi i h))) := fun i h => by rw [List.getElem?_eq_getElem (by rw [hZ]; exact h), List.getElem_zipWith]
  have hmin : (if (B.length : Int) < (A.length : Int) then (B.length : Int) else (A.length : Int)) = A.length := by rw [if_neg (by omega)]
  generalize hZZ : List.zipWith (opS 0) A B = Z at *
  (refine Fsp.ofs (nx := 0) mixed Try.func13 rfl (by simp [Try.f13]) ?_; simp -implicitDefEqProofs only [push_cast, Try.f13, hmin, seval])
  refine loopC_of (α := SbA Z) (SbA.st 0 A B) (fun a => Z.length - a.i) ⟨true, 0, [], Nat.zero_le _, rfl, fun _ => rfl⟩ ?_ ?_
  · (simp only [SbA.st, sbS, sbT]; exact Wk.by _ _ _ [] [] [] (by simp) (by simp [wkV, PV.el, PV.weak, PS.get, PS.obj, PS.lv, lkp_hit, lkp_miss, lkp_nil, lko, wkL, wkC, res1, rcs_wk, ics_wk, hZ]) (by simp [PS.get, PS.obj, PS.lv, lkp_hit, lkp_miss, lkp_nil, lko, wkL, wkC, PV.weak, wkL, wkC, res1, rcs_wk, ics_wk, hZ]) (by simp [PS.get, PS.obj, PS.lv, lkp_hit, lkp_miss, lkp_nil, lko]) (by rfl) (by rfl) (by simp [lko]) (by simp) (by simp) (by simp) (fun i hi => by rcases i with _ | _ | _ | _ | _ | _ | i <;> first | rfl | (exfalso; omega)))
  rintro ⟨g, i, acc, hi, ha, hg⟩
  simp only [SbA.st]
  simp -implicitDefEqProofs only [push_cast, seval]
  refine condC_split (fun g1 => ?_) (fun g1 => ?_)
  · have hlt : i < Z.length := by simp at g1; omega
    have hlA : i < A.length := by omega
    have hlB : i < B.length := by omega
    have hu := wr_up (k := i) (by omega)
    have x1 : A.getD i 0 = A[i] := by rw [List.getD_eq_getElem?_getD, List.getElem?_eq_getElem hlA]; rfl
    have x2 : B.getD i 0 = B[i] := by rw [List.getD_eq_getElem?_getD, List.getElem?_eq_getElem hlB]; rfl
    have hn : acc ++ [opS 0 A[i] B[i]] = Z.take (i + 1) := by rw [List.take_succ_eq_append_getElem hlt, ← ha, (List.getElem?_eq_some_iff.1 (hat i hlA)).2]
    have o0 : bitsI .or .u8 (A[i].toNat : Int) (B[i].toNat : Int) = ((opS 0 A[i] B[i]).toNat : Int) := bor _ _
    have o1 : bitsI .and .u8 (A[i].toNat : Int) (B[i].toNat : Int) = ((opS 1 A[i] B[i]).toNat : Int) := band _ _
    have o2 : bitsI .andNot .u8 (A[i].toNat : Int) (B[i].toNat : Int) = ((opS 2 A[i] B[i]).toNat : Int) := bandn _ _
    have o3 : bitsI .xor .u8 (A[i].toNat : Int) (B[i].toNat : Int) = ((opS 3 A[i] B[i]).toNat : Int) := bxor _ _
    have hacl : acc.length ≤ 1000000 := by rw [ha, List.length_take]; omega
    clear hat
    generalize A[i] = a at *
    generalize B[i] = b at *
    cases g with
    | true =>
      have hacc := hg rfl
      subst hacc
      simp only [sbS, sbT]
      simp -implicitDefEqProofs only [push_cast, x1, x2, o0, o1, o2, o3, hu, seval]
      (repeat (first | refine ⟨(by omega : _ ≤ _), ?_⟩ | refine ⟨(by omega : _ < _), ?_⟩ | refine ⟨(by simp; omega), ?_⟩ | refine ⟨(by simp; done), ?_⟩ | refine ⟨(by (unfold drawOk; kernel_rfl)), ?_⟩))
      refine ⟨⟨false, i + 1, [opS 0 a b], hlt, hn, fun h => by cases h⟩, by simp only; omega, ?_⟩
      have hC : byL [opS 0 a b] = [.int .u8 ((opS 0 a b).toNat : Int)] := rfl
      (simp only [SbA.st, sbS, sbT]; exact Wk.by _ _ _ [] [(50,208)] [] (by simp) (by simp [wkV, PV.el, PV.weak, PS.get, PS.obj, PS.lv, lkp_hit, lkp_miss, lkp_nil, lko, wkL, wkC, res1, rcs_wk, ics_wk, hC, hu]) (by simp [PS.get, PS.obj, PS.lv, lkp_hit, lkp_miss, lkp_nil, lko, wkL, wkC, PV.weak, wkL, wkC, res1, rcs_wk, ics_wk, hC, hu]) (by simp [PS.get, PS.obj, PS.lv, lkp_hit, lkp_miss, lkp_nil, lko]) (by rfl) (by rfl) (by simp [lko]) (by simp) (by simp) (by simp) (fun i hi => by rcases i with _ | _ | _ | _ | _ | _ | i <;> first | rfl | (exfalso; omega)))
    | false =>
      have hbl := byL_length acc
      simp only [sbS, sbT]
      simp -implicitDefEqProofs only [push_cast, x1, x2, o0, o1, o2, o3, hu, hbl, seval]
      (repeat (first | refine ⟨(by omega : _ ≤ _), ?_⟩ | refine ⟨(by omega : _ < _), ?_⟩ | refine ⟨(by simp; omega), ?_⟩ | refine ⟨(by simp; done), ?_⟩ | refine ⟨(by (unfold drawOk; kernel_rfl)), ?_⟩))
      refine ⟨⟨false, i + 1, acc ++ [opS 0 a b], hlt, hn, fun h => by cases h⟩, by simp only; omega, ?_⟩
      have hC : byL acc ++ [.int .u8 ((opS 0 a b).toNat : Int)] = byL (acc ++ [opS 0 a b]) := by rw [byL_app]; rfl
      simp only [SbA.st]
      generalize acc ++ [opS 0 a b] = R2 at *
      (simp only [SbA.st, sbS, sbT]; exact Wk.by _ _ _ [] [(50,208)] [] (by simp) (by simp [wkV, PV.el, PV.weak, PS.get, PS.obj, PS.lv, lkp_hit, lkp_miss, lkp_nil, lko, wkL, wkC, res1, rcs_wk, ics_wk, hC, hu, List.cons_append, List.nil_append]) (by simp [PS.get, PS.obj, PS.lv, lkp_hit, lkp_miss, lkp_nil, lko, wkL, wkC, PV.weak, wkL, wkC, res1, rcs_wk, ics_wk, hC, hu, List.cons_append, List.nil_append]) (by simp [PS.get, PS.obj, PS.lv, lkp_hit, lkp_miss, lkp_nil, lko]) (by rfl) (by rfl) (by simp [lko]) (by simp) (by simp) (by simp) (fun i hi => by rcases i with _ | _ | _ | _ | _ | _ | i <;> first | rfl | (exfalso; omega)))
  · have hie : i = Z.length := by simp at g1; omega
    rw [hie, List.take_length] at ha
    cases g with
    | true =>
      have hacc := hg rfl
      rw [hacc] at ha
      rw [← ha] at hZ
      rw [List.length_nil] at hZ
      exact absurd hZ (by omega)
    | false =>
      subst ha
      simp only [sbS, sbT]
      simp -implicitDefEqProofs only [push_cast, byL_str, byL_all, seval]
      all_goals (first | done | rfl | exact ⟨_, rfl, by simp [wkL, res2, res1, PV.weak, PV.el]⟩ | (simp [wkL, res2, res1, PV.weak, PV.el]; done))
theorem sbits1_fs (A B : List UInt8) (hAB : A.length = B.length) (hl : A.length ≤ 1000000) (hps : 0 < A.length) : Fsp Try.prog 13 [] 0 [.int .i64 1, .str A, .str B] [] 0 (.str (List.zipWith (opS 1) A B)) := by
  have hBi : ∀ i, i < A.length → i < B.length := fun i h => hAB ▸ h
  have hZ : (List.zipWith (opS 1) A B).length = A.length := by rw [List.length_zipWith, hAB, Nat.min_self]
  have hat : ∀ i (h : i < A.length), (List.zipWith (opS 1) A B)[i]? = some (opS 1 A[i] (B[i]'(hBi i h))) := fun i h => by rw [List.getElem?_eq_getElem (by rw [hZ]; exact h), List.getElem_zipWith]
  have hmin : (if (B.length : Int) < (A.length : Int) then (B.length : Int) else (A.length : Int)) = A.length := by rw [if_neg (by omega)]
  generalize hZZ : List.zipWith (opS 1) A B = Z at *
  (refine Fsp.ofs (nx := 0) mixed Try.func13 rfl (by simp [Try.f13]) ?_; simp -implicitDefEqProofs only [push_cast, Try.f13, hmin, seval])
  refine loopC_of (α := SbA Z) (SbA.st 1 A B) (fun a => Z.length - a.i) ⟨true, 0, [], Nat.zero_le _, rfl, fun _ => rfl⟩ ?_ ?_
  · (simp only [SbA.st, sbS, sbT]; exact Wk.by _ _ _ [] [] [] (by simp) (by simp [wkV, PV.el, PV.weak, PS.get, PS.obj, PS.lv, lkp_hit, lkp_miss, lkp_nil, lko, wkL, wkC, res1, rcs_wk, ics_wk, hZ]) (by simp [PS.get, PS.obj, PS.lv, lkp_hit, lkp_miss, lkp_nil, lko, wkL, wkC, PV.weak, wkL, wkC, res1, rcs_wk, ics_wk, hZ]) (by simp [PS.get, PS.obj, PS.lv, lkp_hit, lkp_miss, lkp_nil, lko]) (by rfl) (by rfl) (by simp [lko]) (by simp) (by simp) (by simp) (fun i hi => by rcases i with _ | _ | _ | _ | _ | _ | i <;> first | rfl | (exfalso; omega)))
  rintro ⟨g, i, acc, hi, ha, hg⟩
  simp only [SbA.st]
  simp -implicitDefEqProofs only [push_cast, seval]
  refine condC_split (fun g1 => ?_) (fun g1 => ?_)
  · have hlt : i < Z.length := by simp at g1; omega
    have hlA : i < A.length := by omega
    have hlB : i < B.length := by omega
    have hu := wr_up (k := i) (by omega)
    have x1 : A.getD i 0 = A[i] := by rw [List.getD_eq_getElem?_getD, List.getElem?_eq_getElem hlA]; rfl
    have x2 : B.getD i 0 = B[i] := by rw [List.getD_eq_getElem?_getD, List.getElem?_eq_getElem hlB]; rfl
    have hn : acc ++ [opS 1 A[i] B[i]] = Z.take (i + 1) := by rw [List.take_succ_eq_append_getElem hlt, ← ha, (List.getElem?_eq_some_iff.1 (hat i hlA)).2]
    have o0 : bitsI .or .u8 (A[i].toNat : Int) (B[i].toNat : Int) = ((opS 0 A[i] B[i]).toNat : Int) := bor _ _
    have o1 : bitsI .and .u8 (A[i].toNat : Int) (B[i].toNat : Int) = ((opS 1 A[i] B[i]).toNat : Int) := band _ _
    have o2 : bitsI .andNot .u8 (A[i].toNat : Int) (B[i].toNat : Int) = ((opS 2 A[i] B[i]).toNat : Int) := bandn _ _
    have o3 : bitsI .xor .u8 (A[i].toNat : Int) (B[i].toNat : Int) = ((opS 3 A[i] B[i]).toNat : Int) := bxor _ _
    have hacl : acc.length ≤ 1000000 := by rw [ha, List.length_take]; omega
    clear hat
    generalize A[i] = a at *
    generalize B[i] = b at *
    cases g with
    | true =>
      have hacc := hg rfl
      subst hacc
      simp only [sbS, sbT]
      simp -implicitDefEqProofs only [push_cast, x1, x2, o0, o1, o2, o3, hu, seval]
      (repeat (first | refine ⟨(by omega : _ ≤ _), ?_⟩ | refine ⟨(by omega : _ < _), ?_⟩ | refine ⟨(by simp; omega), ?_⟩ | refine ⟨(by simp; done), ?_⟩ | refine ⟨(by (unfold drawOk; kernel_rfl)), ?_⟩))
      refine ⟨⟨false, i + 1, [opS 1 a b], hlt, hn, fun h => by cases h⟩, by simp only; omega, ?_⟩
      have hC : byL [opS 1 a b] = [.int .u8 ((opS 1 a b).toNat : Int)] := rfl
      (simp only [SbA.st, sbS, sbT]; exact Wk.by _ _ _ [] [(50,208)] [] (by simp) (by simp [wkV, PV.el, PV.weak, PS.get, PS.obj, PS.lv, lkp_hit, lkp_miss, lkp_nil, lko, wkL, wkC, res1, rcs_wk, ics_wk, hC, hu]) (by simp [PS.get, PS.obj, PS.lv, lkp_hit, lkp_miss, lkp_nil, lko, wkL, wkC, PV.weak, wkL, wkC, res1, rcs_wk, ics_wk, hC, hu]) (by simp [PS.get, PS.obj, PS.lv, lkp_hit, lkp_miss, lkp_nil, lko]) (by rfl) (by rfl) (by simp [lko]) (by simp) (by simp) (by simp) (fun i hi => by rcases i with _ | _ | _ | _ | _ | _ | i <;> first | rfl | (exfalso; omega)))
    | false =>
      have hbl := byL_length acc
      simp only [sbS, sbT]
      simp -implicitDefEqProofs only [push_cast, x1, x2, o0, o1, o2, o3, hu, hbl, seval]
      (repeat (first | refine ⟨(by omega : _ ≤ _), ?_⟩ | refine ⟨(by omega : _ < _), ?_⟩ | refine ⟨(by simp; omega), ?_⟩ | refine ⟨(by simp; done), ?_⟩ | refine ⟨(by (unfold drawOk; kernel_rfl)), ?_⟩))
      refine ⟨⟨false, i + 1, acc ++ [opS 1 a b], hlt, hn, fun h => by cases h⟩, by simp only; omega, ?_⟩
      have hC : byL acc ++ [.int .u8 ((opS 1 a b).toNat : Int)] = byL (acc ++ [opS 1 a b]) := by rw [byL_app]; rfl
      simp only [SbA.st]
      generalize acc ++ [opS 1 a b] = R2 at *
      (simp only [SbA.st, sbS, sbT]; exact Wk.by _ _ _ [] [(50,208)] [] (by simp) (by simp [wkV, PV.el, PV.weak, PS.get, PS.obj, PS.lv, lkp_hit, lkp_miss, lkp_nil, lko, wkL, wkC, res1, rcs_wk, ics_wk, hC, hu, List.cons_append, List.nil_append]) (by simp [PS.get, PS.obj, PS.lv, lkp_hit, lkp_miss, lkp_nil, lko, wkL, wkC, PV.weak, wkL, wkC, res1, rcs_wk, ics_wk, hC, hu, List.cons_append, List.nil_append]) (by simp [PS.get, PS.obj, PS.lv, lkp_hit, lkp_miss, lkp_nil, lko]) (by rfl) (by rfl) (by simp [lko]) (by simp) (by simp) (by simp) (fun i hi => by rcases i with _ | _ | _ | _ | _ | _ | i <;> first | rfl | (exfalso; omega)))
  · have hie : i = Z.length := by simp at g1; omega
    rw [hie, List.take_length] at ha
    cases g with
    | true =>
      have hacc := hg rfl
      rw [hacc] at ha
      rw [← ha] at hZ
      rw [List.length_nil] at hZ
      exact absurd hZ (by omega)
    | false =>
      subst ha
      simp only [sbS, sbT]
      simp -implicitDefEqProofs only [push_cast, byL_str, byL_all, seval]
      all_goals (first | done | rfl | exact ⟨_, rfl, by simp [wkL, res2, res1, PV.weak, PV.el]⟩ | (simp [wkL, res2, res1, PV.weak, PV.el]; done))
theorem sbits2_fs (A B : List UInt8) (hAB : A.length = B.length) (hl : A.length ≤ 1000000) (hps : 0 < A.length) : Fsp Try.prog 13 [] 0 [.int .i64 2, .str A, .str B] [] 0 (.str (List.zipWith (opS 2) A B)) := by
  have hBi : ∀ i, i < A.length → i < B.length := fun i h => hAB ▸ h
  have hZ : (List.zipWith (opS 2) A B).length = A.length := by rw [List.length_zipWith, hAB, Nat.min_self]
  have hat : ∀ i (h : i < A.length), (List.zipWith (opS 2) A B)[i]? = some (opS 2 A[i] (B[i]'(hBi i h))) := fun i h => by rw [List.getElem?_eq_getElem (by rw [hZ]; exact h), List.getElem_zipWith]
  have hmin : (if (B.length : Int) < (A.length : Int) then (B.length : Int) else (A.length : Int)) = A.length := by rw [if_neg (by omega)]
  generalize hZZ : List.zipWith (opS 2) A B = Z at *
  (refine Fsp.ofs (nx := 0) mixed Try.func13 rfl (by simp [Try.f13]) ?_; simp -implicitDefEqProofs only [push_cast, Try.f13, hmin, seval])
  refine loopC_of (α := SbA Z) (SbA.st 2 A B) (fun a => Z.length - a.i) ⟨true, 0, [], Nat.zero_le _, rfl, fun _ => rfl⟩ ?_ ?_
  · (simp only [SbA.st, sbS, sbT]; exact Wk.by _ _ _ [] [] [] (by simp) (by simp [wkV, PV.el, PV.weak, PS.get, PS.obj, PS.lv, lkp_hit, lkp_miss, lkp_nil, lko, wkL, wkC, res1, rcs_wk, ics_wk, hZ]) (by simp [PS.get, PS.obj, PS.lv, lkp_hit, lkp_miss, lkp_nil, lko, wkL, wkC, PV.weak, wkL, wkC, res1, rcs_wk, ics_wk, hZ]) (by simp [PS.get, PS.obj, PS.lv, lkp_hit, lkp_miss, lkp_nil, lko]) (by rfl) (by rfl) (by simp [lko]) (by simp) (by simp) (by simp) (fun i hi => by rcases i with _ | _ | _ | _ | _ | _ | i <;> first | rfl | (exfalso; omega)))
  rintro ⟨g, i, acc, hi, ha, hg⟩
  simp only [SbA.st]
  simp -implicitDefEqProofs only [push_cast, seval]
  refine condC_split (fun g1 => ?_) (fun g1 => ?_)
  · have hlt : i < Z.length := by simp at g1; omega
    have hlA : i < A.length := by omega
    have hlB : i < B.length := by omega
    have hu := wr_up (k := i) (by omega)
    have x1 : A.getD i 0 = A[i] := by rw [List.getD_eq_getElem?_getD, List.getElem?_eq_getElem hlA]; rfl
    have x2 : B.getD i 0 = B[i] := by rw [List.getD_eq_getElem?_getD, List.getElem?_eq_getElem hlB]; rfl
    have hn : acc ++ [opS 2 A[i] B[i]] = Z.take (i + 1) := by rw [List.take_succ_eq_append_getElem hlt, ← ha, (List.getElem?_eq_some_iff.1 (hat i hlA)).2]
    have o0 : bitsI .or .u8 (A[i].toNat : Int) (B[i].toNat : Int) = ((opS 0 A[i] B[i]).toNat : Int) := bor _ _
    have o1 : bitsI .and .u8 (A[i].toNat : Int) (B[i].toNat : Int) = ((opS 1 A[i] B[i]).toNat : Int) := band _ _
    have o2 : bitsI .andNot .u8 (A[i].toNat : Int) (B[i].toNat : Int) = ((opS 2 A[i] B[i]).toNat : Int) := bandn _ _
    have o3 : bitsI .xor .u8 (A[i].toNat : Int) (B[i].toNat : Int) = ((opS 3 A[i] B[i]).toNat : Int) := bxor _ _
    have hacl : acc.length ≤ 1000000 := by rw [ha, List.length_take]; omega
    clear hat
    generalize A[i] = a at *
    generalize B[i] = b at *
    cases g with
    | true =>
      have hacc := hg rfl
      subst hacc
      simp only [sbS, sbT]
      simp -implicitDefEqProofs only [push_cast, x1, x2, o0, o1, o2, o3, hu, seval]
      (repeat (first | refine ⟨(by omega : _ ≤ _), ?_⟩ | refine ⟨(by omega : _ < _), ?_⟩ | refine ⟨(by simp; omega), ?_⟩ | refine ⟨(by simp; done), ?_⟩ | refine ⟨(by (unfold drawOk; kernel_rfl)), ?_⟩))
      refine ⟨⟨false, i + 1, [opS 2 a b], hlt, hn, fun h => by cases h⟩, by simp only; omega, ?_⟩
      have hC : byL [opS 2 a b] = [.int .u8 ((opS 2 a b).toNat : Int)] := rfl
      (simp only [SbA.st, sbS, sbT]; exact Wk.by _ _ _ [] [(50,208)] [] (by simp) (by simp [wkV, PV.el, PV.weak, PS.get, PS.obj, PS.lv, lkp_hit, lkp_miss, lkp_nil, lko, wkL, wkC, res1, rcs_wk, ics_wk, hC, hu]) (by simp [PS.get, PS.obj, PS.lv, lkp_hit, lkp_miss, lkp_nil, lko, wkL, wkC, PV.weak, wkL, wkC, res1, rcs_wk, ics_wk, hC, hu]) (by simp [PS.get, PS.obj, PS.lv, lkp_hit, lkp_miss, lkp_nil, lko]) (by rfl) (by rfl) (by simp [lko]) (by simp) (by simp) (by simp) (fun i hi => by rcases i with _ | _ | _ | _ | _ | _ | i <;> first | rfl | (exfalso; omega)))
    | false =>
      have hbl := byL_length acc
      simp only [sbS, sbT]
      simp -implicitDefEqProofs only [push_cast, x1, x2, o0, o1, o2, o3, hu, hbl, seval]
      (repeat (first | refine ⟨(by omega : _ ≤ _), ?_⟩ | refine ⟨(by omega : _ < _), ?_⟩ | refine ⟨(by simp; omega), ?_⟩ | refine ⟨(by simp; done), ?_⟩ | refine ⟨(by (unfold drawOk; kernel_rfl)), ?_⟩))
      refine ⟨⟨false, i + 1, acc ++ [opS 2 a b], hlt, hn, fun h => by cases h⟩, by simp only; omega, ?_⟩
      have hC : byL acc ++ [.int .u8 ((opS 2 a b).toNat : Int)] = byL (acc ++ [opS 2 a b]) := by rw [byL_app]; rfl
      simp only [SbA.st]
      generalize acc ++ [opS 2 a b] = R2 at *
      (simp only [SbA.st, sbS, sbT]; exact Wk.by _ _ _ [] [(50,208)] [] (by simp) (by simp [wkV, PV.el, PV.weak, PS.get, PS.obj, PS.lv, lkp_hit, lkp_miss, lkp_nil, lko, wkL, wkC, res1, rcs_wk, ics_wk, hC, hu, List.cons_append, List.nil_append]) (by simp [PS.get, PS.obj, PS.lv, lkp_hit, lkp_miss, lkp_nil, lko, wkL, wkC, PV.weak, wkL, wkC, res1, rcs_wk, ics_wk, hC, hu, List.cons_append, List.nil_append]) (by simp [PS.get, PS.obj, PS.lv, lkp_hit, lkp_miss, lkp_nil, lko]) (by rfl) (by rfl) (by simp [lko]) (by simp) (by simp) (by simp) (fun i hi => by rcases i with _ | _ | _ | _ | _ | _ | i <;> first | rfl | (exfalso; omega)))
  · have hie : i = Z.length := by simp at g1; omega
    rw [hie, List.take_length] at ha
    cases g with
    | true =>
      have hacc := hg rfl
      rw [hacc] at ha
      rw [← ha] at hZ
      rw [List.length_nil] at hZ
      exact absurd hZ (by omega)
    | false =>
      subst ha
      simp only [sbS, sbT]
      simp -implicitDefEqProofs only [push_cast, byL_str, byL_all, seval]
      all_goals (first | done | rfl | exact ⟨_, rfl, by simp [wkL, res2, res1, PV.weak, PV.el]⟩ | (simp [wkL, res2, res1, PV.weak, PV.el]; done))
theorem sbits3_fs (A B : List UInt8) (hAB : A.length = B.length) (hl : A.length ≤ 1000000) (hps : 0 < A.length) : Fsp Try.prog 13 [] 0 [.int .i64 3, .str A, .str B] [] 0 (.str (List.zipWith (opS 3) A B)) := by
  have hBi : ∀ i, i < A.length → i < B.length := fun i h => hAB ▸ h
  have hZ : (List.zipWith (opS 3) A B).length = A.length := by rw [List.length_zipWith, hAB, Nat.min_self]
  have hat : ∀ i (h : i < A.length), (List.zipWith (opS 3) A B)[i]? = some (opS 3 A[i] (B[i]'(hBi i h))) := fun i h => by rw [List.getElem?_eq_getElem (by rw [hZ]; exact h), List.getElem_zipWith]
  have hmin : (if (B.length : Int) < (A.length : Int) then (B.length : Int) else (A.length : Int)) = A.length := by rw [if_neg (by omega)]
  generalize hZZ : List.zipWith (opS 3) A B = Z at *
  (refine Fsp.ofs (nx := 0) mixed Try.func13 rfl (by simp [Try.f13]) ?_; simp -implicitDefEqProofs only [push_cast, Try.f13, hmin, seval])
  refine loopC_of (α := SbA Z) (SbA.st 3 A B) (fun a => Z.length - a.i) ⟨true, 0, [], Nat.zero_le _, rfl, fun _ => rfl⟩ ?_ ?_
  · (simp only [SbA.st, sbS, sbT]; exact Wk.by _ _ _ [] [] [] (by simp) (by simp [wkV, PV.el, PV.weak, PS.get, PS.obj, PS.lv, lkp_hit, lkp_miss, lkp_nil, lko, wkL, wkC, res1, rcs_wk, ics_wk, hZ]) (by simp [PS.get, PS.obj, PS.lv, lkp_hit, lkp_miss, lkp_nil, lko, wkL, wkC, PV.weak, wkL, wkC, res1, rcs_wk, ics_wk, hZ]) (by simp [PS.get, PS.obj, PS.lv, lkp_hit, lkp_miss, lkp_nil, lko]) (by rfl) (by rfl) (by simp [lko]) (by simp) (by simp) (by simp) (fun i hi => by rcases i with _ | _ | _ | _ | _ | _ | i <;> first | rfl | (exfalso; omega)))
  rintro ⟨g, i, acc, hi, ha, hg⟩
  simp only [SbA.st]
  simp -implicitDefEqProofs only [push_cast, seval]
  refine condC_split (fun g1 => ?_) (fun g1 => ?_)
  · have hlt : i < Z.length := by simp at g1; omega
    have hlA : i < A.length := by omega
    have hlB : i < B.length := by omega
    have hu := wr_up (k := i) (by omega)
    have x1 : A.getD i 0 = A[i] := by rw [List.getD_eq_getElem?_getD, List.getElem?_eq_getElem hlA]; rfl
    have x2 : B.getD i 0 = B[i] := by rw [List.getD_eq_getElem?_getD, List.getElem?_eq_getElem hlB]; rfl
    have hn : acc ++ [opS 3 A[i] B[i]] = Z.take (i + 1) := by rw [List.take_succ_eq_append_getElem hlt, ← ha, (List.getElem?_eq_some_iff.1 (hat i hlA)).2]
    have o0 : bitsI .or .u8 (A[i].toNat : Int) (B[i].toNat : Int) = ((opS 0 A[i] B[i]).toNat : Int) := bor _ _
    have o1 : bitsI .and .u8 (A[i].toNat : Int) (B[i].toNat : Int) = ((opS 1 A[i] B[i]).toNat : Int) := band _ _
    have o2 : bitsI .andNot .u8 (A[i].toNat : Int) (B[i].toNat : Int) = ((opS 2 A[i] B[i]).toNat : Int) := bandn _ _
    have o3 : bitsI .xor .u8 (A[i].toNat : Int) (B[i].toNat : Int) = ((opS 3 A[i] B[i]).toNat : Int) := bxor _ _
    have hacl : acc.length ≤ 1000000 := by rw [ha, List.length_take]; omega
    clear hat
    generalize A[i] = a at *
    generalize B[i] = b at *
    cases g with
    | true =>
      have hacc := hg rfl
      subst hacc
      simp only [sbS, sbT]
      simp -implicitDefEqProofs only [push_cast, x1, x2, o0, o1, o2, o3, hu, seval]
      (repeat (first | refine ⟨(by omega : _ ≤ _), ?_⟩ | refine ⟨(by omega : _ < _), ?_⟩ | refine ⟨(by simp; omega), ?_⟩ | refine ⟨(by simp; done), ?_⟩ | refine ⟨(by (unfold drawOk; kernel_rfl)), ?_⟩))
      refine ⟨⟨false, i + 1, [opS 3 a b], hlt, hn, fun h => by cases h⟩, by simp only; omega, ?_⟩
      have hC : byL [opS 3 a b] = [.int .u8 ((opS 3 a b).toNat : Int)] := rfl
      (simp only [SbA.st, sbS, sbT]; exact Wk.by _ _ _ [] [(50,208)] [] (by simp) (by simp [wkV, PV.el, PV.weak, PS.get, PS.obj, PS.lv, lkp_hit, lkp_miss, lkp_nil, lko, wkL, wkC, res1, rcs_wk, ics_wk, hC, hu]) (by simp [PS.get, PS.obj, PS.lv, lkp_hit, lkp_miss, lkp_nil, lko, wkL, wkC, PV.weak, wkL, wkC, res1, rcs_wk, ics_wk, hC, hu]) (by simp [PS.get, PS.obj, PS.lv, lkp_hit, lkp_miss, lkp_nil, lko]) (by rfl) (by rfl) (by simp [lko]) (by simp) (by simp) (by simp) (fun i hi => by rcases i with _ | _ | _ | _ | _ | _ | i <;> first | rfl | (exfalso; omega)))
    | false =>
      have hbl := byL_length acc
      simp only [sbS, sbT]
      simp -implicitDefEqProofs only [push_cast, x1, x2, o0, o1, o2, o3, hu, hbl, seval]
      (repeat (first | refine ⟨(by omega : _ ≤ _), ?_⟩ | refine ⟨(by omega : _ < _), ?_⟩ | refine ⟨(by simp; omega), ?_⟩ | refine ⟨(by simp; done), ?_⟩ | refine ⟨(by (unfold drawOk; kernel_rfl)), ?_⟩))
      refine ⟨⟨false, i + 1, acc ++ [opS 3 a b], hlt, hn, fun h => by cases h⟩, by simp only; omega, ?_⟩
      have hC : byL acc ++ [.int .u8 ((opS 3 a b).toNat : Int)] = byL (acc ++ [opS 3 a b]) := by rw [byL_app]; rfl
      simp only [SbA.st]
      generalize acc ++ [opS 3 a b] = R2 at *
      (simp only [SbA.st, sbS, sbT]; exact Wk.by _ _ _ [] [(50,208)] [] (by simp) (by simp [wkV, PV.el, PV.weak, PS.get, PS.obj, PS.lv, lkp_hit, lkp_miss, lkp_nil, lko, wkL, wkC, res1, rcs_wk, ics_wk, hC, hu, List.cons_append, List.nil_append]) (by simp [PS.get, PS.obj, PS.lv, lkp_hit, lkp_miss, lkp_nil, lko, wkL, wkC, PV.weak, wkL, wkC, res1, rcs_wk, ics_wk, hC, hu, List.cons_append, List.nil_append]) (by simp [PS.get, PS.obj, PS.lv, lkp_hit, lkp_miss, lkp_nil, lko]) (by rfl) (by rfl) (by simp [lko]) (by simp) (by simp) (by simp) (fun i hi => by rcases i with _ | _ | _ | _ | _ | _ | i <;> first | rfl | (exfalso; omega)))
  · have hie : i = Z.length := by simp at g1; omega
    rw [hie, List.take_length] at ha
    cases g with
    | true =>
      have hacc := hg rfl
      rw [hacc] at ha
      rw [← ha] at hZ
      rw [List.length_nil] at hZ
      exact absurd hZ (by omega)
    | false =>
      subst ha
      simp only [sbS, sbT]
      simp -implicitDefEqProofs only [push_cast, byL_str, byL_all, seval]
      all_goals (first | done | rfl | exact ⟨_, rfl, by simp [wkL, res2, res1, PV.weak, PV.el]⟩ | (simp [wkL, res2, res1, PV.weak, PV.el]; done))
end Go.Proofs.Sh
