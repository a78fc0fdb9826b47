/- cmp.Compare, cmp.Or, and the orders of package band; over whatever variables are laid. -/
import Derived.Test.YtbjeagcnakdmnaaPvYa
import Derived.Test.YtbjeagcnakdmnaaShTypes
import Derived.Test.YtbjeagcnakdmnaaPvXf
import Derived.Test.YtbjeagcnakdmnaaRgH
import Derived.Test.YtbjeagcnakdmnaaPvIv
import Derived.Test.YtbjeagcnakdmnaaPvSt
import Derived.Shelf.SlSortCmp.WholeK
import Derived.Shelf.SortM.Plain
import Derived.Shelf.SlicesE.Compact
import Derived.Shelf.SlicesG.Cmp
import Derived.Shelf.SlGeneric
import Derived.KernelRfl
import Derived.Test.YtbjeagcnakdmnaaProg
import Derived.Test.YtbjeagcnakdmnaaPvSs
set_option maxRecDepth 100000
set_option linter.unusedSimpArgs false
set_option linter.unusedVariables false
namespace Go.Proofs.Sh
open Go.Pv
open Rg
variable [GTab]
def rc (r : Rt) : List PV := [.int .i64 r.x, .int .i64 r.y, .int .i64 r.w, .int .i64 r.h]
def rpv (r : Rt) : PV := .agg (rc r)
def cmpI (x y : Int) : Int := if x < y then -1 else if y < x then 1 else 0
def cmpYX (a b : Rt) : Int := if (cmpI a.y b.y != 0) = true then cmpI a.y b.y else cmpI a.x b.x
theorem nan_fs (x : Int) : Fsp Try.prog 50 [] 0 [.int .i64 x] [] 0 (.bool false) := by
  have h : (x != x) = false := by simp
  (refine Fsp.ofs (nx := 0) mixed Try.func50 rfl (by simp [Try.f50]) ?_; simp -implicitDefEqProofs only [push_cast, Try.f50, h, seval])
  all_goals (first | done | rfl | exact ⟨_, rfl, by simp [wkL, res2, res1, PV.weak, PV.el]⟩ | (simp [wkL, res2, res1, PV.weak, PV.el]; done))
theorem cmp_fs (x y : Int) : Fsp Try.prog 27 [] 0 [.int .i64 x, .int .i64 y] [] 0 (.int .i64 (cmpI x y)) := by
  have h1 := nan_fs x
  have h2 := nan_fs y
  (refine Fsp.ofs (nx := 0) mixed Try.func27 rfl (by simp [Try.f27]) ?_; simp -implicitDefEqProofs only [push_cast, Try.f27, seval])
  refine callE_p h1 ?_
  simp -implicitDefEqProofs only [push_cast, seval]
  refine callE_p h2 ?_
  simp -implicitDefEqProofs only [push_cast, seval]
  refine condC_split (fun g1 => ?_) (fun g1 => ?_)
  · have e : cmpI x y = -1 := by rw [cmpI, if_pos (by simpa using g1)]
    rw [e]
    simp -implicitDefEqProofs only [push_cast, seval]
    all_goals (first | done | rfl | exact ⟨_, rfl, by simp [wkL, res2, res1, PV.weak, PV.el]⟩ | (simp [wkL, res2, res1, PV.weak, PV.el]; done))
  · simp -implicitDefEqProofs only [push_cast, seval]
    refine condC_split (fun g2 => ?_) (fun g2 => ?_)
    · have e : cmpI x y = 1 := by rw [cmpI, if_neg (by simpa using g1), if_pos (by simpa using g2)]
      rw [e]
      simp -implicitDefEqProofs only [push_cast, seval]
      all_goals (first | done | rfl | exact ⟨_, rfl, by simp [wkL, res2, res1, PV.weak, PV.el]⟩ | (simp [wkL, res2, res1, PV.weak, PV.el]; done))
    · have e : cmpI x y = 0 := by rw [cmpI, if_neg (by simpa using g1), if_neg (by simpa using g2)]
      rw [e]
      simp -implicitDefEqProofs only [push_cast, seval]
      all_goals (first | done | rfl | exact ⟨_, rfl, by simp [wkL, res2, res1, PV.weak, PV.el]⟩ | (simp [wkL, res2, res1, PV.weak, PV.el]; done))
theorem or_fs (a b : Int) : Fsp Try.prog 26 [] 0 [.sl 1 [.int .i64 a, .int .i64 b]] [] 0 (.int .i64 (if (a != 0) = true then a else b)) := by
  (refine Fsp.ofs (nx := 0) mixed Try.func26 rfl (by simp [Try.f26]) ?_; simp -implicitDefEqProofs only [push_cast, Try.f26, seval])
  refine loopC_un 3 ?_
  simp -implicitDefEqProofs only [push_cast, seval]
  refine condC_split (fun g1 => ?_) (fun g1 => ?_)
  · rw [if_pos g1]
    simp -implicitDefEqProofs only [push_cast, seval]
    all_goals (first | done | rfl | exact ⟨_, rfl, by simp [wkL, res2, res1, PV.weak, PV.el]⟩ | (simp [wkL, res2, res1, PV.weak, PV.el]; done))
  · rw [if_neg (by rw [g1]; simp)]
    simp -implicitDefEqProofs only [push_cast, seval]
    refine condC_split (fun g2 => ?_) (fun g2 => ?_)
    · simp -implicitDefEqProofs only [push_cast, seval]
      all_goals (first | done | rfl | exact ⟨_, rfl, by simp [wkL, res2, res1, PV.weak, PV.el]⟩ | (simp [wkL, res2, res1, PV.weak, PV.el]; done))
    · have e : b = 0 := by simpa using g2
      rw [e]
      simp -implicitDefEqProofs only [push_cast, seval]
      all_goals (first | done | rfl | exact ⟨_, rfl, by simp [wkL, res2, res1, PV.weak, PV.el]⟩ | (simp [wkL, res2, res1, PV.weak, PV.el]; done))
theorem ord3_fs (a b : Rt) : Fsp Try.prog 31 [] 0 [rpv a, rpv b] [] 0 (.int .i64 (cmpI a.x b.x)) := by
  have h1 := cmp_fs a.x b.x
  (refine Fsp.ofs (nx := 0) mixed Try.func31 rfl (by simp [Try.f31]) ?_; simp -implicitDefEqProofs only [push_cast, Try.f31, rpv, rc, seval])
  (repeat (first | refine ⟨(by omega : _ ≤ _), ?_⟩ | refine ⟨(by omega : _ < _), ?_⟩ | refine ⟨by (unfold drawOk; kernel_rfl), ?_⟩ | refine ⟨(by simp; done), ?_⟩ | refine ⟨(by simp; omega), ?_⟩))
  refine callE_p h1 ?_
  simp -implicitDefEqProofs only [push_cast, seval]
  all_goals (first | done | rfl | exact ⟨_, rfl, by simp [wkL, res2, res1, PV.weak, PV.el]⟩ | (simp [wkL, res2, res1, PV.weak, PV.el]; done))
theorem ord1_fs (a b : Rt) : Fsp Try.prog 25 [] 0 [rpv a, rpv b] [] 0 (.int .i64 (cmpYX a b)) := by
  have h1 := cmp_fs a.y b.y
  have h2 := cmp_fs a.x b.x
  have h3 := or_fs (cmpI a.y b.y) (cmpI a.x b.x)
  unfold cmpYX
  generalize (if (cmpI a.y b.y != 0) = true then cmpI a.y b.y else cmpI a.x b.x) = r at *
  (refine Fsp.ofs (nx := 0) mixed Try.func25 rfl (by simp [Try.f25]) ?_; simp -implicitDefEqProofs only [push_cast, Try.f25, rpv, rc, seval])
  (repeat (first | refine ⟨(by omega : _ ≤ _), ?_⟩ | refine ⟨(by omega : _ < _), ?_⟩ | refine ⟨by (unfold drawOk; kernel_rfl), ?_⟩ | refine ⟨(by simp; done), ?_⟩ | refine ⟨(by simp; omega), ?_⟩))
  refine callE_p h1 ?_
  simp -implicitDefEqProofs only [push_cast, seval]
  (repeat (first | refine ⟨(by omega : _ ≤ _), ?_⟩ | refine ⟨(by omega : _ < _), ?_⟩ | refine ⟨by (unfold drawOk; kernel_rfl), ?_⟩ | refine ⟨(by simp; done), ?_⟩ | refine ⟨(by simp; omega), ?_⟩))
  refine callE_p h2 ?_
  simp -implicitDefEqProofs only [push_cast, seval]
  (repeat (first | refine ⟨(by omega : _ ≤ _), ?_⟩ | refine ⟨(by omega : _ < _), ?_⟩ | refine ⟨by (unfold drawOk; kernel_rfl), ?_⟩ | refine ⟨(by simp; done), ?_⟩ | refine ⟨(by simp; omega), ?_⟩))
  refine callE_p h3 ?_
  simp -implicitDefEqProofs only [push_cast, seval]
  (repeat (first | refine ⟨(by omega : _ ≤ _), ?_⟩ | refine ⟨(by omega : _ < _), ?_⟩ | refine ⟨by (unfold drawOk; kernel_rfl), ?_⟩ | refine ⟨(by simp; done), ?_⟩ | refine ⟨(by simp; omega), ?_⟩))
  all_goals (first | done | rfl | exact ⟨_, rfl, by simp [wkL, res2, res1, PV.weak, PV.el]⟩ | (simp [wkL, res2, res1, PV.weak, PV.el]; done))
end Go.Proofs.Sh

/- Package band: what counts, how many places, whether there is one; slices of rectangles. -/
set_option maxRecDepth 100000
set_option linter.unusedSimpArgs false
set_option linter.unusedVariables false
namespace Go.Proofs.Sh
open Go.Pv
open Rg
def rts (L : List Rt) : List PV := L.map rpv
def rgn (L : List Rt) : PV := .agg [.sl 4 (rts L)]
theorem rts_length (L : List Rt) : (rts L).length = L.length := List.length_map _
theorem rt_at {L : List Rt} {k : Nat} (h : k < L.length) : (rts L).getD k .any = rpv L[k] := by
  rw [rts, List.getD_eq_getElem?_getD, List.getElem?_map, List.getElem?_eq_getElem h]; rfl
theorem rdrop {L : List Rt} {k : Nat} (h : k < L.length) : L.drop k = L[k] :: L.drop (k + 1) := List.drop_eq_getElem_cons h
theorem wr_up {k : Nat} (h : k < 4611686018427387904) : IntKind.i64.wrap ((k : Int) + 1) = ((k + 1 : Nat) : Int) := by rw [wrap_i64_id (by omega) (by omega)]; rfl
instance : DecidableEq Rt := fun a b => if h : a.x = b.x ∧ a.y = b.y ∧ a.w = b.w ∧ a.h = b.h then isTrue (by cases a; cases b; simp_all) else isFalse (fun e => h (by subst e; simp))
def In64 (n : Int) : Prop := -9223372036854775808 ≤ n ∧ n < 9223372036854775808
def RtIn (r : Rt) : Prop := In64 r.x ∧ In64 r.y ∧ In64 r.w ∧ In64 r.h
def fitB (a n : Int) : Bool := decide (-1048576 ≤ a) && (decide (0 < n) && decide (n ≤ 1048576 - a))
def cntB (r : Rt) : Bool := fitB r.x r.w && fitB r.y r.h
theorem fit_iff {a n : Int} : fitB a n = true ↔ -1048576 ≤ a ∧ 0 < n ∧ n ≤ 1048576 - a := by simp [fitB]
/-- So are a region's rectangles. -/
def Bnd (L : List Rt) : Prop := ∀ r ∈ L, cntB r = true
theorem fits_fs (a n : Int) (ha : In64 a) : Fsp Try.prog 47 [] 0 [.int .i64 a, .int .i64 n] [] 0 (.bool (fitB a n)) := by
  unfold In64 at ha
  cases c1 : decide (-1048576 ≤ a) with
  | false =>
    have e : fitB a n = false := by rw [fitB, c1]; rfl
    rw [e]
    (refine Fsp.ofs (nx := 0) mixed Try.func47 rfl (by simp [Try.f47]) ?_; simp -implicitDefEqProofs only [push_cast, Try.f47, ge_iff_le, c1, seval])
    (repeat (first | refine ⟨(by omega : _ ≤ _), ?_⟩ | refine ⟨(by omega : _ < _), ?_⟩ | refine ⟨by (unfold drawOk; kernel_rfl), ?_⟩ | refine ⟨(by simp; done), ?_⟩ | refine ⟨(by simp; omega), ?_⟩))
    all_goals (first | done | rfl | exact ⟨_, rfl, by simp [wkL, res2, res1, PV.weak, PV.el]⟩ | (simp [wkL, res2, res1, PV.weak, PV.el]; done))
  | true =>
    have hw : IntKind.i64.wrap (1048576 - a) = 1048576 - a := by simp at c1; rw [wrap_i64_id (by omega) (by omega)]
    cases c2 : decide (0 < n) with
    | false =>
      have e : fitB a n = false := by rw [fitB, c1, c2]; rfl
      rw [e]
      (refine Fsp.ofs (nx := 0) mixed Try.func47 rfl (by simp [Try.f47]) ?_; simp -implicitDefEqProofs only [push_cast, Try.f47, ge_iff_le, gt_iff_lt, c1, c2, seval])
      (repeat (first | refine ⟨(by omega : _ ≤ _), ?_⟩ | refine ⟨(by omega : _ < _), ?_⟩ | refine ⟨by (unfold drawOk; kernel_rfl), ?_⟩ | refine ⟨(by simp; done), ?_⟩ | refine ⟨(by simp; omega), ?_⟩))
      all_goals (first | done | rfl | exact ⟨_, rfl, by simp [wkL, res2, res1, PV.weak, PV.el]⟩ | (simp [wkL, res2, res1, PV.weak, PV.el]; done))
    | true =>
      have e : fitB a n = decide (n ≤ 1048576 - a) := by rw [fitB, c1, c2]; rfl
      rw [e]
      (refine Fsp.ofs (nx := 0) mixed Try.func47 rfl (by simp [Try.f47]) ?_; simp -implicitDefEqProofs only [push_cast, Try.f47, ge_iff_le, gt_iff_lt, c1, c2, hw, seval])
      (repeat (first | refine ⟨(by omega : _ ≤ _), ?_⟩ | refine ⟨(by omega : _ < _), ?_⟩ | refine ⟨by (unfold drawOk; kernel_rfl), ?_⟩ | refine ⟨(by simp; done), ?_⟩ | refine ⟨(by simp; omega), ?_⟩))
      all_goals (first | done | rfl | exact ⟨_, rfl, by simp [wkL, res2, res1, PV.weak, PV.el]⟩ | (simp [wkL, res2, res1, PV.weak, PV.el]; done))
theorem counts_fs (r : Rt) (h : RtIn r) : Fsp Try.prog 23 [] 0 [rpv r] [] 0 (.bool (cntB r)) := by
  obtain ⟨h1, h2, h3, h4⟩ := h
  have f1 := fits_fs r.x r.w h1
  have f2 := fits_fs r.y r.h h2
  unfold cntB
  generalize fitB r.x r.w = b1 at *
  generalize fitB r.y r.h = b2 at *
  cases b1 with
  | false =>
    (refine Fsp.ofs (nx := 0) mixed Try.func23 rfl (by simp [Try.f23]) ?_; simp -implicitDefEqProofs only [push_cast, Try.f23, rpv, rc, seval])
    (repeat (first | refine ⟨(by omega : _ ≤ _), ?_⟩ | refine ⟨(by omega : _ < _), ?_⟩ | refine ⟨by (unfold drawOk; kernel_rfl), ?_⟩ | refine ⟨(by simp; done), ?_⟩ | refine ⟨(by simp; omega), ?_⟩))
    refine callE_p f1 ?_
    simp -implicitDefEqProofs only [push_cast, seval]
    refine callE_no ?_
    simp -implicitDefEqProofs only [push_cast, seval]
    (repeat (first | refine ⟨(by omega : _ ≤ _), ?_⟩ | refine ⟨(by omega : _ < _), ?_⟩ | refine ⟨by (unfold drawOk; kernel_rfl), ?_⟩ | refine ⟨(by simp; done), ?_⟩ | refine ⟨(by simp; omega), ?_⟩))
    all_goals (first | done | rfl | exact ⟨_, rfl, by simp [wkL, res2, res1, PV.weak, PV.el]⟩ | (simp [wkL, res2, res1, PV.weak, PV.el]; done))
  | true =>
    (refine Fsp.ofs (nx := 0) mixed Try.func23 rfl (by simp [Try.f23]) ?_; simp -implicitDefEqProofs only [push_cast, Try.f23, rpv, rc, seval])
    (repeat (first | refine ⟨(by omega : _ ≤ _), ?_⟩ | refine ⟨(by omega : _ < _), ?_⟩ | refine ⟨by (unfold drawOk; kernel_rfl), ?_⟩ | refine ⟨(by simp; done), ?_⟩ | refine ⟨(by simp; omega), ?_⟩))
    refine callE_p f1 ?_
    simp -implicitDefEqProofs only [push_cast, seval]
    refine callE_p f2 ?_
    simp -implicitDefEqProofs only [push_cast, seval]
    (repeat (first | refine ⟨(by omega : _ ≤ _), ?_⟩ | refine ⟨(by omega : _ < _), ?_⟩ | refine ⟨by (unfold drawOk; kernel_rfl), ?_⟩ | refine ⟨(by simp; done), ?_⟩ | refine ⟨(by simp; omega), ?_⟩))
    all_goals (first | done | rfl | exact ⟨_, rfl, by simp [wkL, res2, res1, PV.weak, PV.el]⟩ | (simp [wkL, res2, res1, PV.weak, PV.el]; done))
theorem empty_fs (L : List Rt) : Fsp Try.prog 46 [] 0 [rgn L] [] 0 (.bool (decide ((L.length : Int) = 0))) := by
  (refine Fsp.ofs (nx := 0) mixed Try.func46 rfl (by simp [Try.f46]) ?_; simp -implicitDefEqProofs only [push_cast, Try.f46, rgn, rts_length, seval])
  (repeat (first | refine ⟨(by omega : _ ≤ _), ?_⟩ | refine ⟨(by omega : _ < _), ?_⟩ | refine ⟨by (unfold drawOk; kernel_rfl), ?_⟩ | refine ⟨(by simp; done), ?_⟩ | refine ⟨(by simp; omega), ?_⟩))
  all_goals (first | done | rfl | exact ⟨_, rfl, by simp [wkL, res2, res1, PV.weak, PV.el]⟩ | (simp [wkL, res2, res1, PV.weak, PV.el]; done))

/-- How many places rectangles have, one by one. -/
def areaL : List Rt → Int
  | [] => 0
  | r :: L => r.w * r.h + areaL L
theorem cnt_pos {r : Rt} (h : cntB r = true) : 0 < r.w ∧ r.w ≤ 2097152 ∧ 0 < r.h ∧ r.h ≤ 2097152 ∧ -1048576 ≤ r.x ∧ r.x + r.w ≤ 1048576 ∧ -1048576 ≤ r.y ∧ r.y + r.h ≤ 1048576 := by
  unfold cntB at h
  rw [Bool.and_eq_true, fit_iff, fit_iff] at h
  omega
theorem mul_le {a b : Int} (h1 : 0 < a) (h2 : a ≤ 2097152) (h3 : 0 < b) (h4 : b ≤ 2097152) : 0 ≤ a * b ∧ a * b ≤ 4398046511104 :=
  ⟨Int.mul_nonneg (by omega) (by omega), Int.le_trans (Int.mul_le_mul h2 h4 (by omega) (by omega)) (by decide)⟩
theorem area_le : ∀ {L : List Rt}, Bnd L → 0 ≤ areaL L ∧ areaL L ≤ 4398046511104 * L.length
  | [], _ => ⟨Int.le_refl _, Int.le_refl _⟩
  | r :: L, h => by
    have a := cnt_pos (h r List.mem_cons_self)
    have b := mul_le a.1 a.2.1 a.2.2.1 a.2.2.2.1
    have ih := area_le (L := L) fun q hq => h q (List.mem_cons_of_mem _ hq)
    rw [areaL, List.length_cons]
    omega
structure ArA (L : List Rt) where
  k : Nat
  n : Int
  h : k ≤ L.length
  e : n + areaL (L.drop k) = areaL L
  b : 0 ≤ n
def ArA.st (L : List Rt) (a : ArA L) : PS := { n := 22, env := [(9, .int .i64 a.k), (8, .int .i64 L.length), (7, .sl 4 (rts L)), (3, .int .i64 a.n)], objs := [], live := [], nxt := 60 }
theorem area_fs (L : List Rt) (hb : Bnd L) (hl : L.length ≤ 1000000) : Fsp Try.prog 19 [] 0 [rgn L] [] 0 (.int .i64 (areaL L)) := by
  (refine Fsp.ofs (nx := 0) mixed Try.func19 rfl (by simp [Try.f19]) ?_; simp -implicitDefEqProofs only [push_cast, Try.f19, rgn, rts_length, seval])
  (repeat (first | refine ⟨(by omega : _ ≤ _), ?_⟩ | refine ⟨(by omega : _ < _), ?_⟩ | refine ⟨by (unfold drawOk; kernel_rfl), ?_⟩ | refine ⟨(by simp; done), ?_⟩ | refine ⟨(by simp; omega), ?_⟩))
  refine loopC_of (α := ArA L) (ArA.st L) (fun a => L.length - a.k) ⟨0, 0, by omega, by simp, by omega⟩ ?_ ?_
  · (simp only [ArA.st]; exact Wk.at _ _ _ [] [] [] (by simp) (by simp [wkV, PV.el, PV.weak, PS.get, PS.obj, PS.lv, lkp_hit, lkp_miss, lkp_nil, lko, wkL, wkC, res1]) (by simp [PS.get, PS.obj, PS.lv, lkp_hit, lkp_miss, lkp_nil, lko, wkL, wkC, PV.weak, wkL, wkC, res1]))
  rintro ⟨k, n, hk, he, hn⟩
  simp only [ArA.st]
  simp -implicitDefEqProofs only [push_cast, rts_length, seval]
  refine condC_split (fun g1 => ?_) (fun g1 => ?_)
  · have hlt : k < L.length := by simp at g1; omega
    have hu := wr_up (k := k) (by omega)
    have hg := rt_at hlt
    have hr := hb _ (List.getElem_mem hlt)
    have ha := area_le (L := L.drop (k + 1)) fun q hq => hb q (List.mem_of_mem_drop hq)
    have hT := area_le hb
    rw [rdrop hlt, areaL] at he
    generalize L[k] = r at *
    have p1 := cnt_pos hr
    have p2 := mul_le p1.1 p1.2.1 p1.2.2.1 p1.2.2.2.1
    have w1 : IntKind.i64.wrap (r.w * r.h) = r.w * r.h := wrap_i64_id (by omega) (by omega)
    have w2 : IntKind.i64.wrap (n + r.w * r.h) = n + r.w * r.h := wrap_i64_id (by omega) (by omega)
    simp -implicitDefEqProofs only [push_cast, hg, rpv, rc, rts_length, seval]
    (repeat (first | refine ⟨(by omega : _ ≤ _), ?_⟩ | refine ⟨(by omega : _ < _), ?_⟩ | refine ⟨by (unfold drawOk; kernel_rfl), ?_⟩ | refine ⟨(by simp; done), ?_⟩ | refine ⟨(by simp; omega), ?_⟩))
    simp -implicitDefEqProofs only [push_cast, w1, w2, hu, seval]
    refine ⟨⟨k + 1, n + r.w * r.h, hlt, by omega, by omega⟩, by simp only; omega, ?_⟩
    (simp only [ArA.st]; exact Wk.at _ _ _ [] [] [] (by simp) (by simp [wkV, PV.el, PV.weak, PS.get, PS.obj, PS.lv, lkp_hit, lkp_miss, lkp_nil, lko, wkL, wkC, res1]) (by simp [PS.get, PS.obj, PS.lv, lkp_hit, lkp_miss, lkp_nil, lko, wkL, wkC, PV.weak, wkL, wkC, res1]))
  · have hke : k = L.length := by simp at g1; omega
    subst hke
    rw [List.drop_length, areaL, Int.add_zero] at he
    simp -implicitDefEqProofs only [push_cast, seval]
    rw [he]
    all_goals (first | done | rfl | exact ⟨_, rfl, by simp [wkL, res2, res1, PV.weak, PV.el]⟩ | (simp [wkL, res2, res1, PV.weak, PV.el]; done))
end Go.Proofs.Sh

/- Package band: whether a place is there; whether two are the same. -/
set_option maxRecDepth 100000
set_option linter.unusedSimpArgs false
set_option linter.unusedVariables false
namespace Go.Proofs.Sh
open Go.Pv
open Rg
def sameL : List Rt → List Rt → Bool
  | [], [] => true
  | r :: L, s :: K => if r = s then sameL L K else false
  | _, _ => false
theorem sameL_iff : ∀ {L K : List Rt}, sameL L K = true ↔ L = K
  | [], [] => by simp [sameL]
  | [], _ :: _ => by simp [sameL]
  | _ :: _, [] => by simp [sameL]
  | r :: L, s :: K => by
    rw [sameL]
    by_cases h : r = s
    · rw [if_pos h, sameL_iff, h]; simp
    · rw [if_neg h]; simp [h]
theorem cnt_in {r : Rt} (h : cntB r = true) : RtIn r := by
  have p := cnt_pos h
  exact ⟨⟨by omega, by omega⟩, ⟨by omega, by omega⟩, ⟨by omega, by omega⟩, ⟨by omega, by omega⟩⟩
theorem wf_in {n : Int} (h : In64 n) : (Lit.int .i64 n).wf = true := by
  unfold In64 at h
  have h1 : IntKind.i64.min = -9223372036854775808 := rfl
  have h2 : IntKind.i64.max = 9223372036854775807 := rfl
  simp only [Lit.wf, h1, h2, Bool.and_eq_true, decide_eq_true_eq]
  omega
def fldsR (P : Program) (t : TypeId) : Array Field := match P.underlying t with | some (.struct fs) => fs | _ => #[]
theorem rc_key (r : Rt) (h : RtIn r) : Try.prog.keyLits 12 41 ((rc r).map toV) = some [Lit.int .i64 r.x, Lit.int .i64 r.y, Lit.int .i64 r.w, Lit.int .i64 r.h] := by
  have hu : Try.prog.underlying 41 = some (.struct (fldsR Try.prog 41)) := by kernel_rfl
  have hn : Try.prog.cellsOf 41 = 4 := by kernel_rfl
  have hall : (fldsR Try.prog 41).all (·.name != "_") = true := by kernel_rfl
  have hm : (fldsR Try.prog 41).toList.map (fun f => (f.offset, f.type)) = [(0, 3), (1, 3), (2, 3), (3, 3)] := by kernel_rfl
  have hi : Try.prog.underlying 3 = some (.int .i64) := by kernel_rfl
  have h1 : Try.prog.cellsOf 3 = 1 := by kernel_rfl
  have one : ∀ n : Int, (Lit.int .i64 n).wf = true → Try.prog.keyLits 11 3 [Value.int .i64 n] = some [Lit.int .i64 n] := fun n hw => by
    unfold Program.keyLits
    rw [hi]
    simp [hw]
  simp only [rc, List.map_cons, List.map_nil, toV]
  unfold Program.keyLits
  rw [hu]
  simp only
  rw [if_pos ⟨by rw [hn]; rfl, hall⟩]
  generalize (fldsR Try.prog 41).toList = fs at hm
  have hlen : fs.length = 4 := by simpa using congrArg List.length hm
  match fs, hlen, hm with
  | [f0, f1, f2, f3], _, hm =>
    simp only [List.map_cons, List.map_nil, List.cons.injEq, Prod.mk.injEq, and_true] at hm
    obtain ⟨⟨o0, t0⟩, ⟨o1, t1⟩, ⟨o2, t2⟩, o3, t3⟩ := hm
    simp [List.mapM_cons, o0, t0, o1, t1, o2, t2, o3, t3, h1, one r.x (wf_in h.1), one r.y (wf_in h.2.1), one r.w (wf_in h.2.2.1), one r.h (wf_in h.2.2.2)]
theorem rect_eq (r s : Rt) (hr : RtIn r) (hs : RtIn s) : aggEq Try.prog 41 (rc r) (rc s) = some (decide (r = s)) := by
  have h : decide (r = s) = (r.x == s.x && (r.y == s.y && (r.w == s.w && r.h == s.h))) := by
    obtain ⟨a, b, c, d⟩ := r
    obtain ⟨a', b', c', d'⟩ := s
    rw [Bool.eq_iff_iff]
    simp
  have h2 : aggEq Try.prog 41 (rc r) (rc s) = some (litsEq [Lit.int .i64 r.x, Lit.int .i64 r.y, Lit.int .i64 r.w, Lit.int .i64 r.h] [Lit.int .i64 s.x, Lit.int .i64 s.y, Lit.int .i64 s.w, Lit.int .i64 s.h]) := by
    unfold aggEq
    rw [rc_key r hr, rc_key s hs]
    rfl
  rw [h, h2]
  simp [litsEq, litEq]
structure EqA (L K : List Rt) where
  k : Nat
  h : k ≤ L.length
  e : sameL L K = sameL (L.drop k) (K.drop k)
def EqA.st (L K : List Rt) (a : EqA L K) : PS := { n := 26, env := [(13, .int .i64 a.k), (12, .int .i64 L.length), (4, .bool false), (1, .sl 4 (rts K)), (0, .sl 4 (rts L))], objs := [], live := [], nxt := 60 }
theorem equal_fs (L K : List Rt) (hL : ∀ r ∈ L, RtIn r) (hK : ∀ r ∈ K, RtIn r) (hl : L.length ≤ 1000000) : Fsp Try.prog 42 [] 0 [.sl 4 (rts L), .sl 4 (rts K)] [] 0 (.bool (sameL L K)) := by
  (refine Fsp.ofs (nx := 0) mixed Try.func42 rfl (by simp [Try.f42]) ?_; simp -implicitDefEqProofs only [push_cast, Try.f42, rts_length, seval])
  refine condC_split (fun g1 => ?_) (fun g1 => ?_)
  · have hs : sameL L K = false := by
      rw [Bool.eq_false_iff]
      intro h
      rw [sameL_iff] at h
      subst h
      simp at g1
    rw [hs]
    simp -implicitDefEqProofs only [push_cast, seval]
    all_goals (first | done | rfl | exact ⟨_, rfl, by simp [wkL, res2, res1, PV.weak, PV.el]⟩ | (simp [wkL, res2, res1, PV.weak, PV.el]; done))
  have hlk : L.length = K.length := by simp at g1; omega
  simp -implicitDefEqProofs only [push_cast, rts_length, seval]
  refine loopC_of (α := EqA L K) (EqA.st L K) (fun a => L.length - a.k) ⟨0, by omega, by simp⟩ ?_ ?_
  · (simp only [EqA.st]; exact Wk.at _ _ _ [] [] [] (by simp) (by simp [wkV, PV.el, PV.weak, PS.get, PS.obj, PS.lv, lkp_hit, lkp_miss, lkp_nil, lko, wkL, wkC, res1]) (by simp [PS.get, PS.obj, PS.lv, lkp_hit, lkp_miss, lkp_nil, lko, wkL, wkC, PV.weak, wkL, wkC, res1]))
  rintro ⟨k, hk, he⟩
  simp only [EqA.st]
  simp -implicitDefEqProofs only [push_cast, rts_length, seval]
  refine condC_split (fun g1 => ?_) (fun g1 => ?_)
  · have hlt : k < L.length := by simp at g1; omega
    have hlt2 : k < K.length := by omega
    have hu := wr_up (k := k) (by omega)
    have hg := rt_at hlt
    have hg2 := rt_at hlt2
    have hr1 := hL _ (List.getElem_mem hlt)
    have hr2 := hK _ (List.getElem_mem hlt2)
    rw [rdrop hlt, rdrop hlt2, sameL] at he
    generalize L[k] = r at *
    generalize K[k] = s at *
    have hq := rect_eq r s hr1 hr2
    simp only [rc] at hq
    have hkt : Try.prog.keyTypeAt 12 41 = true := by kernel_rfl
    simp -implicitDefEqProofs only [push_cast, hg, hg2, rts_length, rpv, rc, hq, hkt, seval]
    (repeat (first | refine ⟨(by omega : _ ≤ _), ?_⟩ | refine ⟨(by omega : _ < _), ?_⟩ | refine ⟨by (unfold drawOk; kernel_rfl), ?_⟩ | refine ⟨(by simp; done), ?_⟩ | refine ⟨(by simp; omega), ?_⟩))
    refine condC_split (fun g2 => ?_) (fun g2 => ?_)
    · rw [if_neg (by simpa using g2)] at he
      rw [he]
      simp -implicitDefEqProofs only [push_cast, seval]
      all_goals (first | done | rfl | exact ⟨_, rfl, by simp [wkL, res2, res1, PV.weak, PV.el]⟩ | (simp [wkL, res2, res1, PV.weak, PV.el]; done))
    · rw [if_pos (by simpa using g2)] at he
      simp -implicitDefEqProofs only [push_cast, hu, seval]
      refine ⟨⟨k + 1, hlt, he⟩, by simp only; omega, ?_⟩
      (simp only [EqA.st]; exact Wk.at _ _ _ [] [] [] (by simp) (by simp [wkV, PV.el, PV.weak, PS.get, PS.obj, PS.lv, lkp_hit, lkp_miss, lkp_nil, lko, wkL, wkC, res1]) (by simp [PS.get, PS.obj, PS.lv, lkp_hit, lkp_miss, lkp_nil, lko, wkL, wkC, PV.weak, wkL, wkC, res1]))
  · have hke : k = L.length := by simp at g1; omega
    subst hke
    rw [List.drop_length, hlk, List.drop_length, sameL] at he
    simp -implicitDefEqProofs only [push_cast, seval]
    rw [he]
    all_goals (first | done | rfl | exact ⟨_, rfl, by simp [wkL, res2, res1, PV.weak, PV.el]⟩ | (simp [wkL, res2, res1, PV.weak, PV.el]; done))
theorem same_fs (L K : List Rt) (hL : Bnd L) (hK : Bnd K) (hl : L.length ≤ 1000000) : Fsp Try.prog 14 [] 0 [rgn L, rgn K] [] 0 (.bool (sameL L K)) := by
  have hE := equal_fs L K (fun r h => cnt_in (hL r h)) (fun r h => cnt_in (hK r h)) hl
  (refine Fsp.ofs (nx := 0) mixed Try.func14 rfl (by simp [Try.f14]) ?_; simp -implicitDefEqProofs only [push_cast, Try.f14, rgn, seval])
  (repeat (first | refine ⟨(by omega : _ ≤ _), ?_⟩ | refine ⟨(by omega : _ < _), ?_⟩ | refine ⟨by (unfold drawOk; kernel_rfl), ?_⟩ | refine ⟨(by simp; done), ?_⟩ | refine ⟨(by simp; omega), ?_⟩))
  refine callE_p hE ?_
  simp -implicitDefEqProofs only [push_cast, seval]
  all_goals (first | done | rfl | exact ⟨_, rfl, by simp [wkL, res2, res1, PV.weak, PV.el]⟩ | (simp [wkL, res2, res1, PV.weak, PV.el]; done))
theorem clip_fs (L : List Rt) (hl : L.length ≤ 4398046511104) : Fsp Try.prog 34 [] 0 [.sl 4 (rts L)] [] 0 (.sl 4 (rts L)) := by
  have ht : (rts L).take L.length = rts L := List.take_of_length_le (by rw [rts_length]; omega)
  (refine Fsp.ofs (nx := 0) mixed Try.func34 rfl (by simp [Try.f34]) ?_; simp -implicitDefEqProofs only [push_cast, Try.f34, rts_length, seval])
  exact ⟨Nat.le_refl _, ht⟩
end Go.Proofs.Sh

/- Package band: a region's rectangles, as a slice of one's own. -/
set_option maxRecDepth 100000
set_option linter.unusedSimpArgs false
set_option linter.unusedVariables false
namespace Go.Proofs.Sh
open Go.Pv
open Rg
theorem of_sl {P : Program} {f : FuncId} {bs bs' : List (List PV)} {nt nt' : Nat} {sz : Nat} {es : List PV} {args : List PV} {r : PV} [GTab] (h1 : es = [] → Fsp P f bs nt (.nilsl :: args) bs' nt' r) (h2 : Fsp P f bs nt (.sln sz es :: args) bs' nt' r) :
    Fsp P f bs nt (.sl sz es :: args) bs' nt' r where
  len := h2.len
  fn := h2.fn
  calls := fun g w vs hI hb ht hs ha => by
    have hv0 : ∃ v, vs[0]? = some v := ⟨vs[0]'(by rw [hs]; simp), by simp⟩
    obtain ⟨v, hv⟩ := hv0
    have hr := (ha 0 v _ hv rfl).sl_inv
    have rest : ∀ (q : PV), Rel g v q → ∀ (i : Nat) (v' : Value) (p : PV), vs[i]? = some v' → (q :: args)[i]? = some p → Rel g v' p := by
      intro q hq i v' p hv' hp
      cases i with
      | zero => rw [hv] at hv'; cases hv'; cases hp; exact hq
      | succ i => exact ha (i + 1) v' p hv' (by simpa using hp)
    cases hr with
    | slnil => exact (h1 rfl).calls g w vs hI hb ht hs (rest _ (.pure _ _ .nilsl))
    | slx a => exact h2.calls g w vs hI hb ht hs (rest _ (.pure _ _ (.slnx a _)))
    | sl b off n cap sz es vals hn hc hm hsz hh ho hp =>
      exact h2.calls g w vs hI hb ht hs (rest _ (.pure _ _ (.sln b off n cap sz es (.sl b off n cap sz es vals hn hc hm hsz hh ho hp))))
/-- Rectangles' cells, one behind the other. -/
def rcs (L : List Rt) : List PV := L.flatMap rc
theorem rcs_length (L : List Rt) : (rcs L).length = L.length * 4 := by
  induction L with
  | nil => rfl
  | cons r L ih => rw [rcs, List.flatMap_cons, List.length_append]; rw [rcs] at ih; rw [ih, List.length_cons]; show 4 + _ = _; omega
theorem wkL_id {R : PV → PV → Prop} : ∀ {l : List PV}, (∀ p ∈ l, R p p) → wkL R l l
  | [], _ => trivial
  | p :: l, h => ⟨h p List.mem_cons_self, wkL_id fun q hq => h q (List.mem_cons_of_mem _ hq)⟩
theorem rcs_int {L : List Rt} {p : PV} (h : p ∈ rcs L) : ∃ n, p = .int .i64 n := by
  obtain ⟨r, _, hr⟩ := List.mem_flatMap.1 h
  simp only [rc, List.mem_cons, List.not_mem_nil, or_false] at hr
  rcases hr with rfl | rfl | rfl | rfl <;> exact ⟨_, rfl⟩
theorem rcs_wk (β τ : List (Nat × Nat)) (em : List Nat) (L : List Rt) : wkL (wkC β τ em) (rcs L) (rcs L) := wkL_id fun p h => by obtain ⟨n, rfl⟩ := rcs_int h; rfl
theorem rcs_res (τ γ : List Nat) (L : List Rt) : wkL (res1 τ γ) (rcs L) (rcs L) := wkL_id fun p h => by obtain ⟨n, rfl⟩ := rcs_int h; rfl
theorem rcs_cell (β τ : List Nat) (L : List Rt) : wkL (cellOK β τ) (rcs L) (rcs L) := wkL_id fun p h => by obtain ⟨n, rfl⟩ := rcs_int h; exact .inr (.inl rfl)
theorem rcs_back (a : List Nat) (b c : Nat) (L : List Rt) : (rcs L).map (PV.back1 a b c) = rcs L := by
  conv => rhs; rw [← List.map_id (rcs L)]
  exact List.map_congr_left fun p h => by obtain ⟨n, rfl⟩ := rcs_int h; rfl
theorem clone_nil : Fsp Try.prog 43 [] 0 [.nilsl] [] 0 .nilsl := by
  (refine Fsp.ofs (nx := 0) mixed Try.func43 rfl (by simp [Try.f43]) ?_; simp -implicitDefEqProofs only [push_cast, Try.f43, seval])
theorem clone_sln (L : List Rt) (hl : L.length ≤ 1000000000) : Fsp Try.prog 43 [] 0 [.sln 4 (rts L)] [] 1 (.slt 4 (rts L) 0) := by
  (refine Fsp.ofs (nx := 0) mixed Try.func43 rfl (by simp [Try.f43]) ?_; simp -implicitDefEqProofs only [push_cast, Try.f43, rts_length, seval])
  refine callE_bs ?_
  simp -implicitDefEqProofs only [push_cast, rts_length, seval]
  (repeat (first | refine ⟨(by omega : _ ≤ _), ?_⟩ | refine ⟨(by omega : _ < _), ?_⟩ | refine ⟨by (unfold drawOk; kernel_rfl), ?_⟩ | refine ⟨(by simp; done), ?_⟩ | refine ⟨(by simp; omega), ?_⟩))
  exact endK_toks [20] rfl rfl (by simp [PS.lv, lkp_hit, lkp_miss, lkp_nil]) ⟨by simp [resOk, PS.get, PS.obj, lkp_hit, lkp_miss, lkp_nil, PS.ev, ldPV, ldOk, ofC, ofC1, TK.isAgg, PV.cnd], by simp [resPV, PS.get, PS.obj, lkp_hit, lkp_miss, lkp_nil, PS.ev, ldPV, ldOk, ofC, ofC1, TK.isAgg, PV.cnd], by simp [resOf, resPV, one', res3, res2, res1, PV.weak, PV.el, wkL, idx, PV.un, PS.get, PS.obj, lkp_hit, lkp_miss, lkp_nil, PS.ev, ldPV, ldOk, ofC, ofC1, TK.isAgg, PV.cnd]⟩
theorem clone_fs (L : List Rt) (hl : L.length ≤ 1000000000) : Fsp Try.prog 43 [] 0 [.sl 4 (rts L)] [] 0 (.sl 4 (rts L)) :=
  (of_sl (fun h => by rw [h]; exact clone_nil.nilTok) (clone_sln L hl)).untok
/-- Of a region, to read. -/
theorem rects_fs (L : List Rt) (hl : L.length ≤ 1000000000) : Fsp Try.prog 15 [] 0 [rgn L] [] 0 (.sl 4 (rts L)) := by
  have hC := clone_fs L hl
  (refine Fsp.ofs (nx := 0) mixed Try.func15 rfl (by simp [Try.f15]) ?_; simp -implicitDefEqProofs only [push_cast, Try.f15, rgn, seval])
  (repeat (first | refine ⟨(by omega : _ ≤ _), ?_⟩ | refine ⟨(by omega : _ < _), ?_⟩ | refine ⟨by (unfold drawOk; kernel_rfl), ?_⟩ | refine ⟨(by simp; done), ?_⟩ | refine ⟨(by simp; omega), ?_⟩))
  refine callE_p hC ?_
  simp -implicitDefEqProofs only [push_cast, seval]
  all_goals (first | done | rfl | exact ⟨_, rfl, by simp [wkL, res2, res1, PV.weak, PV.el]⟩ | (simp [wkL, res2, res1, PV.weak, PV.el]; done))
end Go.Proofs.Sh

/- Package band: rectangles above a row are taken out (slices.IndexFunc, slices.DeleteFunc). -/
set_option maxRecDepth 100000
set_option linter.unusedSimpArgs false
set_option linter.unusedVariables false
namespace Go.Proofs.Sh
open Go.Pv
open Rg
theorem rcs_app (A B : List Rt) : rcs (A ++ B) = rcs A ++ rcs B := by simp [rcs]
theorem rcs_cons (r : Rt) (L : List Rt) : rcs (r :: L) = rc r ++ rcs L := rfl
theorem rcs_drop (L : List Rt) (k : Nat) : (rcs L).drop (k * 4) = rcs (L.drop k) := by
  by_cases h : k ≤ L.length
  · have e : L = L.take k ++ L.drop k := (List.take_append_drop k L).symm
    conv => lhs; rw [e, rcs_app]
    have hl : (rcs (L.take k)).length = k * 4 := by rw [rcs_length, List.length_take, Nat.min_eq_left h]
    rw [← hl, List.drop_left]
  · rw [List.drop_eq_nil_of_le (by rw [rcs_length]; omega), List.drop_eq_nil_of_le (by omega)]; rfl
theorem rcs_take (L : List Rt) (k : Nat) : (rcs L).take (k * 4) = rcs (L.take k) := by
  by_cases h : k ≤ L.length
  · have e : L = L.take k ++ L.drop k := (List.take_append_drop k L).symm
    conv => lhs; rw [e, rcs_app]
    have hl : (rcs (L.take k)).length = k * 4 := by rw [rcs_length, List.length_take, Nat.min_eq_left h]
    rw [← hl, List.take_left]
  · rw [List.take_of_length_le (by rw [rcs_length]; omega), List.take_of_length_le (by omega)]
theorem rcs_at {L : List Rt} {k : Nat} (h : k < L.length) : ((rcs L).drop (k * 4)).take 4 = rc L[k] := by rw [rcs_drop, rdrop h]; rfl
theorem rcs_room {L : List Rt} {k : Nat} (h : k < L.length) : 4 ≤ ((rcs L).drop (k * 4)).length := by rw [List.length_drop, rcs_length]; omega
theorem rcs_set {L : List Rt} {k : Nat} (h : k < L.length) (r : Rt) : setC (rcs L) (k * 4) (rc r) = rcs (L.set k r) := by
  rw [List.set_eq_take_append_cons_drop, if_pos h, rcs_app, rcs_cons]
  unfold setC
  rw [rcs_take, show k * 4 + (rc r).length = (k + 1) * 4 by show k * 4 + 4 = _; omega, rcs_drop, List.append_assoc]
theorem rcs_set' {L : List Rt} {k : Nat} (h : k < L.length) (r : Rt) : (rcs L).take (k * 4) ++ (.int .i64 r.x :: .int .i64 r.y :: .int .i64 r.w :: .int .i64 r.h :: (rcs L).drop (k * 4 + 4)) = rcs (L.set k r) := by
  have := rcs_set h r
  simp only [setC, rc, List.length_cons, List.length_nil, List.append_assoc, List.cons_append, List.nil_append] at this
  exact this
theorem rcs_tok (n m nb : Nat) (L : List Rt) : ∀ p ∈ rcs L, tokLt1 n m nb p = true := fun p h => by obtain ⟨n, rfl⟩ := rcs_int h; rfl
theorem tok_nil {n m nb : Nat} : ∀ cs ∈ ([] : List (List PV)), ∀ p ∈ cs, tokLt1 n m nb p = true := fun cs h => by cases h
theorem tok_cons {n m nb : Nat} {cs : List PV} {l : List (List PV)} (h1 : ∀ p ∈ cs, tokLt1 n m nb p = true) (h2 : ∀ cs ∈ l, ∀ p ∈ cs, tokLt1 n m nb p = true) : ∀ ds ∈ cs :: l, ∀ p ∈ ds, tokLt1 n m nb p = true := fun ds h => by
  rcases List.mem_cons.1 h with rfl | h
  · exact h1
  · exact h2 ds h
/-- Integers, one behind the other. -/
def ics (l : List Int) : List PV := l.map fun n => .int .i64 n
theorem ics_length (l : List Int) : (ics l).length = l.length := List.length_map _
theorem ics_int {l : List Int} {p : PV} (h : p ∈ ics l) : ∃ n, p = .int .i64 n := by obtain ⟨n, _, rfl⟩ := List.mem_map.1 h; exact ⟨n, rfl⟩
theorem ics_wk (β τ : List (Nat × Nat)) (em : List Nat) (L : List Int) : wkL (wkC β τ em) (ics L) (ics L) := wkL_id fun p h => by obtain ⟨n, rfl⟩ := ics_int h; rfl
theorem ics_res (τ γ : List Nat) (L : List Int) : wkL (res1 τ γ) (ics L) (ics L) := wkL_id fun p h => by obtain ⟨n, rfl⟩ := ics_int h; rfl
theorem ics_cell (β τ : List Nat) (L : List Int) : wkL (cellOK β τ) (ics L) (ics L) := wkL_id fun p h => by obtain ⟨n, rfl⟩ := ics_int h; exact .inr (.inl rfl)
theorem ics_tok (n m nb : Nat) (L : List Int) : ∀ p ∈ ics L, tokLt1 n m nb p = true := fun p h => by obtain ⟨n, rfl⟩ := ics_int h; rfl
theorem ics_back (a : List Nat) (b c : Nat) (L : List Int) : (ics L).map (PV.back1 a b c) = ics L := by
  conv => rhs; rw [← List.map_id (ics L)]
  exact List.map_congr_left fun p h => by obtain ⟨n, rfl⟩ := ics_int h; rfl
theorem del_fs (y : Int) (r : Rt) (hr : cntB r = true) : Fsp Try.prog 30 [[.int .i64 y]] 0 [rpv r, .box 0 0] [[.int .i64 y]] 0 (.bool (decide (r.y + r.h ≤ y))) := by
  have p := cnt_pos hr
  have w1 : IntKind.i64.wrap (r.y + r.h) = r.y + r.h := wrap_i64_id (by omega) (by omega)
  (refine Fsp.of (nx := 1) mixed Try.func30 rfl (by decide) (by first | exact Nat.le_refl _ | simp) (by simp [Try.f30]) ⟨by simp, by simp⟩ ?_; simp -implicitDefEqProofs only [push_cast, Try.f30, rpv, rc, w1, seval])
  (repeat (first | refine ⟨(by omega : _ ≤ _), ?_⟩ | refine ⟨(by omega : _ < _), ?_⟩ | refine ⟨by (unfold drawOk; kernel_rfl), ?_⟩ | refine ⟨(by simp; done), ?_⟩ | refine ⟨(by simp; omega), ?_⟩))
  exact endK_box [] [0] rfl rfl (by simp [PS.lv, lkp_hit, lkp_miss, lkp_nil]) rfl rfl (by rfl) (fun i j ps h1 h2 => by (rcases i with _ | i <;> simp at h1 h2 <;> (subst h1; subst h2; exact ⟨_, rfl, (by (repeat' (first | exact wkL_nil | refine wkL_cons ?_ ?_)); all_goals (first | rfl | exact ⟨rfl, rfl⟩ | exact ⟨rfl, rfl, rfl⟩ | exact .inl rfl))⟩))) ⟨by simp [resOk, PS.get, lkp_hit, lkp_miss, PS.ev], by simp [resPV, PS.get, lkp_hit, lkp_miss, PS.ev], by simp [resOf, resPV, one', res3, res2, res1, PS.get, lkp_hit, lkp_miss, PS.ev, PV.weak, PV.el, wkL]⟩
def abv (y : Int) (r : Rt) : Bool := decide (r.y + r.h ≤ y)
structure IfA (y : Int) (L : List Rt) where
  k : Nat
  h : k ≤ L.length
  e : ∀ j (hj : j < L.length), j < k → abv y L[j] = false
def IfA.st (y : Int) (L : List Rt) (a : IfA y L) : PS := { n := 19, env := [(8, .int .i64 a.k), (7, .int .i64 L.length), (4, .int .i64 0), (1, .fn 30 [.box 1 0]), (0, .slg 0 L.length 4)], objs := [(0, some (rcs L)), (1, some [.int .i64 y])], live := [], nxt := 60 }
def idxD (y : Int) (L : List Rt) : Int := if L.findIdx (abv y) < L.length then (L.findIdx (abv y) : Int) else -1
theorem idxf_fs (y : Int) (L : List Rt) (hb : Bnd L) (hl : L.length ≤ 4398046511104) : Fsp Try.prog 53 [rcs L, [.int .i64 y]] 0 [.slg 0 L.length 4, .fn 30 [.box 1 0]] [rcs L, [.int .i64 y]] 0 (.int .i64 (idxD y L)) := by
  generalize hR : idxD y L = R
  unfold idxD at hR
  (refine Fsp.of (nx := 2) mixed Try.func53 rfl (by decide) (by first | exact Nat.le_refl _ | simp) (by simp [Try.f53]) ⟨by simp, by simp⟩ ?_; simp -implicitDefEqProofs only [push_cast, Try.f53, seval])
  refine loopC_of (α := IfA y L) (IfA.st y L) (fun a => L.length - a.k) ⟨0, by omega, fun j _ h => absurd h (Nat.not_lt_zero _)⟩ ?_ ?_
  · (simp only [IfA.st]; exact Wk.by _ _ _ [(0,0),(1,1)] [] [] (by simp) (by simp [wkV, PV.el, PV.weak, PS.get, PS.obj, PS.lv, lkp_hit, lkp_miss, lkp_nil, lko, wkL, wkC, res1, rcs_wk, ics_wk]) (by simp [PS.get, PS.obj, PS.lv, lkp_hit, lkp_miss, lkp_nil, lko, wkL, wkC, PV.weak, wkL, wkC, res1, rcs_wk, ics_wk]) (by simp [PS.get, PS.obj, PS.lv, lkp_hit, lkp_miss, lkp_nil, lko]) (by rfl) (by rfl) (by simp [lko]) (by simp) (by simp) (by simp) (fun i hi => by rcases i with _ | _ | _ | _ | _ | _ | i <;> first | rfl | (exfalso; omega)))
  rintro ⟨k, hk, he⟩
  simp only [IfA.st]
  simp -implicitDefEqProofs only [push_cast, seval]
  refine condC_split (fun g1 => ?_) (fun g1 => ?_)
  · have hlt : k < L.length := by simp at g1; omega
    have hu := wr_up (k := k) (by omega)
    have ha := rcs_at hlt
    have hro := rcs_room hlt
    have hD := del_fs y L[k] (hb _ (List.getElem_mem hlt))
    cases c : abv y L[k] with
    | true =>
      rw [show decide (L[k].y + L[k].h ≤ y) = true from c] at hD
      have hfi : L.findIdx (abv y) = k := (List.findIdx_eq hlt).2 ⟨c, fun j hj => he j (by omega) hj⟩
      rw [hfi, if_pos hlt] at hR
      subst hR
      simp -implicitDefEqProofs only [push_cast, ha, seval]
      refine ⟨by omega, hro, ?_⟩
      refine callE_box hD [1] [] (by rfl) (by rfl) (by rfl) (by rfl) (by rfl) (by rfl) (fun i j cs h1 h2 => by (rcases i with _ | _ | _ | i <;> simp at h1 h2 <;> (subst h1; subst h2; exact ⟨_, rfl, (by first | exact rcs_cell _ _ _ | exact ics_cell _ _ _ | exact (by (repeat' (first | exact wkL_nil | refine wkL_cons ?_ ?_)); all_goals (first | exact .inl ⟨_, _, _, _, rfl, rfl, rfl⟩ | exact .inr (.inr (.inr (.inr (.inl ⟨_, _, _, rfl, rfl, rfl⟩)))) | exact .inr (.inr (.inr (.inr (.inr (.inl ⟨_, _, _, _, rfl, rfl, rfl⟩))))) | exact .inr (.inr (.inr (.inr (.inr (.inr ⟨_, _, rfl, rfl, rfl⟩))))) | exact .inr (.inl rfl) | exact .inr (.inr (.inl ⟨_, _, _, rfl, rfl, rfl⟩)))) | exact (by (repeat' (first | exact wkL_nil | refine wkL_cons ?_ ?_)); all_goals (first | exact .inr (.inl rfl) | exact .inr (.inr (.inl ⟨_, _, _, rfl, rfl, rfl⟩)) | exact .inr (.inr (.inr (.inl ⟨_, _, _, _, _, rfl, rfl, rfl⟩))) | exact .inr (.inr (.inr (.inr (.inr (.inr (.inr ⟨_, _, _, _, rfl, rfl, rfl⟩)))))))))⟩))) (by simp [PS.lv, lkp_hit, lkp_miss, lkp_nil]) (by (repeat' (first | exact wkL_nil | refine wkL_cons ?_ ?_)); all_goals (first | exact .inl ⟨_, _, _, rfl, rfl, rfl⟩ | exact .inr (.inl rfl) | exact .inr (.inr (.inl ⟨_, _, _, _, rfl, rfl, rfl⟩)) | exact .inr (.inr (.inr (.inl ⟨_, _, _, rfl, rfl, rfl, (wkL_get (by (repeat' (first | exact wkL_nil | refine wkL_cons ?_ ?_)); all_goals (first | exact .inl ⟨_, _, _, rfl, rfl, rfl⟩ | exact .inr rfl))).2⟩))) | exact .inr (.inr (.inr (.inr (.inr (.inr (.inl ⟨_, _, _, _, rfl, rfl, rfl⟩)))))) | exact .inr (.inr (.inr (.inr (.inr (.inr (.inr ⟨_, _, _, _, _, rfl, rfl, rfl⟩)))))))) (by decide) (by simp) (by rfl) (by (repeat' (first | exact tok_nil | refine tok_cons ?_ ?_)); all_goals (first | exact rcs_tok _ _ _ _ | exact ics_tok _ _ _ _ | (simp [tokLt1, rpv]; done))) (fun _ => by rfl) (by first | rfl | simp [gdOk, newToks]) ?_
      simp -implicitDefEqProofs only [push_cast, seval]
      exact endK_box [] [0, 1] rfl rfl (by simp [PS.lv, lkp_hit, lkp_miss, lkp_nil]) rfl rfl (by rfl) (fun i j ps h1 h2 => by (rcases i with _ | _ | i <;> simp at h1 h2 <;> (subst h1; subst h2; exact ⟨_, rfl, (by first | exact rcs_res _ _ _ | exact ics_res _ _ _ | exact (by (repeat' (first | exact wkL_nil | refine wkL_cons ?_ ?_)); all_goals (first | rfl | exact ⟨rfl, rfl⟩ | exact ⟨rfl, rfl, rfl⟩ | exact .inl rfl)))⟩))) ⟨by simp [resOk, PS.get, lkp_hit, lkp_miss, PS.ev], by simp [resPV, PS.get, lkp_hit, lkp_miss, PS.ev], by simp [resOf, resPV, one', res3, res2, res1, PS.get, lkp_hit, lkp_miss, PS.ev, PV.weak, PV.el, wkL]⟩
    | false =>
      rw [show decide (L[k].y + L[k].h ≤ y) = false from c] at hD
      simp -implicitDefEqProofs only [push_cast, ha, seval]
      refine ⟨by omega, hro, ?_⟩
      refine callE_box hD [1] [] (by rfl) (by rfl) (by rfl) (by rfl) (by rfl) (by rfl) (fun i j cs h1 h2 => by (rcases i with _ | _ | _ | i <;> simp at h1 h2 <;> (subst h1; subst h2; exact ⟨_, rfl, (by first | exact rcs_cell _ _ _ | exact ics_cell _ _ _ | exact (by (repeat' (first | exact wkL_nil | refine wkL_cons ?_ ?_)); all_goals (first | exact .inl ⟨_, _, _, _, rfl, rfl, rfl⟩ | exact .inr (.inr (.inr (.inr (.inl ⟨_, _, _, rfl, rfl, rfl⟩)))) | exact .inr (.inr (.inr (.inr (.inr (.inl ⟨_, _, _, _, rfl, rfl, rfl⟩))))) | exact .inr (.inr (.inr (.inr (.inr (.inr ⟨_, _, rfl, rfl, rfl⟩))))) | exact .inr (.inl rfl) | exact .inr (.inr (.inl ⟨_, _, _, rfl, rfl, rfl⟩)))) | exact (by (repeat' (first | exact wkL_nil | refine wkL_cons ?_ ?_)); all_goals (first | exact .inr (.inl rfl) | exact .inr (.inr (.inl ⟨_, _, _, rfl, rfl, rfl⟩)) | exact .inr (.inr (.inr (.inl ⟨_, _, _, _, _, rfl, rfl, rfl⟩))) | exact .inr (.inr (.inr (.inr (.inr (.inr (.inr ⟨_, _, _, _, rfl, rfl, rfl⟩)))))))))⟩))) (by simp [PS.lv, lkp_hit, lkp_miss, lkp_nil]) (by (repeat' (first | exact wkL_nil | refine wkL_cons ?_ ?_)); all_goals (first | exact .inl ⟨_, _, _, rfl, rfl, rfl⟩ | exact .inr (.inl rfl) | exact .inr (.inr (.inl ⟨_, _, _, _, rfl, rfl, rfl⟩)) | exact .inr (.inr (.inr (.inl ⟨_, _, _, rfl, rfl, rfl, (wkL_get (by (repeat' (first | exact wkL_nil | refine wkL_cons ?_ ?_)); all_goals (first | exact .inl ⟨_, _, _, rfl, rfl, rfl⟩ | exact .inr rfl))).2⟩))) | exact .inr (.inr (.inr (.inr (.inr (.inr (.inl ⟨_, _, _, _, rfl, rfl, rfl⟩)))))) | exact .inr (.inr (.inr (.inr (.inr (.inr (.inr ⟨_, _, _, _, _, rfl, rfl, rfl⟩)))))))) (by decide) (by simp) (by rfl) (by (repeat' (first | exact tok_nil | refine tok_cons ?_ ?_)); all_goals (first | exact rcs_tok _ _ _ _ | exact ics_tok _ _ _ _ | (simp [tokLt1, rpv]; done))) (fun _ => by rfl) (by first | rfl | simp [gdOk, newToks]) ?_
      simp -implicitDefEqProofs only [push_cast, hu, seval]
      refine ⟨⟨k + 1, hlt, fun j hj hj2 => ?_⟩, by simp only; omega, ?_⟩
      · by_cases e : j = k
        · subst e; exact c
        · exact he j hj (by omega)
      (simp only [IfA.st]; exact Wk.by _ _ _ [(0,0),(1,1)] [] [] (by simp) (by simp [wkV, PV.el, PV.weak, PS.get, PS.obj, PS.lv, lkp_hit, lkp_miss, lkp_nil, lko, wkL, wkC, res1, rcs_wk, ics_wk]) (by simp [PS.get, PS.obj, PS.lv, lkp_hit, lkp_miss, lkp_nil, lko, wkL, wkC, PV.weak, wkL, wkC, res1, rcs_wk, ics_wk]) (by simp [PS.get, PS.obj, PS.lv, lkp_hit, lkp_miss, lkp_nil, lko]) (by rfl) (by rfl) (by simp [lko]) (by simp) (by simp) (by simp) (fun i hi => by rcases i with _ | _ | _ | _ | _ | _ | i <;> first | rfl | (exfalso; omega)))
  · have hke : k = L.length := by simp at g1; omega
    subst hke
    have hfi : L.findIdx (abv y) = L.length := List.findIdx_eq_length.2 fun x hx => by
      obtain ⟨j, hj, rfl⟩ := List.mem_iff_getElem.1 hx
      exact he j hj hj
    rw [hfi, if_neg (Nat.lt_irrefl _)] at hR
    subst hR
    simp -implicitDefEqProofs only [push_cast, seval]
    exact endK_box [] [0, 1] rfl rfl (by simp [PS.lv, lkp_hit, lkp_miss, lkp_nil]) rfl rfl (by rfl) (fun i j ps h1 h2 => by (rcases i with _ | _ | i <;> simp at h1 h2 <;> (subst h1; subst h2; exact ⟨_, rfl, (by first | exact rcs_res _ _ _ | exact ics_res _ _ _ | exact (by (repeat' (first | exact wkL_nil | refine wkL_cons ?_ ?_)); all_goals (first | rfl | exact ⟨rfl, rfl⟩ | exact ⟨rfl, rfl, rfl⟩ | exact .inl rfl)))⟩))) ⟨by simp [resOk, PS.get, lkp_hit, lkp_miss, PS.ev], by simp [resPV, PS.get, lkp_hit, lkp_miss, PS.ev], by simp [resOf, resPV, one', res3, res2, res1, PS.get, lkp_hit, lkp_miss, PS.ev, PV.weak, PV.el, wkL]⟩
end Go.Proofs.Sh

/- Package band: rectangles above a row are taken out of their slice (slices.DeleteFunc). -/
set_option maxRecDepth 100000
set_option linter.unusedSimpArgs false
set_option linter.unusedVariables false
namespace Go.Proofs.Sh
open Go.Pv
open Rg
def kp (y : Int) (L : List Rt) : List Rt := L.filter fun r => !abv y r
theorem kp_le (y : Int) (L : List Rt) : (kp y L).length ≤ L.length := List.length_filter_le _ _
theorem kp_app (y : Int) (A B : List Rt) : kp y (A ++ B) = kp y A ++ kp y B := List.filter_append ..
theorem idxf_nil (y : Int) : Fsp Try.prog 53 [[.int .i64 y]] 0 [.nilsl, .fn 30 [.box 0 0]] [[.int .i64 y]] 0 (.int .i64 (-1)) := by
  (refine Fsp.of (nx := 1) mixed Try.func53 rfl (by decide) (by first | exact Nat.le_refl _ | simp) (by simp [Try.f53]) ⟨by simp, by simp⟩ ?_; simp -implicitDefEqProofs only [push_cast, Try.f53, seval])
  refine loopC_un 1 ?_
  simp -implicitDefEqProofs only [push_cast, seval]
  exact endK_box [] [0] rfl rfl (by simp [PS.lv, lkp_hit, lkp_miss, lkp_nil]) rfl rfl (by rfl) (fun i j ps h1 h2 => by (rcases i with _ | i <;> simp at h1 h2 <;> (subst h1; subst h2; exact ⟨_, rfl, (by (repeat' (first | exact wkL_nil | refine wkL_cons ?_ ?_)); all_goals (first | rfl | exact ⟨rfl, rfl⟩ | exact ⟨rfl, rfl, rfl⟩ | exact .inl rfl))⟩))) ⟨by simp [resOk, PS.get, lkp_hit, lkp_miss, PS.ev], by simp [resPV, PS.get, lkp_hit, lkp_miss, PS.ev], by simp [resOf, resPV, one', res3, res2, res1, PS.get, lkp_hit, lkp_miss, PS.ev, PV.weak, PV.el, wkL]⟩
theorem delf_nil (y : Int) : Fsp Try.prog 29 [[.int .i64 y]] 0 [.nilsl, .fn 30 [.box 0 0]] [[.int .i64 y]] 0 .nilsl := by
  have h1 := idxf_nil y
  (refine Fsp.of (nx := 1) mixed Try.func29 rfl (by decide) (by first | exact Nat.le_refl _ | simp) (by simp [Try.f29]) ⟨by simp, by simp⟩ ?_; simp -implicitDefEqProofs only [push_cast, Try.f29, seval])
  refine callE_box h1 [0] [] (by rfl) (by rfl) (by rfl) (by rfl) (by rfl) (by rfl) (fun i j cs h1 h2 => by (rcases i with _ | _ | _ | i <;> simp at h1 h2 <;> (subst h1; subst h2; exact ⟨_, rfl, (by first | exact rcs_cell _ _ _ | exact ics_cell _ _ _ | exact (by (repeat' (first | exact wkL_nil | refine wkL_cons ?_ ?_)); all_goals (first | exact .inl ⟨_, _, _, _, rfl, rfl, rfl⟩ | exact .inr (.inr (.inr (.inr (.inl ⟨_, _, _, rfl, rfl, rfl⟩)))) | exact .inr (.inr (.inr (.inr (.inr (.inl ⟨_, _, _, _, rfl, rfl, rfl⟩))))) | exact .inr (.inr (.inr (.inr (.inr (.inr ⟨_, _, rfl, rfl, rfl⟩))))) | exact .inr (.inl rfl) | exact .inr (.inr (.inl ⟨_, _, _, rfl, rfl, rfl⟩)))) | exact (by (repeat' (first | exact wkL_nil | refine wkL_cons ?_ ?_)); all_goals (first | exact .inr (.inl rfl) | exact .inr (.inr (.inl ⟨_, _, _, rfl, rfl, rfl⟩)) | exact .inr (.inr (.inr (.inl ⟨_, _, _, _, _, rfl, rfl, rfl⟩))) | exact .inr (.inr (.inr (.inr (.inr (.inr (.inr ⟨_, _, _, _, rfl, rfl, rfl⟩)))))))))⟩))) (by simp [PS.lv, lkp_hit, lkp_miss, lkp_nil]) (by (repeat' (first | exact wkL_nil | refine wkL_cons ?_ ?_)); all_goals (first | exact .inl ⟨_, _, _, rfl, rfl, rfl⟩ | exact .inr (.inl rfl) | exact .inr (.inr (.inl ⟨_, _, _, _, rfl, rfl, rfl⟩)) | exact .inr (.inr (.inr (.inl ⟨_, _, _, rfl, rfl, rfl, (wkL_get (by (repeat' (first | exact wkL_nil | refine wkL_cons ?_ ?_)); all_goals (first | exact .inl ⟨_, _, _, rfl, rfl, rfl⟩ | exact .inr rfl))).2⟩))) | exact .inr (.inr (.inr (.inr (.inr (.inr (.inl ⟨_, _, _, _, rfl, rfl, rfl⟩)))))) | exact .inr (.inr (.inr (.inr (.inr (.inr (.inr ⟨_, _, _, _, _, rfl, rfl, rfl⟩)))))))) (by decide) (by simp) (by rfl) (by (repeat' (first | exact tok_nil | refine tok_cons ?_ ?_)); all_goals (first | exact rcs_tok _ _ _ _ | exact ics_tok _ _ _ _ | (simp [tokLt1]; done))) (fun _ => by rfl) (by first | rfl | simp [gdOk, newToks]) ?_
  simp -implicitDefEqProofs only [push_cast, seval]
  exact endK_box [] [0] rfl rfl (by simp [PS.lv, lkp_hit, lkp_miss, lkp_nil]) rfl rfl (by rfl) (fun i j ps h1 h2 => by (rcases i with _ | i <;> simp at h1 h2 <;> (subst h1; subst h2; exact ⟨_, rfl, (by (repeat' (first | exact wkL_nil | refine wkL_cons ?_ ?_)); all_goals (first | rfl | exact ⟨rfl, rfl⟩ | exact ⟨rfl, rfl, rfl⟩ | exact .inl rfl))⟩))) ⟨by simp [resOk, PS.get, lkp_hit, lkp_miss, PS.ev], by simp [resPV, PS.get, lkp_hit, lkp_miss, PS.ev], by simp [resOf, resPV, one', res3, res2, res1, PS.get, lkp_hit, lkp_miss, PS.ev, PV.weak, PV.el, wkL]⟩
structure DfA (y : Int) (L : List Rt) where
  i : Nat
  j : Nat
  M : List Rt
  hM : M.length = L.length
  hi : i < j
  hj : j ≤ L.length
  ht : M.take i = kp y (L.take j)
  hd : M.drop j = L.drop j
def DfA.st (y : Int) (L : List Rt) (a : DfA y L) : PS := { n := 42, env := [(6, .int .i64 a.j), (5, .int .i64 a.i), (4, .nilsl), (1, .fn 30 [.box 1 0]), (0, .slg 0 L.length 4)], objs := [(0, some (rcs a.M)), (1, some [.int .i64 y])], live := [], nxt := 60 }
def dfC (y : Int) (L : List Rt) : List PV := rcs (kp y L) ++ List.replicate ((L.length - (kp y L).length) * 4) .any
theorem dfC_wk (y : Int) (L : List Rt) : wkL (res1 [] [0, 1]) (dfC y L) (dfC y L) := wkL_id fun p h => by
  rcases List.mem_append.1 h with h | h
  · obtain ⟨n, rfl⟩ := rcs_int h; rfl
  · rw [List.eq_of_mem_replicate h]; trivial
theorem delf0_fs (y : Int) (L : List Rt) (hb : Bnd L) (hl : L.length ≤ 4398046511104) : Fsp Try.prog 29 [rcs L, [.int .i64 y]] 0 [.slg 0 L.length 4, .fn 30 [.box 1 0]] [dfC y L, [.int .i64 y]] 0 (.slg 0 (kp y L).length 4) := by
  have h1 := idxf_fs y L hb hl
  unfold idxD at h1
  by_cases hf : L.findIdx (abv y) < L.length
  · rw [if_pos hf] at h1
    have hf1 : abv y L[L.findIdx (abv y)] = true := List.findIdx_getElem (w := hf)
    have hf2 : ∀ k (hk : k < L.length), k < L.findIdx (abv y) → abv y L[k] = false := fun k hk h => by simpa using List.not_of_lt_findIdx h
    generalize L.findIdx (abv y) = i0 at *
    have hneg : ((i0 : Int) == -1) = false := by simp
    have hu0 := wr_up (k := i0) (by omega)
    have ht0 : L.take i0 = kp y (L.take (i0 + 1)) := by
      have e : L.take (i0 + 1) = L.take i0 ++ [L[i0]] := by rw [List.take_add_one, List.getElem?_eq_getElem hf]; rfl
      rw [e, kp_app, show kp y [L[i0]] = [] by simp [kp, hf1], List.append_nil]
      refine (List.filter_eq_self.2 fun r hr => ?_).symm
      obtain ⟨k, hk, rfl⟩ := List.mem_iff_getElem.1 hr
      rw [List.length_take] at hk
      rw [List.getElem_take, hf2 k (by omega) (by omega)]; rfl
    (refine Fsp.of (nx := 2) mixed Try.func29 rfl (by decide) (by first | exact Nat.le_refl _ | simp) (by simp [Try.f29]) ⟨by simp, by simp⟩ ?_; simp -implicitDefEqProofs only [push_cast, Try.f29, seval])
    refine callE_box h1 [0, 1] [] (by rfl) (by rfl) (by rfl) (by rfl) (by rfl) (by rfl) (fun i j cs h1 h2 => by (rcases i with _ | _ | _ | i <;> simp at h1 h2 <;> (subst h1; subst h2; exact ⟨_, rfl, (by first | exact rcs_cell _ _ _ | exact ics_cell _ _ _ | exact (by (repeat' (first | exact wkL_nil | refine wkL_cons ?_ ?_)); all_goals (first | exact .inl ⟨_, _, _, _, rfl, rfl, rfl⟩ | exact .inr (.inr (.inr (.inr (.inl ⟨_, _, _, rfl, rfl, rfl⟩)))) | exact .inr (.inr (.inr (.inr (.inr (.inl ⟨_, _, _, _, rfl, rfl, rfl⟩))))) | exact .inr (.inr (.inr (.inr (.inr (.inr ⟨_, _, rfl, rfl, rfl⟩))))) | exact .inr (.inl rfl) | exact .inr (.inr (.inl ⟨_, _, _, rfl, rfl, rfl⟩)))) | exact (by (repeat' (first | exact wkL_nil | refine wkL_cons ?_ ?_)); all_goals (first | exact .inr (.inl rfl) | exact .inr (.inr (.inl ⟨_, _, _, rfl, rfl, rfl⟩)) | exact .inr (.inr (.inr (.inl ⟨_, _, _, _, _, rfl, rfl, rfl⟩))) | exact .inr (.inr (.inr (.inr (.inr (.inr (.inr ⟨_, _, _, _, rfl, rfl, rfl⟩)))))))))⟩))) (by simp [PS.lv, lkp_hit, lkp_miss, lkp_nil]) (by (repeat' (first | exact wkL_nil | refine wkL_cons ?_ ?_)); all_goals (first | exact .inl ⟨_, _, _, rfl, rfl, rfl⟩ | exact .inr (.inl rfl) | exact .inr (.inr (.inl ⟨_, _, _, _, rfl, rfl, rfl⟩)) | exact .inr (.inr (.inr (.inl ⟨_, _, _, rfl, rfl, rfl, (wkL_get (by (repeat' (first | exact wkL_nil | refine wkL_cons ?_ ?_)); all_goals (first | exact .inl ⟨_, _, _, rfl, rfl, rfl⟩ | exact .inr rfl))).2⟩))) | exact .inr (.inr (.inr (.inr (.inr (.inr (.inl ⟨_, _, _, _, rfl, rfl, rfl⟩)))))) | exact .inr (.inr (.inr (.inr (.inr (.inr (.inr ⟨_, _, _, _, _, rfl, rfl, rfl⟩)))))))) (by decide) (by simp) (by rfl) (by (repeat' (first | exact tok_nil | refine tok_cons ?_ ?_)); all_goals (first | exact rcs_tok _ _ _ _ | exact ics_tok _ _ _ _ | (simp [tokLt1]; done))) (fun _ => by rfl) (by first | rfl | simp [gdOk, newToks]) ?_
    simp -implicitDefEqProofs only [push_cast, hneg, hu0, rcs_back, seval]
    refine loopC_of (α := DfA y L) (DfA.st y L) (fun a => L.length - a.j) ⟨i0, i0 + 1, L, rfl, by omega, hf, ht0, rfl⟩ ?_ ?_
    · (simp only [DfA.st]; exact Wk.by _ _ _ [(0,0),(1,1)] [] [] (by simp) (by simp [wkV, PV.el, PV.weak, PS.get, PS.obj, PS.lv, lkp_hit, lkp_miss, lkp_nil, lko, wkL, wkC, res1, rcs_wk, ics_wk]) (by simp [PS.get, PS.obj, PS.lv, lkp_hit, lkp_miss, lkp_nil, lko, wkL, wkC, PV.weak, wkL, wkC, res1, rcs_wk, ics_wk]) (by simp [PS.get, PS.obj, PS.lv, lkp_hit, lkp_miss, lkp_nil, lko]) (by rfl) (by rfl) (by simp [lko]) (by simp) (by simp) (by simp) (fun i hi => by rcases i with _ | _ | _ | _ | _ | _ | i <;> first | rfl | (exfalso; omega)))
    clear h1
    rintro ⟨i, j, M, hM, hi, hj, ht, hd⟩
    simp only [DfA.st]
    simp -implicitDefEqProofs only [push_cast, seval]
    refine condC_split (fun g1 => ?_) (fun g1 => ?_)
    · have hlt : j < L.length := by simp at g1; omega
      have hjM : j < M.length := by omega
      have hiM : i < M.length := by omega
      have hu := wr_up (k := j) (by omega)
      have hui := wr_up (k := i) (by omega)
      have ha := rcs_at hjM
      have hro := rcs_room hjM
      have e : M[j] = L[j] := by
        have h2 := rdrop hjM
        rw [hd, rdrop hlt] at h2
        exact (List.cons.inj h2).1.symm
      have hd2 : M.drop (j + 1) = L.drop (j + 1) := by
        have h2 := rdrop hjM
        rw [hd, rdrop hlt] at h2
        exact (List.cons.inj h2).2.symm
      have et : L.take (j + 1) = L.take j ++ [L[j]] := by rw [List.take_add_one, List.getElem?_eq_getElem hlt]; rfl
      rw [e] at ha
      have hD := del_fs y L[j] (hb _ (List.getElem_mem hlt))
      have hst := rcs_set' hiM L[j]
      cases c : abv y L[j] with
      | true =>
        rw [show decide (L[j].y + L[j].h ≤ y) = true from c] at hD
        simp -implicitDefEqProofs only [push_cast, ha, rc, seval]
        (repeat (first | refine ⟨(by omega : _ ≤ _), ?_⟩ | refine ⟨(by omega : _ < _), ?_⟩ | refine ⟨by (unfold drawOk; kernel_rfl), ?_⟩ | refine ⟨(by simp; done), ?_⟩ | refine ⟨(by simp; omega), ?_⟩))
        refine callE_box hD [1] [] (by rfl) (by rfl) (by rfl) (by rfl) (by rfl) (by rfl) (fun i j cs h1 h2 => by (rcases i with _ | _ | _ | i <;> simp at h1 h2 <;> (subst h1; subst h2; exact ⟨_, rfl, (by first | exact rcs_cell _ _ _ | exact ics_cell _ _ _ | exact (by (repeat' (first | exact wkL_nil | refine wkL_cons ?_ ?_)); all_goals (first | exact .inl ⟨_, _, _, _, rfl, rfl, rfl⟩ | exact .inr (.inr (.inr (.inr (.inl ⟨_, _, _, rfl, rfl, rfl⟩)))) | exact .inr (.inr (.inr (.inr (.inr (.inl ⟨_, _, _, _, rfl, rfl, rfl⟩))))) | exact .inr (.inr (.inr (.inr (.inr (.inr ⟨_, _, rfl, rfl, rfl⟩))))) | exact .inr (.inl rfl) | exact .inr (.inr (.inl ⟨_, _, _, rfl, rfl, rfl⟩)))) | exact (by (repeat' (first | exact wkL_nil | refine wkL_cons ?_ ?_)); all_goals (first | exact .inr (.inl rfl) | exact .inr (.inr (.inl ⟨_, _, _, rfl, rfl, rfl⟩)) | exact .inr (.inr (.inr (.inl ⟨_, _, _, _, _, rfl, rfl, rfl⟩))) | exact .inr (.inr (.inr (.inr (.inr (.inr (.inr ⟨_, _, _, _, rfl, rfl, rfl⟩)))))))))⟩))) (by simp [PS.lv, lkp_hit, lkp_miss, lkp_nil]) (by (repeat' (first | exact wkL_nil | refine wkL_cons ?_ ?_)); all_goals (first | exact .inl ⟨_, _, _, rfl, rfl, rfl⟩ | exact .inr (.inl rfl) | exact .inr (.inr (.inl ⟨_, _, _, _, rfl, rfl, rfl⟩)) | exact .inr (.inr (.inr (.inl ⟨_, _, _, rfl, rfl, rfl, (wkL_get (by (repeat' (first | exact wkL_nil | refine wkL_cons ?_ ?_)); all_goals (first | exact .inl ⟨_, _, _, rfl, rfl, rfl⟩ | exact .inr rfl))).2⟩))) | exact .inr (.inr (.inr (.inr (.inr (.inr (.inl ⟨_, _, _, _, rfl, rfl, rfl⟩)))))) | exact .inr (.inr (.inr (.inr (.inr (.inr (.inr ⟨_, _, _, _, _, rfl, rfl, rfl⟩)))))))) (by decide) (by simp) (by rfl) (by (repeat' (first | exact tok_nil | refine tok_cons ?_ ?_)); all_goals (first | exact rcs_tok _ _ _ _ | exact ics_tok _ _ _ _ | (simp [tokLt1, rpv, rc]; done))) (fun _ => by rfl) (by first | rfl | simp [gdOk, newToks]) ?_
        simp -implicitDefEqProofs only [push_cast, hu, rcs_back, seval]
        refine ⟨⟨i, j + 1, M, hM, by omega, hlt, by rw [et, kp_app, show kp y [L[j]] = [] by simp [kp, c], List.append_nil]; exact ht, hd2⟩, by simp only; omega, ?_⟩
        (simp only [DfA.st]; exact Wk.by _ _ _ [(0,0),(1,1)] [] [] (by simp) (by simp [wkV, PV.el, PV.weak, PS.get, PS.obj, PS.lv, lkp_hit, lkp_miss, lkp_nil, lko, wkL, wkC, res1, rcs_wk, ics_wk]) (by simp [PS.get, PS.obj, PS.lv, lkp_hit, lkp_miss, lkp_nil, lko, wkL, wkC, PV.weak, wkL, wkC, res1, rcs_wk, ics_wk]) (by simp [PS.get, PS.obj, PS.lv, lkp_hit, lkp_miss, lkp_nil, lko]) (by rfl) (by rfl) (by simp [lko]) (by simp) (by simp) (by simp) (fun i hi => by rcases i with _ | _ | _ | _ | _ | _ | i <;> first | rfl | (exfalso; omega)))
      | false =>
        rw [show decide (L[j].y + L[j].h ≤ y) = false from c] at hD
        simp -implicitDefEqProofs only [push_cast, ha, rc, seval]
        (repeat (first | refine ⟨(by omega : _ ≤ _), ?_⟩ | refine ⟨(by omega : _ < _), ?_⟩ | refine ⟨by (unfold drawOk; kernel_rfl), ?_⟩ | refine ⟨(by simp; done), ?_⟩ | refine ⟨(by simp; omega), ?_⟩))
        refine callE_box hD [1] [] (by rfl) (by rfl) (by rfl) (by rfl) (by rfl) (by rfl) (fun i j cs h1 h2 => by (rcases i with _ | _ | _ | i <;> simp at h1 h2 <;> (subst h1; subst h2; exact ⟨_, rfl, (by first | exact rcs_cell _ _ _ | exact ics_cell _ _ _ | exact (by (repeat' (first | exact wkL_nil | refine wkL_cons ?_ ?_)); all_goals (first | exact .inl ⟨_, _, _, _, rfl, rfl, rfl⟩ | exact .inr (.inr (.inr (.inr (.inl ⟨_, _, _, rfl, rfl, rfl⟩)))) | exact .inr (.inr (.inr (.inr (.inr (.inl ⟨_, _, _, _, rfl, rfl, rfl⟩))))) | exact .inr (.inr (.inr (.inr (.inr (.inr ⟨_, _, rfl, rfl, rfl⟩))))) | exact .inr (.inl rfl) | exact .inr (.inr (.inl ⟨_, _, _, rfl, rfl, rfl⟩)))) | exact (by (repeat' (first | exact wkL_nil | refine wkL_cons ?_ ?_)); all_goals (first | exact .inr (.inl rfl) | exact .inr (.inr (.inl ⟨_, _, _, rfl, rfl, rfl⟩)) | exact .inr (.inr (.inr (.inl ⟨_, _, _, _, _, rfl, rfl, rfl⟩))) | exact .inr (.inr (.inr (.inr (.inr (.inr (.inr ⟨_, _, _, _, rfl, rfl, rfl⟩)))))))))⟩))) (by simp [PS.lv, lkp_hit, lkp_miss, lkp_nil]) (by (repeat' (first | exact wkL_nil | refine wkL_cons ?_ ?_)); all_goals (first | exact .inl ⟨_, _, _, rfl, rfl, rfl⟩ | exact .inr (.inl rfl) | exact .inr (.inr (.inl ⟨_, _, _, _, rfl, rfl, rfl⟩)) | exact .inr (.inr (.inr (.inl ⟨_, _, _, rfl, rfl, rfl, (wkL_get (by (repeat' (first | exact wkL_nil | refine wkL_cons ?_ ?_)); all_goals (first | exact .inl ⟨_, _, _, rfl, rfl, rfl⟩ | exact .inr rfl))).2⟩))) | exact .inr (.inr (.inr (.inr (.inr (.inr (.inl ⟨_, _, _, _, rfl, rfl, rfl⟩)))))) | exact .inr (.inr (.inr (.inr (.inr (.inr (.inr ⟨_, _, _, _, _, rfl, rfl, rfl⟩)))))))) (by decide) (by simp) (by rfl) (by (repeat' (first | exact tok_nil | refine tok_cons ?_ ?_)); all_goals (first | exact rcs_tok _ _ _ _ | exact ics_tok _ _ _ _ | (simp [tokLt1, rpv, rc]; done))) (fun _ => by rfl) (by first | rfl | simp [gdOk, newToks]) ?_
        simp -implicitDefEqProofs only [push_cast, hu, hui, hst, rcs_back, seval]
        refine ⟨by omega, by rw [rcs_length]; omega, ⟨i + 1, j + 1, M.set i L[j], by rw [List.length_set]; exact hM, by omega, hlt, ?_, by rw [List.drop_set_of_lt (by omega)]; exact hd2⟩, by simp only; omega, ?_⟩
        · rw [et, kp_app, show kp y [L[j]] = [L[j]] by simp [kp, c], ← ht, List.take_set, List.take_add_one, List.getElem?_eq_getElem hiM]
          have hl2 : (M.take i).length = i := by rw [List.length_take]; omega
          rw [show (M.take i ++ (some M[i]).toList).set i L[j] = (M.take i ++ [M[i]]).set i L[j] from rfl]
          rw [List.set_append, if_neg (by omega), hl2, Nat.sub_self]
          rfl
        (simp only [DfA.st]; exact Wk.by _ _ _ [(0,0),(1,1)] [] [] (by simp) (by simp [wkV, PV.el, PV.weak, PS.get, PS.obj, PS.lv, lkp_hit, lkp_miss, lkp_nil, lko, wkL, wkC, res1, rcs_wk, ics_wk, hst]) (by simp [PS.get, PS.obj, PS.lv, lkp_hit, lkp_miss, lkp_nil, lko, wkL, wkC, PV.weak, wkL, wkC, res1, rcs_wk, ics_wk, hst]) (by simp [PS.get, PS.obj, PS.lv, lkp_hit, lkp_miss, lkp_nil, lko]) (by rfl) (by rfl) (by simp [lko]) (by simp) (by simp) (by simp) (fun i hi => by rcases i with _ | _ | _ | _ | _ | _ | i <;> first | rfl | (exfalso; omega)))
    · have hke : j = L.length := by simp at g1; omega
      subst hke
      rw [List.take_length] at ht
      have hil : (kp y L).length = i := by rw [← ht, List.length_take]; omega
      rw [hil]
      have hne : ∀ {α : Type} (a b : α), (if L.length = i then a else b) = b := fun a b => if_neg (by omega)
      have hzl : ∀ zs, zc Try.prog 41 = some zs → zs.length = 4 := fun zs h => by rw [zc_41] at h; cases h; rfl
      simp -implicitDefEqProofs only [push_cast, hne, seval]
      have hC : (rcs M).take (i * 4) ++ (List.replicate ((L.length - i) * 4) PV.any ++ (rcs M).drop (i * 4 + (List.replicate ((L.length - i) * 4) PV.any).length)) = dfC y L := by
        rw [rcs_take, ht, List.length_replicate, List.drop_eq_nil_of_le (by rw [rcs_length]; omega), List.append_nil]
        unfold dfC
        rw [hil]
      rw [hC]
      refine ⟨by omega, by omega, by rw [rcs_length]; omega, by omega, by omega, ?_⟩
      exact endK_box [] [0, 1] rfl rfl (by simp) rfl rfl (by rfl) (fun i j ps h1 h2 => by (rcases i with _ | _ | i <;> simp at h1 h2 <;> (subst h1; subst h2; first | exact ⟨_, rfl, dfC_wk _ _⟩ | exact ⟨_, rfl, by simp [wkL, res1, PV.weak]⟩))) ⟨by simp [resOk, PS.get, lkp_hit, lkp_miss, PS.ev], by simp [resPV, PS.get, lkp_hit, lkp_miss, PS.ev], by simp [resOf, resPV, one', res3, res2, res1, PS.get, lkp_hit, lkp_miss, PS.ev, PV.weak, PV.el, wkL]⟩
  · rw [if_neg hf] at h1
    have hk : kp y L = L := List.filter_eq_self.2 fun r hr => by
      have h2 : L.findIdx (abv y) = L.length := by have := List.findIdx_le_length (p := abv y) (xs := L); omega
      rw [List.findIdx_eq_length] at h2
      rw [h2 r hr]
      rfl
    have hC : dfC y L = rcs L := by unfold dfC; rw [hk, Nat.sub_self]; simp
    rw [hC, hk]
    (refine Fsp.of (nx := 2) mixed Try.func29 rfl (by decide) (by first | exact Nat.le_refl _ | simp) (by simp [Try.f29]) ⟨by simp, by simp⟩ ?_; simp -implicitDefEqProofs only [push_cast, Try.f29, seval])
    refine callE_box h1 [0, 1] [] (by rfl) (by rfl) (by rfl) (by rfl) (by rfl) (by rfl) (fun i j cs h1 h2 => by (rcases i with _ | _ | _ | i <;> simp at h1 h2 <;> (subst h1; subst h2; exact ⟨_, rfl, (by first | exact rcs_cell _ _ _ | exact ics_cell _ _ _ | exact (by (repeat' (first | exact wkL_nil | refine wkL_cons ?_ ?_)); all_goals (first | exact .inl ⟨_, _, _, _, rfl, rfl, rfl⟩ | exact .inr (.inr (.inr (.inr (.inl ⟨_, _, _, rfl, rfl, rfl⟩)))) | exact .inr (.inr (.inr (.inr (.inr (.inl ⟨_, _, _, _, rfl, rfl, rfl⟩))))) | exact .inr (.inr (.inr (.inr (.inr (.inr ⟨_, _, rfl, rfl, rfl⟩))))) | exact .inr (.inl rfl) | exact .inr (.inr (.inl ⟨_, _, _, rfl, rfl, rfl⟩)))) | exact (by (repeat' (first | exact wkL_nil | refine wkL_cons ?_ ?_)); all_goals (first | exact .inr (.inl rfl) | exact .inr (.inr (.inl ⟨_, _, _, rfl, rfl, rfl⟩)) | exact .inr (.inr (.inr (.inl ⟨_, _, _, _, _, rfl, rfl, rfl⟩))) | exact .inr (.inr (.inr (.inr (.inr (.inr (.inr ⟨_, _, _, _, rfl, rfl, rfl⟩)))))))))⟩))) (by simp [PS.lv, lkp_hit, lkp_miss, lkp_nil]) (by (repeat' (first | exact wkL_nil | refine wkL_cons ?_ ?_)); all_goals (first | exact .inl ⟨_, _, _, rfl, rfl, rfl⟩ | exact .inr (.inl rfl) | exact .inr (.inr (.inl ⟨_, _, _, _, rfl, rfl, rfl⟩)) | exact .inr (.inr (.inr (.inl ⟨_, _, _, rfl, rfl, rfl, (wkL_get (by (repeat' (first | exact wkL_nil | refine wkL_cons ?_ ?_)); all_goals (first | exact .inl ⟨_, _, _, rfl, rfl, rfl⟩ | exact .inr rfl))).2⟩))) | exact .inr (.inr (.inr (.inr (.inr (.inr (.inl ⟨_, _, _, _, rfl, rfl, rfl⟩)))))) | exact .inr (.inr (.inr (.inr (.inr (.inr (.inr ⟨_, _, _, _, _, rfl, rfl, rfl⟩)))))))) (by decide) (by simp) (by rfl) (by (repeat' (first | exact tok_nil | refine tok_cons ?_ ?_)); all_goals (first | exact rcs_tok _ _ _ _ | exact ics_tok _ _ _ _ | (simp [tokLt1]; done))) (fun _ => by rfl) (by first | rfl | simp [gdOk, newToks]) ?_
    simp -implicitDefEqProofs only [push_cast, rcs_back, seval]
    exact endK_box [] [0, 1] rfl rfl (by simp [PS.lv, lkp_hit, lkp_miss, lkp_nil]) rfl rfl (by rfl) (fun i j ps h1 h2 => by (rcases i with _ | _ | i <;> simp at h1 h2 <;> (subst h1; subst h2; exact ⟨_, rfl, (by first | exact rcs_res _ _ _ | exact ics_res _ _ _ | exact (by (repeat' (first | exact wkL_nil | refine wkL_cons ?_ ?_)); all_goals (first | rfl | exact ⟨rfl, rfl⟩ | exact ⟨rfl, rfl, rfl⟩ | exact .inl rfl)))⟩))) ⟨by simp [resOk, PS.get, lkp_hit, lkp_miss, PS.ev], by simp [resPV, PS.get, lkp_hit, lkp_miss, PS.ev], by simp [resOf, resPV, one', res3, res2, res1, PS.get, lkp_hit, lkp_miss, PS.ev, PV.weak, PV.el, wkL]⟩
theorem delf_fs (y : Int) (L : List Rt) (hb : Bnd L) (hl : L.length ≤ 4398046511104) : Fsp Try.prog 29 [rcs L, [.int .i64 y]] 0 [.slg 0 L.length 4, .fn 30 [.box 1 0]] [rcs (kp y L), [.int .i64 y]] 0 (.slg 0 (kp y L).length 4) := by
  refine (delf0_fs y L hb hl).cut0 ?_
  have hle := kp_le y L
  rcases Nat.eq_zero_or_pos L.length with h | h
  · left
    have : L = [] := List.length_eq_zero_iff.1 h
    subst this
    rfl
  · right
    unfold dfC
    refine ⟨by rw [List.length_append, rcs_length, List.length_replicate]; omega, (rcs (kp y L)).length, by rw [List.take_left]⟩
end Go.Proofs.Sh

/- The library's contracts at this program: slices.SortFunc, slices.Sort, slices.Compact, cmp.Compare. -/
namespace Go.Proofs
open Go.Shelf
def Try.sortR_ren : Go.Shelf.Ren := ⟨fun | 6 => 24 | 15 => 49 | 14 => 48 | 28 => 72 | 29 => 73 | 20 => 64 | 21 => 65 | 22 => 66 | 23 => 67 | 24 => 68 | 25 => 69 | 26 => 70 | 27 => 71 | 46 => 76 | 47 => 77 | 48 => 78 | 49 => 79 | 50 => 80 | 57 => 90 | n => n, fun | 22 => 24 | 24 => 41 | 25 => 51 | 3 => 3 | 39 => 78 | 0 => 0 | 53 => 102 | 55 => 104 | 4 => 4 | 46 => 95 | 45 => 94 | 50 => 99 | 5 => 5 | 9 => 9 | 66 => 109 | 70 => 113 | 76 => 120 | 77 => 107 | n => n, fun | n => n⟩
theorem Try.sortR : Go.Proofs.SlLaysF0.n6 Try.prog Try.sortR_ren := {
  mixed := by kernel_rfl
  f6 := ⟨Try.f24.name, by decide, Try.func24.trans (congrArg some (by kernel_rfl))⟩
  f14 := ⟨Try.f48.name, by decide, Try.func48.trans (congrArg some (by kernel_rfl))⟩
  f15 := Try.func49.trans (congrArg some (by kernel_rfl))
  f20 := ⟨Try.f64.name, by decide, Try.func64.trans (congrArg some (by kernel_rfl))⟩
  f21 := ⟨Try.f65.name, by decide, Try.func65.trans (congrArg some (by kernel_rfl))⟩
  f22 := ⟨Try.f66.name, by decide, Try.func66.trans (congrArg some (by kernel_rfl))⟩
  f23 := ⟨Try.f67.name, by decide, Try.func67.trans (congrArg some (by kernel_rfl))⟩
  f24 := ⟨Try.f68.name, by decide, Try.func68.trans (congrArg some (by kernel_rfl))⟩
  f25 := ⟨Try.f69.name, by decide, Try.func69.trans (congrArg some (by kernel_rfl))⟩
  f26 := ⟨Try.f70.name, by decide, Try.func70.trans (congrArg some (by kernel_rfl))⟩
  f27 := ⟨Try.f71.name, by decide, Try.func71.trans (congrArg some (by kernel_rfl))⟩
  f28 := Try.func72.trans (congrArg some (by kernel_rfl))
  f29 := Try.func73.trans (congrArg some (by kernel_rfl))
  f46 := ⟨Try.f76.name, by decide, Try.func76.trans (congrArg some (by kernel_rfl))⟩
  f47 := Try.func77.trans (congrArg some (by kernel_rfl))
  f48 := Try.func78.trans (congrArg some (by kernel_rfl))
  f49 := ⟨Try.f79.name, by decide, Try.func79.trans (congrArg some (by kernel_rfl))⟩
  f50 := ⟨Try.f80.name, by decide, Try.func80.trans (congrArg some (by kernel_rfl))⟩
  f57 := ⟨Try.f90.name, by decide, Try.func90.trans (congrArg some (by kernel_rfl))⟩
  t0 := Try.underlying0
  a0 := Try.isAgg0
  z0 := Try.sizeOf0
  v0 := Try.zeroValue0
  t3 := Try.underlying3
  a3 := Try.isAgg3
  z3 := Try.sizeOf3
  v3 := Try.zeroValue3
  t4 := Try.underlying4
  a4 := Try.isAgg4
  z4 := Try.sizeOf4
  v4 := Try.zeroValue4
  t5 := Try.underlying5
  a5 := Try.isAgg5
  z5 := Try.sizeOf5
  v5 := Try.zeroValue5
  t9 := Try.underlying9
  a9 := Try.isAgg9
  z9 := Try.sizeOf9
  v9 := Try.zeroValue9
  t22 := Try.underlying24
  a22 := Try.isAgg24
  z22 := Try.sizeOf24
  v22 := Try.zeroValue24
  t25 := Try.underlying51
  a25 := Try.isAgg51
  z25 := Try.sizeOf51
  v25 := Try.zeroValue51
  t39 := Try.underlying78
  a39 := Try.isAgg78
  z39 := Try.sizeOf78
  v39 := Try.zeroValue78
  t45 := Try.underlying94
  a45 := Try.isAgg94
  z45 := Try.sizeOf94
  v45 := Try.zeroValue94
  t46 := Try.underlying95
  a46 := Try.isAgg95
  z46 := Try.sizeOf95
  v46 := Try.zeroValue95
  t50 := Try.underlying99
  a50 := Try.isAgg99
  z50 := Try.sizeOf99
  v50 := Try.zeroValue99
  t53 := Try.underlying102
  a53 := Try.isAgg102
  z53 := Try.sizeOf102
  v53 := Try.zeroValue102
  t55 := Try.underlying104
  a55 := Try.isAgg104
  z55 := Try.sizeOf104
  v55 := Try.zeroValue104
  t66 := Try.underlying109
  a66 := Try.isAgg109
  z66 := Try.sizeOf109
  v66 := Try.zeroValue109
  t70 := Try.underlying113
  a70 := Try.isAgg113
  z70 := Try.sizeOf113
  v70 := Try.zeroValue113
  t76 := Try.underlying120
  a76 := Try.isAgg120
  z76 := Try.sizeOf120
  v76 := Try.zeroValue120
  t77 := Try.underlying107
  a77 := Try.isAgg107
  z77 := Try.sizeOf107
  v77 := Try.zeroValue107 }
def Try.sortI_ren : Go.Shelf.Ren := ⟨fun | 5 => 51 | 8 => 49 | 7 => 74 | 19 => 72 | 20 => 73 | 10 => 81 | 11 => 82 | 12 => 83 | 13 => 84 | 14 => 85 | 15 => 86 | 16 => 87 | 17 => 88 | 18 => 89 | 30 => 91 | 31 => 77 | 32 => 78 | 33 => 92 | 34 => 93 | 35 => 50 | 40 => 94 | n => n, fun | 23 => 52 | 25 => 3 | 3 => 3 | 32 => 78 | 22 => 52 | 0 => 0 | 44 => 102 | 46 => 104 | 4 => 4 | 36 => 95 | 35 => 94 | 41 => 99 | 5 => 5 | 9 => 9 | 53 => 109 | 57 => 113 | 63 => 120 | 64 => 107 | n => n, fun | n => n⟩
theorem Try.sortI : Go.Proofs.SlLaysM.n5 Try.prog Try.sortI_ren := {
  mixed := by kernel_rfl
  f5 := ⟨Try.f51.name, by decide, Try.func51.trans (congrArg some (by kernel_rfl))⟩
  f7 := ⟨Try.f74.name, by decide, Try.func74.trans (congrArg some (by kernel_rfl))⟩
  f8 := Try.func49.trans (congrArg some (by kernel_rfl))
  f10 := ⟨Try.f81.name, by decide, Try.func81.trans (congrArg some (by kernel_rfl))⟩
  f11 := ⟨Try.f82.name, by decide, Try.func82.trans (congrArg some (by kernel_rfl))⟩
  f12 := ⟨Try.f83.name, by decide, Try.func83.trans (congrArg some (by kernel_rfl))⟩
  f13 := ⟨Try.f84.name, by decide, Try.func84.trans (congrArg some (by kernel_rfl))⟩
  f14 := ⟨Try.f85.name, by decide, Try.func85.trans (congrArg some (by kernel_rfl))⟩
  f15 := ⟨Try.f86.name, by decide, Try.func86.trans (congrArg some (by kernel_rfl))⟩
  f16 := ⟨Try.f87.name, by decide, Try.func87.trans (congrArg some (by kernel_rfl))⟩
  f17 := ⟨Try.f88.name, by decide, Try.func88.trans (congrArg some (by kernel_rfl))⟩
  f18 := ⟨Try.f89.name, by decide, Try.func89.trans (congrArg some (by kernel_rfl))⟩
  f19 := Try.func72.trans (congrArg some (by kernel_rfl))
  f20 := Try.func73.trans (congrArg some (by kernel_rfl))
  f30 := ⟨Try.f91.name, by decide, Try.func91.trans (congrArg some (by kernel_rfl))⟩
  f31 := Try.func77.trans (congrArg some (by kernel_rfl))
  f32 := Try.func78.trans (congrArg some (by kernel_rfl))
  f33 := ⟨Try.f92.name, by decide, Try.func92.trans (congrArg some (by kernel_rfl))⟩
  f34 := ⟨Try.f93.name, by decide, Try.func93.trans (congrArg some (by kernel_rfl))⟩
  f35 := ⟨Try.f50.name, by decide, Try.func50.trans (congrArg some (by kernel_rfl))⟩
  f40 := ⟨Try.f94.name, by decide, Try.func94.trans (congrArg some (by kernel_rfl))⟩
  t0 := Try.underlying0
  a0 := Try.isAgg0
  z0 := Try.sizeOf0
  v0 := Try.zeroValue0
  t3 := Try.underlying3
  a3 := Try.isAgg3
  z3 := Try.sizeOf3
  v3 := Try.zeroValue3
  t4 := Try.underlying4
  a4 := Try.isAgg4
  z4 := Try.sizeOf4
  v4 := Try.zeroValue4
  t5 := Try.underlying5
  a5 := Try.isAgg5
  z5 := Try.sizeOf5
  v5 := Try.zeroValue5
  t9 := Try.underlying9
  a9 := Try.isAgg9
  z9 := Try.sizeOf9
  v9 := Try.zeroValue9
  t22 := Try.underlying52
  a22 := Try.isAgg52
  z22 := Try.sizeOf52
  v22 := Try.zeroValue52
  t23 := Try.underlying52
  a23 := Try.isAgg52
  z23 := Try.sizeOf52
  v23 := Try.zeroValue52
  t25 := Try.underlying3
  a25 := Try.isAgg3
  z25 := Try.sizeOf3
  v25 := Try.zeroValue3
  t32 := Try.underlying78
  a32 := Try.isAgg78
  z32 := Try.sizeOf78
  v32 := Try.zeroValue78
  t35 := Try.underlying94
  a35 := Try.isAgg94
  z35 := Try.sizeOf94
  v35 := Try.zeroValue94
  t36 := Try.underlying95
  a36 := Try.isAgg95
  z36 := Try.sizeOf95
  v36 := Try.zeroValue95
  t41 := Try.underlying99
  a41 := Try.isAgg99
  z41 := Try.sizeOf99
  v41 := Try.zeroValue99
  t44 := Try.underlying102
  a44 := Try.isAgg102
  z44 := Try.sizeOf102
  v44 := Try.zeroValue102
  t46 := Try.underlying104
  a46 := Try.isAgg104
  z46 := Try.sizeOf104
  v46 := Try.zeroValue104
  t53 := Try.underlying109
  a53 := Try.isAgg109
  z53 := Try.sizeOf109
  v53 := Try.zeroValue109
  t57 := Try.underlying113
  a57 := Try.isAgg113
  z57 := Try.sizeOf113
  v57 := Try.zeroValue113
  t63 := Try.underlying120
  a63 := Try.isAgg120
  z63 := Try.sizeOf120
  v63 := Try.zeroValue120
  t64 := Try.underlying107
  a64 := Try.isAgg107
  z64 := Try.sizeOf107
  v64 := Try.zeroValue107 }
def Try.compI_ren : Go.Shelf.Ren := ⟨fun | 43 => 52 | n => n, fun | 22 => 52 | 23 => 3 | 3 => 3 | 4 => 4 | 0 => 0 | n => n, fun | n => n⟩
theorem Try.compI : Go.Proofs.SlLaysE.n43 Try.prog Try.compI_ren := {
  mixed := by kernel_rfl
  f43 := ⟨Try.f52.name, by decide, Try.func52.trans (congrArg some (by kernel_rfl))⟩
  t0 := Try.underlying0
  a0 := Try.isAgg0
  z0 := Try.sizeOf0
  v0 := Try.zeroValue0
  t3 := Try.underlying3
  a3 := Try.isAgg3
  z3 := Try.sizeOf3
  v3 := Try.zeroValue3
  t4 := Try.underlying4
  a4 := Try.isAgg4
  z4 := Try.sizeOf4
  v4 := Try.zeroValue4
  t22 := Try.underlying52
  a22 := Try.isAgg52
  z22 := Try.sizeOf52
  v22 := Try.zeroValue52
  a23 := Try.isAgg3
  z23 := Try.sizeOf3 }
end Go.Proofs

/- Package band: slices.SortFunc, slices.Sort and slices.Compact, as contracts. -/
set_option maxRecDepth 100000
set_option linter.unusedSimpArgs false
set_option linter.unusedVariables false
namespace Go.Proofs.Sh
open Go.Pv
open Rg Go.Sort
instance : Inhabited Rt := ⟨⟨0, 0, 0, 0⟩⟩
def q4 (r : Rt) : List Int := [r.x, r.y, r.w, r.h]
def fI (L : List Rt) : List Int := L.flatMap q4
def iV (n : Int) : Value := .int .i64 n
def encR (r : Rt) : List Value := (q4 r).map iV
theorem fI_cons (r : Rt) (L : List Rt) : fI (r :: L) = q4 r ++ fI L := rfl
theorem fI_length (L : List Rt) : (fI L).length = L.length * 4 := by
  induction L with
  | nil => rfl
  | cons r L ih => rw [fI_cons, List.length_append, ih, List.length_cons]; show 4 + _ = _; omega
theorem rcs_fI (L : List Rt) : rcs L = (fI L).map fun n => .int .i64 n := by
  induction L with
  | nil => rfl
  | cons r L ih => rw [rcs_cons, fI_cons, List.map_append, ih]; rfl
theorem fI_get : ∀ (L : List Rt) (t : Nat), t < L.length * 4 → (fI L)[t]! = (q4 L[t / 4]!)[t % 4]!
  | [], t, h => by simp at h
  | r :: L, t, h => by
    rw [fI_cons]
    by_cases h4 : t < 4
    · have e1 : t / 4 = 0 := by omega
      have e2 : t % 4 = t := by omega
      rw [e1, e2]
      rw [getElem!_pos (q4 r ++ fI L) t (show t < (q4 r ++ fI L).length by rw [List.length_append]; show t < 4 + _; omega), List.getElem_append_left (show t < (q4 r).length from h4)]
      rw [show (r :: L)[0]! = r from rfl, getElem!_pos (q4 r) t (show t < (q4 r).length from h4)]
    · obtain ⟨u, rfl⟩ : ∃ u, t = u + 4 := ⟨t - 4, by omega⟩
      rw [List.length_cons] at h
      have e1 : (u + 4) / 4 = u / 4 + 1 := by omega
      have e2 : (u + 4) % 4 = u % 4 := by omega
      rw [e1, e2]
      have hu : u < (fI L).length := by rw [fI_length]; omega
      have hl4 : (q4 r).length = 4 := rfl
      rw [getElem!_pos (q4 r ++ fI L) (u + 4) (show u + 4 < (q4 r ++ fI L).length by rw [List.length_append, hl4]; omega), List.getElem_append_right (by rw [hl4]; omega)]
      have ih := fI_get L u (by omega)
      rw [getElem!_pos (fI L) u hu] at ih
      simp only [hl4, Nat.add_sub_cancel]
      rw [ih]
      rfl
theorem flat_enc (d : Array Rt) : flatK encR 4 d = (fI d.toList).toArray.map iV := by
  refine ext_get! (by simp [fI_length]) fun t ht => ?_
  have h : t < d.size * 4 := by simpa using ht
  rw [get_flatK _ _ _ _ h]
  have hlen : t < (fI d.toList).length := by rw [fI_length]; simpa using h
  rw [getElem!_pos ((fI d.toList).toArray.map iV) t (by simpa using hlen), Array.getElem_map]
  have e := fI_get d.toList t (by simpa using h)
  rw [getElem!_pos (fI d.toList) t hlen] at e
  show _ = iV (fI d.toList)[t]
  rw [e]
  have hd : d.toList[t / 4]! = d[t / 4]! := by
    rw [getElem!_pos d (t / 4) (by omega), getElem!_pos d.toList (t / 4) (by simp; omega)]; simp
  rw [hd]
  unfold encR
  have h4 : t % 4 < (q4 d[t / 4]!).length := by show _ < 4; omega
  rw [getElem!_pos ((q4 d[t / 4]!).map iV) (t % 4) (by simpa using h4), List.getElem_map, getElem!_pos (q4 d[t / 4]!) (t % 4) h4]
/-- As the library sorts. -/
def srtBy (cf : Rt → Rt → Int) (L : List Rt) : List Rt := (pdq (ltOf cf) L.toArray 0 L.length (Lib.bitLen L.length) true true).toList
theorem srtBy_ok {cf : Rt → Rt → Int} (hO : SWO (ltOf cf)) (L : List Rt) : (srtBy cf L).Perm L ∧ (srtBy cf L).Pairwise fun a b => ltOf cf b a = false := by
  obtain ⟨h1, h2⟩ := pdq_sorts (ltOf cf) hO L.toArray 0 L.length (Lib.bitLen L.length) true true (Nat.zero_le _) (by simp) (Or.inl rfl)
  obtain ⟨a1, a2, a3⟩ := h1
  have hs : (srtBy cf L).length = L.length := by simpa [srtBy] using a1
  constructor
  · have := a3
    unfold srtBy
    generalize pdq (ltOf cf) L.toArray 0 L.length (Lib.bitLen L.length) true true = d at *
    have hd : d.size = L.length := by simpa using a1
    rw [← hd] at this
    have e1 : d.extract 0 d.size = d := Array.extract_size
    rw [e1] at this
    have e2 : L.toArray.extract 0 d.size = L.toArray := by rw [hd]; simp
    rw [e2] at this
    simpa using this
  · rw [List.pairwise_iff_getElem]
    intro i j hi hj hij
    have := h2 i j (Nat.zero_le _) hij (by omega)
    unfold srtBy at hi hj ⊢
    generalize pdq (ltOf cf) L.toArray 0 L.length (Lib.bitLen L.length) true true = d at *
    rw [getElem!_pos d j (by simpa using hj), getElem!_pos d i (by simpa using hi)] at this
    simpa using this
theorem cmpI_neg {x y : Int} : cmpI x y < 0 ↔ x < y := by unfold cmpI; split <;> (try split) <;> omega
theorem cmpI_zero {x y : Int} : cmpI x y = 0 ↔ x = y := by unfold cmpI; split <;> (try split) <;> omega
theorem lt_X (a b : Rt) : ltOf (fun a b => cmpI a.x b.x) a b = decide (a.x < b.x) := by unfold ltOf; rw [decide_eq_decide]; exact cmpI_neg
theorem lt_YX (a b : Rt) : ltOf cmpYX a b = decide (a.y < b.y ∨ a.y = b.y ∧ a.x < b.x) := by
  unfold ltOf cmpYX
  rw [decide_eq_decide]
  by_cases h : cmpI a.y b.y = 0
  · rw [if_neg (by simp [h]), cmpI_neg]
    rw [cmpI_zero] at h
    omega
  · rw [if_pos (by simpa using h), cmpI_neg]
    rw [cmpI_zero] at h
    omega
theorem swo_X : SWO (ltOf fun a b : Rt => cmpI a.x b.x) := ⟨fun x => by rw [lt_X]; simp, fun x y z h1 h2 => by rw [lt_X, decide_eq_true_eq] at *; omega, fun x y z h1 h2 => by rw [lt_X, decide_eq_false_iff_not] at *; omega⟩
theorem swo_YX : SWO (ltOf cmpYX) := ⟨fun x => by rw [lt_YX]; simp, fun x y z h1 h2 => by rw [lt_YX, decide_eq_true_eq] at *; omega, fun x y z h1 h2 => by rw [lt_YX, decide_eq_false_iff_not] at *; omega⟩
theorem encR_rel (r : Rt) : PRel gh0.h (.agg (encR r).toArray) (rpv r) := by
  refine .agg _ _ rfl (fun i v h => ?_) (fun i v p h1 h2 => ?_)
  · obtain ⟨n, _, rfl⟩ := List.mem_map.1 (List.mem_of_getElem? (by simpa using h : (encR r)[i]? = some v)); rfl
  · have h1' : (encR r)[i]? = some v := by simpa using h1
    match i, h1', h2 with
    | 0, h1', h2 => cases h1'; cases h2; exact .int _ _
    | 1, h1', h2 => cases h1'; cases h2; exact .int _ _
    | 2, h1', h2 => cases h1'; cases h2; exact .int _ _
    | 3, h1', h2 => cases h1'; cases h2; exact .int _ _
    | i + 4, h1', _ => simp [encR, q4] at h1'
theorem cmpLays {f : FuncId} {cf : Rt → Rt → Int} (h : ∀ a b, @Fsp gt0 Try.prog f [] 0 [rpv a, rpv b] [] 0 (.int .i64 (cf a b))) (blk off size : Nat) (w : World) : CmpLays Try.prog f #[] encR 4 cf blk off size w := by
  intro m os dk _ x y
  have key := (h x y).anyw (sortWorldK encR 4 w blk off m dk os) #[.agg (encR x).toArray, .agg (encR y).toArray] (by simp) (fun i v p h1 h2 => by
    rcases i with _ | _ | i <;> simp at h1 h2
    · subst h1 h2; exact encR_rel x
    · subst h1 h2; exact encR_rel y)
  refine key.mono ?_
  rintro e w' ⟨v, g', rfl, hr, q, os', hw⟩
  rw [hr.int_inv]
  exact ⟨rfl, q, os', hw⟩
theorem hag (w : World) : (isAgg (Try.sortR_ren.t 24)).run Try.prog w = .ok true w := Try.isAgg41 w
theorem hsi (w : World) : (Go.sizeOf (Try.sortR_ren.t 24)).run Try.prog w = .ok 4 w := Try.sizeOf41 w
theorem sort_fs {f : FuncId} {cf : Rt → Rt → Int} (h : ∀ a b, @Fsp gt0 Try.prog f [] 0 [rpv a, rpv b] [] 0 (.int .i64 (cf a b))) (hO : SWO (ltOf cf)) (hf : ∀ args w, (callFunc f args).run Try.prog w = .ok (.enter f args) w) (L : List Rt) (hl : L.length < 4611686018427387904) :
    Fsp Try.prog 24 [rcs L] 0 [.slg 0 L.length 4, .fn f []] [rcs (srtBy cf L)] 0 (.tup []) := by
  have hs : (srtBy cf L).length = L.length := (srtBy_ok hO L).1.length_eq
  refine Fsp.of_put (e := iV) (D := (fI (srtBy cf L)).toArray) ⟨_, Try.func24, by decide, by decide⟩ (by rw [rcs_length, rcs_length, hs]; exact Nat.le_refl _) (fun _ => rfl) (fun h i p hp => ?_) ?_
  · rw [rcs_fI, List.getElem?_map] at hp
    obtain ⟨n, hn, rfl⟩ := Option.map_eq_some_iff.1 hp
    obtain ⟨hi, hn⟩ := List.getElem?_eq_some_iff.1 hn
    refine ⟨by simpa using hi, ?_⟩
    rw [getElem!_pos (fI (srtBy cf L)).toArray i (by simpa using hi)]
    simp only [List.getElem_toArray, hn]
    exact .int _ _
  · intro g w b cap vs hI hb hbl hcell hsz hv0 hrest
    have hv1 : ∃ v1, vs[1]? = some v1 := ⟨vs[1]'(by rw [hsz]; simp), by simp⟩
    obtain ⟨v1, hv1⟩ := hv1
    have hr1 := hrest 0 v1 _ hv1 rfl
    obtain ⟨us, rfl, hu, -⟩ := hr1.fn_inv
    have hu0 : us = #[] := Array.size_eq_zero_iff.1 (by simpa using hu)
    subst hu0
    have hvs : vs = #[.slice (some ⟨b, 0, none⟩) L.length cap, .func (.func f) #[] #[]] := by
      apply Array.ext_getElem?
      intro i
      match i with
      | 0 => rw [hv0]; rfl
      | 1 => rw [hv1]; rfl
      | i + 2 => rw [Array.getElem?_eq_none (by rw [hsz]; simp), Array.getElem?_eq_none (by simp)]
    rw [hvs]
    have hH : HoldsK encR 4 w b 0 L.toArray := by
      intro j hj
      rw [flat_enc] at hj ⊢
      have hj' : j < (fI L).length := by simpa using hj
      obtain ⟨v, e1, e2, e3⟩ := hcell j (.int .i64 (fI L)[j]) (by rw [rcs_fI, List.getElem?_map, List.getElem?_eq_getElem hj']; rfl)
      rw [e3.int_inv] at e1
      rw [Nat.zero_add]
      refine ⟨e1.trans ?_, e2⟩
      rw [getElem!_pos ((fI L).toArray.map iV) j (by simpa using hj')]
      simp [iV]
    have key := AnyQ.slices_SortFunc_eq Try.sortR 4 hag hsi encR (fun _ => rfl) (fun x v hv => by obtain ⟨n, _, rfl⟩ := List.mem_map.1 hv; rfl) cf hO f #[] b 0 cap L.toArray w hf (cmpLays h b 0 L.length w) hH hbl hl
    refine key.mono ?_
    rintro ex w' ⟨rfl, n, os, rfl⟩
    refine ⟨rfl, n, os, ?_⟩
    show grow (putRow id _ b 0 (flatK encR 4 _)) os = _
    rw [flat_enc, putRow_id]
    rfl
end Go.Proofs.Sh

/- Package band: the rows at which something begins or ends (edges); sorts and slices.Compact as contracts. -/
set_option maxRecDepth 100000
set_option linter.unusedSimpArgs false
set_option linter.unusedVariables false
namespace Go.Proofs.Sh
open Go.Pv
open Rg Go.Sort
theorem ris_snoc : ∀ {C : List Int} {x : Int}, Ris C → (∀ u ∈ C, u < x) → Ris (C ++ [x])
  | [], x, _, _ => ⟨fun z hz => (by cases hz), trivial⟩
  | y :: C, x, h, hx => ⟨fun z hz => by
      rcases List.mem_append.1 hz with hz | hz
      · exact h.1 z hz
      · rw [List.mem_singleton] at hz; rw [hz]; exact hx y List.mem_cons_self, ris_snoc h.2 fun u hu => hx u (List.mem_cons_of_mem _ hu)⟩
/-- Each once, rising. -/
def uq (zs : List Int) : List Int := Lib.compactUpTo (zs.mergeSort fun x y => decide (x ≤ y)).toArray (zs.mergeSort fun x y => decide (x ≤ y)).length
theorem cpt_ok (d : Array Int) (hs : ∀ i j, i ≤ j → j < d.size → d[i]! ≤ d[j]!) : ∀ m, m ≤ d.size → Ris (Lib.compactUpTo d m) ∧ (∀ u, u ∈ Lib.compactUpTo d m ↔ ∃ j, j < m ∧ d[j]! = u)
  | 0, _ => ⟨trivial, fun u => ⟨fun h => (by cases h), fun ⟨j, h, _⟩ => by omega⟩⟩
  | m + 1, h => by
    obtain ⟨h1, h2⟩ := cpt_ok d hs m (by omega)
    rw [Lib.compactUpTo_succ]
    by_cases hk : Lib.keeps d m = true
    · rw [if_pos hk]
      refine ⟨ris_snoc h1 fun u hu => ?_, fun u => ?_⟩
      · obtain ⟨j, hj, rfl⟩ := (h2 u).1 hu
        unfold Lib.keeps at hk
        rw [decide_eq_true_eq] at hk
        have a := hs j (m - 1) (by omega) (by omega)
        have b := hs (m - 1) m (by omega) (by omega)
        omega
      · rw [List.mem_append, h2, List.mem_singleton]
        constructor
        · rintro (⟨j, hj, e⟩ | e)
          · exact ⟨j, by omega, e⟩
          · exact ⟨m, by omega, e.symm⟩
        · rintro ⟨j, hj, e⟩
          by_cases hjm : j = m
          · subst hjm; exact .inr e.symm
          · exact .inl ⟨j, by omega, e⟩
    · rw [if_neg hk, List.append_nil]
      refine ⟨h1, fun u => ?_⟩
      rw [h2]
      unfold Lib.keeps at hk
      rw [decide_eq_true_eq] at hk
      constructor
      · rintro ⟨j, hj, e⟩; exact ⟨j, by omega, e⟩
      · rintro ⟨j, hj, e⟩
        by_cases hjm : j = m
        · subst hjm; exact ⟨j - 1, by omega, by rw [← e]; omega⟩
        · exact ⟨j, by omega, e⟩
theorem uq_ok (zs : List Int) : Ris (uq zs) ∧ ∀ u, u ∈ uq zs ↔ u ∈ zs := by
  have hp : (zs.mergeSort fun x y => decide (x ≤ y)).Pairwise fun x y => decide (x ≤ y) = true := List.pairwise_mergeSort (fun a b c h1 h2 => by simp at *; omega) (fun a b => by simp; omega) zs
  have hm : ∀ u, u ∈ (zs.mergeSort fun x y => decide (x ≤ y)) ↔ u ∈ zs := fun u => (List.mergeSort_perm zs _).mem_iff
  unfold uq
  generalize (zs.mergeSort fun x y => decide (x ≤ y)) = L at *
  obtain ⟨h1, h2⟩ := cpt_ok L.toArray (fun i j hij hj => by
    have hj' : j < L.length := by simpa using hj
    rw [getElem!_pos L.toArray i (by simp; omega), getElem!_pos L.toArray j (by simpa using hj')]
    simp only [List.getElem_toArray]
    rcases Nat.lt_or_ge i j with h | h
    · have := (List.pairwise_iff_getElem.1 hp) i j (by omega) hj' h
      simpa using this
    · have : i = j := by omega
      subst this
      exact Int.le_refl _) L.length (by simp)
  refine ⟨h1, fun u => ?_⟩
  rw [h2, ← hm, List.mem_iff_getElem]
  constructor
  · rintro ⟨j, hj, e⟩
    rw [getElem!_pos L.toArray j (by simpa using hj)] at e
    exact ⟨j, hj, by simpa using e⟩
  · rintro ⟨j, hj, e⟩
    refine ⟨j, hj, ?_⟩
    rw [getElem!_pos L.toArray j (by simpa using hj)]
    simpa using e
def edgR (A : List Rt) : List Int := A.flatMap fun r => [r.y, r.y + r.h]
theorem uq_edg (A : List Rt) : uq (edgR A) = edg A := by
  obtain ⟨h1, h2⟩ := uq_ok (edgR A)
  refine ris_ext h1 (edg_ris A) fun u => ?_
  rw [h2, mem_edg]
  unfold edgR
  rw [List.mem_flatMap]
  constructor
  · rintro ⟨r, hr, h⟩; exact ⟨r, hr, by simpa using h⟩
  · rintro ⟨r, hr, h⟩; exact ⟨r, hr, by simpa using h⟩
theorem ics_holds {g : Gh} {w : World} {b : Nat} {zs : List Int} (hcell : ∀ (j : Nat) (p : PV), (ics zs)[j]? = some p → ∃ v, w.cell? ⟨b, j, none⟩ = some v ∧ w.frozen? ⟨b, j, none⟩ = false ∧ Rel g v p) : Holds (Value.int .i64) w b 0 zs.toArray := by
  intro j hj
  have hj' : j < zs.length := by simpa using hj
  obtain ⟨v, e1, e2, e3⟩ := hcell j (.int .i64 zs[j]) (by rw [ics, List.getElem?_map, List.getElem?_eq_getElem hj']; rfl)
  rw [e3.int_inv] at e1
  rw [Nat.zero_add]
  refine ⟨e1.trans ?_, e2⟩
  rw [getElem!_pos zs.toArray j (by simpa using hj')]
  simp
theorem ics_put {D : List Int} (E : List Int) (h : HMap) (i : Nat) (p : PV) (hp : (ics D)[i]? = some p) : i < (D ++ E).toArray.size ∧ PRel h (Value.int .i64 (D ++ E).toArray[i]!) p := by
  rw [ics, List.getElem?_map] at hp
  obtain ⟨n, hn, rfl⟩ := Option.map_eq_some_iff.1 hp
  obtain ⟨hi, hn⟩ := List.getElem?_eq_some_iff.1 hn
  have hi2 : i < (D ++ E).length := by rw [List.length_append]; omega
  refine ⟨by simpa using hi2, ?_⟩
  rw [getElem!_pos (D ++ E).toArray i (by simpa using hi2)]
  simp only [List.getElem_toArray, List.getElem_append_left hi, hn]
  exact .int _ _
theorem sortI_fs (zs : List Int) (hl : zs.length < 4611686018427387904) : Fsp Try.prog 51 [ics zs] 0 [.slg 0 zs.length 1] [ics (zs.mergeSort fun x y => decide (x ≤ y))] 0 (.tup []) := by
  refine Fsp.of_put (e := Value.int .i64) (D := ((zs.mergeSort fun x y => decide (x ≤ y)) ++ []).toArray) ⟨_, Try.func51, by decide, by decide⟩ (by rw [ics_length, ics_length, List.length_mergeSort]; exact Nat.le_refl _) (fun _ => rfl) (fun h i p hp => ics_put [] h i p hp) ?_
  intro g w b cap vs hI hb hbl hcell hsz hv0 hrest
  have hvs : vs = #[.slice (some ⟨b, 0, none⟩) zs.length cap] := by
    apply Array.ext_getElem?
    intro i
    match i with
    | 0 => rw [hv0]; rfl
    | i + 1 => rw [Array.getElem?_eq_none (by rw [hsz]; simp), Array.getElem?_eq_none (by simp)]
  rw [hvs, List.append_nil]
  exact AnyM.slices_Sort_int Try.sortI b 0 cap zs w (ics_holds hcell) hbl hl
theorem grow_nil (w : World) : grow w #[] = w := by cases w; simp [grow]
theorem cpt_len (d : Array Int) : ∀ m, (Lib.compactUpTo d m).length ≤ m
  | 0 => Nat.le_refl _
  | m + 1 => by
    have := cpt_len d m
    rw [Lib.compactUpTo_succ, List.length_append]
    split <;> simp <;> omega
theorem compI_fs (zs : List Int) (hl : zs.length < 4611686018427387904) : Fsp Try.prog 52 [ics zs] 0 [.slg 0 zs.length 1] [ics (Lib.compactUpTo zs.toArray zs.length)] 0 (.slg 0 (Lib.compactUpTo zs.toArray zs.length).length 1) := by
  have hle := cpt_len zs.toArray zs.length
  refine Fsp.of_putS (e := Value.int .i64) (D := (Lib.compactUpTo zs.toArray zs.length ++ List.replicate (zs.length - (Lib.compactUpTo zs.toArray zs.length).length) 0).toArray) ⟨_, Try.func52, by decide, by decide⟩ hle (by rw [ics_length, ics_length]; exact hle) (fun _ => rfl) (fun h i p hp => ics_put _ h i p hp) ?_
  intro g w b cap vs hI hb hbl hcell hsz hv0 hcap hrest
  have hvs : vs = #[.slice (some ⟨b, 0, none⟩) zs.length cap] := by
    apply Array.ext_getElem?
    intro i
    match i with
    | 0 => rw [hv0]; rfl
    | i + 1 => rw [Array.getElem?_eq_none (by rw [hsz]; simp), Array.getElem?_eq_none (by simp)]
  rw [hvs]
  refine (AnyE.slices_Compact Try.compI (Value.int .i64) (fun _ => rfl) (EqlAt.intD _ _ _) (NeqAt.intD _ _ _) 0 (fun w => Try.zeroValue3 w) b 0 cap zs.toArray w (ics_holds hcell) (by simp; omega) (by simpa using hcap)).mono ?_
  rintro ex w' ⟨rfl, q, rfl⟩
  exact ⟨by simp, q, #[], (grow_nil _).symm⟩
theorem edgR_len : ∀ A : List Rt, (edgR A).length = A.length * 2
  | [] => rfl
  | r :: A => by
    have := edgR_len A
    show (r.y :: (r.y + r.h) :: edgR A).length = _
    rw [List.length_cons, List.length_cons, this, List.length_cons]; omega
theorem edgR_app (A B : List Rt) : edgR (A ++ B) = edgR A ++ edgR B := List.flatMap_append
theorem ics_app (A B : List Int) : ics (A ++ B) = ics A ++ ics B := List.map_append
theorem take_one {α : Type} {A : List α} {k : Nat} (h : k < A.length) : A.take (k + 1) = A.take k ++ [A[k]] := by rw [List.take_add_one, List.getElem?_eq_getElem h]; rfl
structure EgA (A : List Rt) where
  k : Nat
  h : k ≤ A.length
def EgA.st (A : List Rt) (a : EgA A) : PS := { n := 31, env := [(12, .int .i64 a.k), (11, .int .i64 A.length), (10, .slg 0 A.length 4), (3, .slg 1 (a.k * 2) 1), (2, .nilsl)], objs := [(0, some (rcs A)), (1, some (ics (edgR (A.take a.k))))], live := [], nxt := 60 }
theorem edges_fs (A : List Rt) (hb : Bnd A) (hl : A.length ≤ 4398046511104) : Fsp Try.prog 28 [rcs A] 0 [.slg 0 A.length 4] [rcs A, ics (edg A)] 0 (.slg 1 (edg A).length 1) := by
  have w0 : IntKind.i64.wrap (2 * (A.length : Int)) = 2 * (A.length : Int) := wrap_i64_id (by omega) (by omega)
  (refine Fsp.of (nx := 1) mixed Try.func28 rfl (by decide) (by first | exact Nat.le_refl _ | simp) (by simp [Try.f28]) ⟨by simp, by simp⟩ ?_; simp -implicitDefEqProofs only [push_cast, Try.f28, w0, seval])
  (repeat (first | refine ⟨(by omega : _ ≤ _), ?_⟩ | refine ⟨(by omega : _ < _), ?_⟩ | refine ⟨by (unfold drawOk; kernel_rfl), ?_⟩ | refine ⟨(by simp; done), ?_⟩ | refine ⟨(by simp; omega), ?_⟩))
  refine loopC_of (α := EgA A) (EgA.st A) (fun a => A.length - a.k) ⟨0, Nat.zero_le _⟩ ?_ ?_
  · have h0 : ics (edgR []) = [] := rfl
    (simp only [EgA.st]; exact Wk.by _ _ _ [(0,0),(1,17)] [] [] (by simp) (by simp [wkV, PV.el, PV.weak, PS.get, PS.obj, PS.lv, lkp_hit, lkp_miss, lkp_nil, lko, wkL, wkC, res1, rcs_wk, ics_wk, h0]) (by simp [PS.get, PS.obj, PS.lv, lkp_hit, lkp_miss, lkp_nil, lko, wkL, wkC, PV.weak, wkL, wkC, res1, rcs_wk, ics_wk, h0]) (by simp [PS.get, PS.obj, PS.lv, lkp_hit, lkp_miss, lkp_nil, lko]) (by rfl) (by rfl) (by simp [lko]) (by simp) (by simp) (by simp) (fun i hi => by rcases i with _ | _ | _ | _ | _ | _ | i <;> first | rfl | (exfalso; omega)))
  rintro ⟨k, hk⟩
  simp only [EgA.st]
  simp -implicitDefEqProofs only [push_cast, seval]
  refine condC_split (fun g1 => ?_) (fun g1 => ?_)
  · have hlt : k < A.length := by simp at g1; omega
    have hu := wr_up (k := k) (by omega)
    have ha := rcs_at hlt
    have hro := rcs_room hlt
    have p := cnt_pos (hb _ (List.getElem_mem hlt))
    have w1 : IntKind.i64.wrap (A[k].y + A[k].h) = A[k].y + A[k].h := wrap_i64_id (by omega) (by omega)
    have hlE : (ics (edgR (A.take k))).length = k * 2 := by rw [ics_length, edgR_len, List.length_take]; omega
    have hE : List.take (k * 2) (ics (edgR (A.take k))) ++ [.int .i64 A[k].y, .int .i64 (A[k].y + A[k].h)] = ics (edgR (A.take (k + 1))) := by
      rw [List.take_of_length_le (by rw [hlE]; exact Nat.le_refl _), take_one hlt, edgR_app, ics_app]
      rfl
    have hm2 : (k + 1) * 2 = k * 2 + 2 := by omega
    simp -implicitDefEqProofs only [push_cast, ha, rc, seval]
    (repeat (first | refine ⟨(by omega : _ ≤ _), ?_⟩ | refine ⟨(by omega : _ < _), ?_⟩ | refine ⟨by (unfold drawOk; kernel_rfl), ?_⟩ | refine ⟨(by simp; done), ?_⟩ | refine ⟨(by simp; omega), ?_⟩))
    simp -implicitDefEqProofs only [push_cast, w1, hlE, seval]
    (repeat (first | refine ⟨(by omega : _ ≤ _), ?_⟩ | refine ⟨(by omega : _ < _), ?_⟩ | refine ⟨by (unfold drawOk; kernel_rfl), ?_⟩ | refine ⟨(by simp; done), ?_⟩ | refine ⟨(by simp; omega), ?_⟩))
    refine ⟨⟨k + 1, hlt⟩, by simp only; omega, ?_⟩
    (simp only [EgA.st]; exact Wk.by _ _ _ [(0,0),(1,116)] [] [] (by simp) (by simp [wkV, PV.el, PV.weak, PS.get, PS.obj, PS.lv, lkp_hit, lkp_miss, lkp_nil, lko, wkL, wkC, res1, rcs_wk, ics_wk, PV.cells, List.cons_append, List.nil_append, hE, hu, hm2]) (by simp [PS.get, PS.obj, PS.lv, lkp_hit, lkp_miss, lkp_nil, lko, wkL, wkC, PV.weak, wkL, wkC, res1, rcs_wk, ics_wk, PV.cells, List.cons_append, List.nil_append, hE, hu, hm2]) (by simp [PS.get, PS.obj, PS.lv, lkp_hit, lkp_miss, lkp_nil, lko]) (by rfl) (by rfl) (by simp [lko]) (by simp) (by simp) (by simp) (fun i hi => by rcases i with _ | _ | _ | _ | _ | _ | i <;> first | rfl | (exfalso; omega)))
  · have hke : k = A.length := by simp at g1; omega
    subst hke
    have hlE : (edgR A).length = A.length * 2 := edgR_len A
    have h1 := sortI_fs (edgR A) (by omega)
    have h2 := compI_fs ((edgR A).mergeSort fun x y => decide (x ≤ y)) (by rw [List.length_mergeSort]; omega)
    rw [show Lib.compactUpTo ((edgR A).mergeSort fun x y => decide (x ≤ y)).toArray ((edgR A).mergeSort fun x y => decide (x ≤ y)).length = edg A from uq_edg A, List.length_mergeSort] at h2
    rw [hlE] at h1 h2
    rw [List.take_length]
    simp -implicitDefEqProofs only [push_cast, seval]
    refine callE_box h1 [1] [] (by rfl) (by rfl) (by rfl) (by rfl) (by rfl) (by rfl) (fun i j cs h1 h2 => by (rcases i with _ | _ | _ | i <;> simp at h1 h2 <;> (subst h1; subst h2; exact ⟨_, rfl, (by first | exact rcs_cell _ _ _ | exact ics_cell _ _ _ | exact (by (repeat' (first | exact wkL_nil | refine wkL_cons ?_ ?_)); all_goals (first | exact .inl ⟨_, _, _, _, rfl, rfl, rfl⟩ | exact .inr (.inr (.inr (.inr (.inl ⟨_, _, _, rfl, rfl, rfl⟩)))) | exact .inr (.inr (.inr (.inr (.inr (.inl ⟨_, _, _, _, rfl, rfl, rfl⟩))))) | exact .inr (.inr (.inr (.inr (.inr (.inr ⟨_, _, rfl, rfl, rfl⟩))))) | exact .inr (.inl rfl) | exact .inr (.inr (.inl ⟨_, _, _, rfl, rfl, rfl⟩)))) | exact (by (repeat' (first | exact wkL_nil | refine wkL_cons ?_ ?_)); all_goals (first | exact .inr (.inl rfl) | exact .inr (.inr (.inl ⟨_, _, _, rfl, rfl, rfl⟩)) | exact .inr (.inr (.inr (.inl ⟨_, _, _, _, _, rfl, rfl, rfl⟩))) | exact .inr (.inr (.inr (.inr (.inr (.inr (.inr ⟨_, _, _, _, rfl, rfl, rfl⟩)))))))))⟩))) (by simp [PS.lv, lkp_hit, lkp_miss, lkp_nil]) (by (repeat' (first | exact wkL_nil | refine wkL_cons ?_ ?_)); all_goals (first | exact .inl ⟨_, _, _, rfl, rfl, rfl⟩ | exact .inr (.inl rfl) | exact .inr (.inr (.inl ⟨_, _, _, _, rfl, rfl, rfl⟩)) | exact .inr (.inr (.inr (.inl ⟨_, _, _, rfl, rfl, rfl, (wkL_get (by (repeat' (first | exact wkL_nil | refine wkL_cons ?_ ?_)); all_goals (first | exact .inl ⟨_, _, _, rfl, rfl, rfl⟩ | exact .inr rfl))).2⟩))) | exact .inr (.inr (.inr (.inr (.inr (.inr (.inl ⟨_, _, _, _, rfl, rfl, rfl⟩)))))) | exact .inr (.inr (.inr (.inr (.inr (.inr (.inr ⟨_, _, _, _, _, rfl, rfl, rfl⟩)))))))) (by decide) (by simp) (by rfl) (by (repeat' (first | exact tok_nil | refine tok_cons ?_ ?_)); all_goals (first | exact rcs_tok _ _ _ _ | exact ics_tok _ _ _ _ | (simp [tokLt1]; done))) (fun _ => by rfl) (by first | rfl | simp [gdOk, newToks]) ?_
    simp -implicitDefEqProofs only [push_cast, ics_back, seval]
    refine callE_box h2 [1] [] (by rfl) (by rfl) (by rfl) (by rfl) (by rfl) (by rfl) (fun i j cs h1 h2 => by (rcases i with _ | _ | _ | i <;> simp at h1 h2 <;> (subst h1; subst h2; exact ⟨_, rfl, (by first | exact rcs_cell _ _ _ | exact ics_cell _ _ _ | exact (by (repeat' (first | exact wkL_nil | refine wkL_cons ?_ ?_)); all_goals (first | exact .inl ⟨_, _, _, _, rfl, rfl, rfl⟩ | exact .inr (.inr (.inr (.inr (.inl ⟨_, _, _, rfl, rfl, rfl⟩)))) | exact .inr (.inr (.inr (.inr (.inr (.inl ⟨_, _, _, _, rfl, rfl, rfl⟩))))) | exact .inr (.inr (.inr (.inr (.inr (.inr ⟨_, _, rfl, rfl, rfl⟩))))) | exact .inr (.inl rfl) | exact .inr (.inr (.inl ⟨_, _, _, rfl, rfl, rfl⟩)))) | exact (by (repeat' (first | exact wkL_nil | refine wkL_cons ?_ ?_)); all_goals (first | exact .inr (.inl rfl) | exact .inr (.inr (.inl ⟨_, _, _, rfl, rfl, rfl⟩)) | exact .inr (.inr (.inr (.inl ⟨_, _, _, _, _, rfl, rfl, rfl⟩))) | exact .inr (.inr (.inr (.inr (.inr (.inr (.inr ⟨_, _, _, _, rfl, rfl, rfl⟩)))))))))⟩))) (by simp [PS.lv, lkp_hit, lkp_miss, lkp_nil]) (by (repeat' (first | exact wkL_nil | refine wkL_cons ?_ ?_)); all_goals (first | exact .inl ⟨_, _, _, rfl, rfl, rfl⟩ | exact .inr (.inl rfl) | exact .inr (.inr (.inl ⟨_, _, _, _, rfl, rfl, rfl⟩)) | exact .inr (.inr (.inr (.inl ⟨_, _, _, rfl, rfl, rfl, (wkL_get (by (repeat' (first | exact wkL_nil | refine wkL_cons ?_ ?_)); all_goals (first | exact .inl ⟨_, _, _, rfl, rfl, rfl⟩ | exact .inr rfl))).2⟩))) | exact .inr (.inr (.inr (.inr (.inr (.inr (.inl ⟨_, _, _, _, rfl, rfl, rfl⟩)))))) | exact .inr (.inr (.inr (.inr (.inr (.inr (.inr ⟨_, _, _, _, _, rfl, rfl, rfl⟩)))))))) (by decide) (by simp) (by rfl) (by (repeat' (first | exact tok_nil | refine tok_cons ?_ ?_)); all_goals (first | exact rcs_tok _ _ _ _ | exact ics_tok _ _ _ _ | (simp [tokLt1]; done))) (fun _ => by rfl) (by first | rfl | simp [gdOk, newToks]) ?_
    simp -implicitDefEqProofs only [push_cast, ics_back, seval]
    exact endK_box [] [0, 1] rfl rfl (by simp [PS.lv, lkp_hit, lkp_miss, lkp_nil]) rfl rfl (by rfl) (fun i j ps h1 h2 => by (rcases i with _ | _ | i <;> simp at h1 h2 <;> (subst h1; subst h2; exact ⟨_, rfl, (by first | exact rcs_res _ _ _ | exact ics_res _ _ _ | exact (by (repeat' (first | exact wkL_nil | refine wkL_cons ?_ ?_)); all_goals (first | rfl | exact ⟨rfl, rfl⟩ | exact ⟨rfl, rfl, rfl⟩ | exact .inl rfl)))⟩))) ⟨by simp [resOk, PS.get, lkp_hit, lkp_miss, PS.ev], by simp [resPV, PS.get, lkp_hit, lkp_miss, PS.ev], by simp [resOf, resPV, one', res3, res2, res1, PS.get, lkp_hit, lkp_miss, PS.ev, PV.weak, PV.el, wkL]⟩
end Go.Proofs.Sh

/- Package band: whether a band goes on in the next one (alike). -/
set_option maxRecDepth 100000
set_option linter.unusedSimpArgs false
set_option linter.unusedVariables false
namespace Go.Proofs.Sh
open Go.Pv
open Rg
theorem rcs_at' {L : List Rt} {a k : Nat} (h : a + k < L.length) : ((rcs L).drop (a * 4 + k * 4)).take 4 = rc L[a + k] := by
  have := rcs_at h
  rw [show (a + k) * 4 = a * 4 + k * 4 by omega] at this
  exact this
theorem rcs_room' {L : List Rt} {a k : Nat} (h : a + k < L.length) : 4 ≤ ((rcs L).drop (a * 4 + k * 4)).length := by rw [List.length_drop, rcs_length]; omega
theorem al1_fs (a b : Rt) (ha : cntB a = true) : Fsp Try.prog 56 [] 0 [rpv a, rpv b] [] 0 (.bool (decide (a.x = b.x) && (decide (a.w = b.w) && decide (a.y + a.h = b.y)))) := by
  have p := cnt_pos ha
  have w1 : IntKind.i64.wrap (a.y + a.h) = a.y + a.h := wrap_i64_id (by omega) (by omega)
  have e1 : (a.x == b.x) = decide (a.x = b.x) := rfl
  have e2 : (a.w == b.w) = decide (a.w = b.w) := rfl
  have e3 : (a.y + a.h == b.y) = decide (a.y + a.h = b.y) := rfl
  cases c1 : decide (a.x = b.x) with
  | false =>
    (refine Fsp.ofs (nx := 0) mixed Try.func56 rfl (by simp [Try.f56]) ?_; simp -implicitDefEqProofs only [push_cast, Try.f56, rpv, rc, w1, e1, e2, e3, c1, seval])
    (repeat (first | refine ⟨(by omega : _ ≤ _), ?_⟩ | refine ⟨(by omega : _ < _), ?_⟩ | refine ⟨by (unfold drawOk; kernel_rfl), ?_⟩ | refine ⟨(by simp; done), ?_⟩ | refine ⟨(by simp; omega), ?_⟩))
    all_goals (first | done | rfl | exact ⟨_, rfl, by simp [wkL, res2, res1, PV.weak, PV.el]⟩ | (simp [wkL, res2, res1, PV.weak, PV.el]; done))
  | true =>
    cases c2 : decide (a.w = b.w) with
    | false =>
      (refine Fsp.ofs (nx := 0) mixed Try.func56 rfl (by simp [Try.f56]) ?_; simp -implicitDefEqProofs only [push_cast, Try.f56, rpv, rc, w1, e1, e2, e3, c1, c2, seval])
      (repeat (first | refine ⟨(by omega : _ ≤ _), ?_⟩ | refine ⟨(by omega : _ < _), ?_⟩ | refine ⟨by (unfold drawOk; kernel_rfl), ?_⟩ | refine ⟨(by simp; done), ?_⟩ | refine ⟨(by simp; omega), ?_⟩))
      all_goals (first | done | rfl | exact ⟨_, rfl, by simp [wkL, res2, res1, PV.weak, PV.el]⟩ | (simp [wkL, res2, res1, PV.weak, PV.el]; done))
    | true =>
      (refine Fsp.ofs (nx := 0) mixed Try.func56 rfl (by simp [Try.f56]) ?_; simp -implicitDefEqProofs only [push_cast, Try.f56, rpv, rc, w1, e1, e2, e3, c1, c2, seval])
      (repeat (first | refine ⟨(by omega : _ ≤ _), ?_⟩ | refine ⟨(by omega : _ < _), ?_⟩ | refine ⟨by (unfold drawOk; kernel_rfl), ?_⟩ | refine ⟨(by simp; done), ?_⟩ | refine ⟨(by simp; omega), ?_⟩))
      all_goals (first | done | rfl | exact ⟨_, rfl, by simp [wkL, res2, res1, PV.weak, PV.el]⟩ | (simp [wkL, res2, res1, PV.weak, PV.el]; done))
structure EfA (A B : List Rt) where
  k : Nat
  h : k ≤ A.length
  e : eqF A B = eqF (A.drop k) (B.drop k)
def EfA.st (O : List Rt) (a n b m : Nat) {A B : List Rt} (x : EfA A B) : PS := { n := 32, env := [(17, .int .i64 x.k), (16, .int .i64 n), (15, .slb 0 (a * 4) n 4), (6, .bool false), (2, .fn 56 []), (1, .slb 0 (b * 4) m 4)], objs := [(0, some (rcs O))], live := [], nxt := 60 }
theorem eqF_len : ∀ {A B : List Rt}, A.length ≠ B.length → eqF A B = false
  | [], [], h => absurd rfl h
  | [], _ :: _, _ => rfl
  | _ :: _, [], _ => rfl
  | a :: A, b :: B, h => by
    rw [eqF, eqF_len (A := A) (B := B) (fun e => h (by simp [e])), Bool.and_false]
theorem eqf_fs (O : List Rt) (hO : Bnd O) (hl : O.length ≤ 4398046511104) (a n b m : Nat) (ha : a + n ≤ O.length) (hb : b + m ≤ O.length) :
    Fsp Try.prog 55 [rcs O] 0 [.slb 0 (a * 4) n 4, .slb 0 (b * 4) m 4, .fn 56 []] [rcs O] 0 (.bool (eqF ((O.drop a).take n) ((O.drop b).take m))) := by
  generalize hA : (O.drop a).take n = A
  generalize hB : (O.drop b).take m = B
  have hAl : A.length = n := by rw [← hA, List.length_take, List.length_drop]; omega
  have hBl : B.length = m := by rw [← hB, List.length_take, List.length_drop]; omega
  (refine Fsp.of (nx := 1) mixed Try.func55 rfl (by decide) (by first | exact Nat.le_refl _ | simp) (by simp [Try.f55]) ⟨by simp, by simp⟩ ?_; simp -implicitDefEqProofs only [push_cast, Try.f55, seval])
  refine condC_split (fun g1 => ?_) (fun g1 => ?_)
  · have e : eqF A B = false := eqF_len (by rw [hAl, hBl]; intro e; subst e; simp at g1)
    rw [e]
    simp -implicitDefEqProofs only [push_cast, seval]
    exact endK_box [] [0] rfl rfl (by simp [PS.lv, lkp_hit, lkp_miss, lkp_nil]) rfl rfl (by rfl) (fun i j ps h1 h2 => by (rcases i with _ | i <;> simp at h1 h2 <;> (subst h1; subst h2; exact ⟨_, rfl, (by first | exact rcs_res _ _ _ | exact ics_res _ _ _ | exact (by (repeat' (first | exact wkL_nil | refine wkL_cons ?_ ?_)); all_goals (first | rfl | exact ⟨rfl, rfl⟩ | exact ⟨rfl, rfl, rfl⟩ | exact .inl rfl)))⟩))) ⟨by simp [resOk, PS.get, lkp_hit, lkp_miss, PS.ev], by simp [resPV, PS.get, lkp_hit, lkp_miss, PS.ev], by simp [resOf, resPV, one', res3, res2, res1, PS.get, lkp_hit, lkp_miss, PS.ev, PV.weak, PV.el, wkL]⟩
  have hnm : n = m := by simp at g1; omega
  subst hnm
  simp -implicitDefEqProofs only [push_cast, seval]
  refine loopC_of (α := EfA A B) (EfA.st O a n b n) (fun x => A.length - x.k) ⟨0, Nat.zero_le _, rfl⟩ ?_ ?_
  · (simp only [EfA.st]; exact Wk.by _ _ _ [(0,0)] [] [] (by simp) (by simp [wkV, PV.el, PV.weak, PS.get, PS.obj, PS.lv, lkp_hit, lkp_miss, lkp_nil, lko, wkL, wkC, res1, rcs_wk, ics_wk]) (by simp [PS.get, PS.obj, PS.lv, lkp_hit, lkp_miss, lkp_nil, lko, wkL, wkC, PV.weak, wkL, wkC, res1, rcs_wk, ics_wk]) (by simp [PS.get, PS.obj, PS.lv, lkp_hit, lkp_miss, lkp_nil, lko]) (by rfl) (by rfl) (by simp [lko]) (by simp) (by simp) (by simp) (fun i hi => by rcases i with _ | _ | _ | _ | _ | _ | i <;> first | rfl | (exfalso; omega)))
  rintro ⟨k, hk, he⟩
  simp only [EfA.st]
  simp -implicitDefEqProofs only [push_cast, seval]
  refine condC_split (fun g2 => ?_) (fun g2 => ?_)
  · have hlt : k < n := by simp at g2; omega
    have hu := wr_up (k := k) (by omega)
    have h1 := rcs_at' (L := O) (a := a) (k := k) (by omega)
    have h2 := rcs_at' (L := O) (a := b) (k := k) (by omega)
    have r1 := rcs_room' (L := O) (a := a) (k := k) (by omega)
    have r2 := rcs_room' (L := O) (a := b) (k := k) (by omega)
    have eA : A[k]'(by omega) = O[a + k]'(by omega) := by simp [← hA]
    have eB : B[k]'(by omega) = O[b + k]'(by omega) := by simp [← hB]
    rw [rdrop (L := A) (by omega), rdrop (L := B) (by omega), eA, eB, eqF] at he
    have hF := al1_fs O[a + k] O[b + k] (hO _ (List.getElem_mem (by omega)))
    generalize hc : (decide (O[a + k].x = O[b + k].x) && (decide (O[a + k].w = O[b + k].w) && decide (O[a + k].y + O[a + k].h = O[b + k].y))) = c at *
    simp -implicitDefEqProofs only [push_cast, h1, h2, rc, seval]
    (repeat (first | refine ⟨(by omega : _ ≤ _), ?_⟩ | refine ⟨(by omega : _ < _), ?_⟩ | refine ⟨by (unfold drawOk; kernel_rfl), ?_⟩ | refine ⟨(by simp; done), ?_⟩ | refine ⟨(by simp; omega), ?_⟩))
    refine callE_p hF ?_
    cases c with
    | false =>
      rw [Bool.false_and] at he
      rw [he]
      simp -implicitDefEqProofs only [push_cast, seval]
      exact endK_box [] [0] rfl rfl (by simp [PS.lv, lkp_hit, lkp_miss, lkp_nil]) rfl rfl (by rfl) (fun i j ps h1 h2 => by (rcases i with _ | i <;> simp at h1 h2 <;> (subst h1; subst h2; exact ⟨_, rfl, (by first | exact rcs_res _ _ _ | exact ics_res _ _ _ | exact (by (repeat' (first | exact wkL_nil | refine wkL_cons ?_ ?_)); all_goals (first | rfl | exact ⟨rfl, rfl⟩ | exact ⟨rfl, rfl, rfl⟩ | exact .inl rfl)))⟩))) ⟨by simp [resOk, PS.get, lkp_hit, lkp_miss, PS.ev], by simp [resPV, PS.get, lkp_hit, lkp_miss, PS.ev], by simp [resOf, resPV, one', res3, res2, res1, PS.get, lkp_hit, lkp_miss, PS.ev, PV.weak, PV.el, wkL]⟩
    | true =>
      rw [Bool.true_and] at he
      simp -implicitDefEqProofs only [push_cast, hu, seval]
      refine ⟨⟨k + 1, by omega, he⟩, by simp only; omega, ?_⟩
      (simp only [EfA.st]; exact Wk.by _ _ _ [(0,0)] [] [] (by simp) (by simp [wkV, PV.el, PV.weak, PS.get, PS.obj, PS.lv, lkp_hit, lkp_miss, lkp_nil, lko, wkL, wkC, res1, rcs_wk, ics_wk]) (by simp [PS.get, PS.obj, PS.lv, lkp_hit, lkp_miss, lkp_nil, lko, wkL, wkC, PV.weak, wkL, wkC, res1, rcs_wk, ics_wk]) (by simp [PS.get, PS.obj, PS.lv, lkp_hit, lkp_miss, lkp_nil, lko]) (by rfl) (by rfl) (by simp [lko]) (by simp) (by simp) (by simp) (fun i hi => by rcases i with _ | _ | _ | _ | _ | _ | i <;> first | rfl | (exfalso; omega)))
  · have hke : k = n := by simp at g2; omega
    subst hke
    rw [List.drop_of_length_le (by omega), List.drop_of_length_le (by omega)] at he
    rw [he, show eqF [] [] = true from rfl]
    simp -implicitDefEqProofs only [push_cast, seval]
    exact endK_box [] [0] rfl rfl (by simp [PS.lv, lkp_hit, lkp_miss, lkp_nil]) rfl rfl (by rfl) (fun i j ps h1 h2 => by (rcases i with _ | i <;> simp at h1 h2 <;> (subst h1; subst h2; exact ⟨_, rfl, (by first | exact rcs_res _ _ _ | exact ics_res _ _ _ | exact (by (repeat' (first | exact wkL_nil | refine wkL_cons ?_ ?_)); all_goals (first | rfl | exact ⟨rfl, rfl⟩ | exact ⟨rfl, rfl, rfl⟩ | exact .inl rfl)))⟩))) ⟨by simp [resOk, PS.get, lkp_hit, lkp_miss, PS.ev], by simp [resPV, PS.get, lkp_hit, lkp_miss, PS.ev], by simp [resOf, resPV, one', res3, res2, res1, PS.get, lkp_hit, lkp_miss, PS.ev, PV.weak, PV.el, wkL]⟩
theorem eqf_e (O : List Rt) (hl : O.length ≤ 4398046511104) (a n : Nat) (hn : 0 < n) (hn2 : n ≤ O.length) : Fsp Try.prog 55 [rcs O] 0 [.slb 0 (a * 4) n 4, .sl 4 [], .fn 56 []] [rcs O] 0 (.bool false) := by
  have hne : ((n : Int) != 0) = true := by simp; omega
  (refine Fsp.of (nx := 1) mixed Try.func55 rfl (by decide) (by first | exact Nat.le_refl _ | simp) (by simp [Try.f55]) ⟨by simp, by simp⟩ ?_; simp -implicitDefEqProofs only [push_cast, Try.f55, hne, seval])
  exact endK_box [] [0] rfl rfl (by simp [PS.lv, lkp_hit, lkp_miss, lkp_nil]) rfl rfl (by rfl) (fun i j ps h1 h2 => by (rcases i with _ | i <;> simp at h1 h2 <;> (subst h1; subst h2; exact ⟨_, rfl, (by first | exact rcs_res _ _ _ | exact ics_res _ _ _ | exact (by (repeat' (first | exact wkL_nil | refine wkL_cons ?_ ?_)); all_goals (first | rfl | exact ⟨rfl, rfl⟩ | exact ⟨rfl, rfl, rfl⟩ | exact .inl rfl)))⟩))) ⟨by simp [resOk, PS.get, lkp_hit, lkp_miss, PS.ev], by simp [resPV, PS.get, lkp_hit, lkp_miss, PS.ev], by simp [resOf, resPV, one', res3, res2, res1, PS.get, lkp_hit, lkp_miss, PS.ev, PV.weak, PV.el, wkL]⟩
def sl2 (lo hi : Nat) : PV := if hi = lo then .sl 4 [] else .slb 0 (lo * 4) (hi - lo) 4
theorem alike_fs (O : List Rt) (hO : Bnd O) (hl : O.length ≤ 4398046511104) (a f : Nat) (ha : a ≤ f) (hf : f ≤ O.length) : Fsp Try.prog 33 [rcs O] 0 [sl2 a f, sl2 f O.length] [rcs O] 0 (.bool (alk ((O.take f).drop a) (O.drop f))) := by
  have hE := eqf_fs O hO hl a (f - a) f (O.length - f) (by omega) (by omega)
  have e1 : (O.drop a).take (f - a) = (O.take f).drop a := by rw [List.drop_take]
  have e2 : (O.drop f).take (O.length - f) = O.drop f := List.take_of_length_le (by rw [List.length_drop]; omega)
  rw [e1, e2] at hE
  have hl1 : ((O.take f).drop a).length = f - a := by rw [List.length_drop, List.length_take]; omega
  unfold sl2 alk
  rw [hl1]
  by_cases c1 : f = a
  · rw [if_pos c1, decide_eq_false (by omega), Bool.false_and]
    by_cases c2 : O.length = f
    · rw [if_pos c2]
      (refine Fsp.of (nx := 1) mixed Try.func33 rfl (by decide) (by first | exact Nat.le_refl _ | simp) (by simp [Try.f33]) ⟨by simp, by simp⟩ ?_; simp -implicitDefEqProofs only [push_cast, Try.f33, seval])
      refine callE_no ?_
      simp -implicitDefEqProofs only [push_cast, seval]
      exact endK_box [] [0] rfl rfl (by simp [PS.lv, lkp_hit, lkp_miss, lkp_nil]) rfl rfl (by rfl) (fun i j ps h1 h2 => by (rcases i with _ | i <;> simp at h1 h2 <;> (subst h1; subst h2; exact ⟨_, rfl, (by first | exact rcs_res _ _ _ | exact ics_res _ _ _ | exact (by (repeat' (first | exact wkL_nil | refine wkL_cons ?_ ?_)); all_goals (first | rfl | exact ⟨rfl, rfl⟩ | exact ⟨rfl, rfl, rfl⟩ | exact .inl rfl)))⟩))) ⟨by simp [resOk, PS.get, lkp_hit, lkp_miss, PS.ev], by simp [resPV, PS.get, lkp_hit, lkp_miss, PS.ev], by simp [resOf, resPV, one', res3, res2, res1, PS.get, lkp_hit, lkp_miss, PS.ev, PV.weak, PV.el, wkL]⟩
    · rw [if_neg c2]
      (refine Fsp.of (nx := 1) mixed Try.func33 rfl (by decide) (by first | exact Nat.le_refl _ | simp) (by simp [Try.f33]) ⟨by simp, by simp⟩ ?_; simp -implicitDefEqProofs only [push_cast, Try.f33, seval])
      refine callE_no ?_
      simp -implicitDefEqProofs only [push_cast, seval]
      exact endK_box [] [0] rfl rfl (by simp [PS.lv, lkp_hit, lkp_miss, lkp_nil]) rfl rfl (by rfl) (fun i j ps h1 h2 => by (rcases i with _ | i <;> simp at h1 h2 <;> (subst h1; subst h2; exact ⟨_, rfl, (by first | exact rcs_res _ _ _ | exact ics_res _ _ _ | exact (by (repeat' (first | exact wkL_nil | refine wkL_cons ?_ ?_)); all_goals (first | rfl | exact ⟨rfl, rfl⟩ | exact ⟨rfl, rfl, rfl⟩ | exact .inl rfl)))⟩))) ⟨by simp [resOk, PS.get, lkp_hit, lkp_miss, PS.ev], by simp [resPV, PS.get, lkp_hit, lkp_miss, PS.ev], by simp [resOf, resPV, one', res3, res2, res1, PS.get, lkp_hit, lkp_miss, PS.ev, PV.weak, PV.el, wkL]⟩
  · have hpos : decide ((0 : Int) < ((f - a : Nat) : Int)) = true := by rw [decide_eq_true_eq]; omega
    rw [if_neg c1, decide_eq_true (by omega), Bool.true_and]
    by_cases c2 : O.length = f
    · have hE2 := eqf_e O hl a (f - a) (by omega) (by omega)
      have e3 : eqF ((O.take f).drop a) (O.drop f) = false := eqF_len (by rw [hl1, List.length_drop]; omega)
      rw [if_pos c2, e3]
      (refine Fsp.of (nx := 1) mixed Try.func33 rfl (by decide) (by first | exact Nat.le_refl _ | simp) (by simp [Try.f33]) ⟨by simp, by simp⟩ ?_; simp -implicitDefEqProofs only [push_cast, Try.f33, gt_iff_lt, hpos, seval])
      refine callE_box hE2 [0] [] (by rfl) (by rfl) (by rfl) (by rfl) (by rfl) (by rfl) (fun i j cs h1 h2 => by (rcases i with _ | _ | _ | i <;> simp at h1 h2 <;> (subst h1; subst h2; exact ⟨_, rfl, (by first | exact rcs_cell _ _ _ | exact ics_cell _ _ _ | exact (by (repeat' (first | exact wkL_nil | refine wkL_cons ?_ ?_)); all_goals (first | exact .inl ⟨_, _, _, _, rfl, rfl, rfl⟩ | exact .inr (.inr (.inr (.inr (.inl ⟨_, _, _, rfl, rfl, rfl⟩)))) | exact .inr (.inr (.inr (.inr (.inr (.inl ⟨_, _, _, _, rfl, rfl, rfl⟩))))) | exact .inr (.inr (.inr (.inr (.inr (.inr ⟨_, _, rfl, rfl, rfl⟩))))) | exact .inr (.inl rfl) | exact .inr (.inr (.inl ⟨_, _, _, rfl, rfl, rfl⟩)))) | exact (by (repeat' (first | exact wkL_nil | refine wkL_cons ?_ ?_)); all_goals (first | exact .inr (.inl rfl) | exact .inr (.inr (.inl ⟨_, _, _, rfl, rfl, rfl⟩)) | exact .inr (.inr (.inr (.inl ⟨_, _, _, _, _, rfl, rfl, rfl⟩))) | exact .inr (.inr (.inr (.inr (.inr (.inr (.inr ⟨_, _, _, _, rfl, rfl, rfl⟩)))))))))⟩))) (by simp [PS.lv, lkp_hit, lkp_miss, lkp_nil]) (by (repeat' (first | exact wkL_nil | refine wkL_cons ?_ ?_)); all_goals (first | exact .inl ⟨_, _, _, rfl, rfl, rfl⟩ | exact .inr (.inl rfl) | exact .inr (.inr (.inl ⟨_, _, _, _, rfl, rfl, rfl⟩)) | exact .inr (.inr (.inr (.inl ⟨_, _, _, rfl, rfl, rfl, (wkL_get (by (repeat' (first | exact wkL_nil | refine wkL_cons ?_ ?_)); all_goals (first | exact .inl ⟨_, _, _, rfl, rfl, rfl⟩ | exact .inr rfl))).2⟩))) | exact .inr (.inr (.inr (.inr (.inr (.inr (.inl ⟨_, _, _, _, rfl, rfl, rfl⟩)))))) | exact .inr (.inr (.inr (.inr (.inr (.inr (.inr ⟨_, _, _, _, _, rfl, rfl, rfl⟩)))))))) (by decide) (by simp) (by rfl) (by (repeat' (first | exact tok_nil | refine tok_cons ?_ ?_)); all_goals (first | exact rcs_tok _ _ _ _ | exact ics_tok _ _ _ _ | (simp [tokLt1]; done))) (fun _ => by rfl) (by first | rfl | simp [gdOk, newToks]) ?_
      simp -implicitDefEqProofs only [push_cast, rcs_back, seval]
      exact endK_box [] [0] rfl rfl (by simp [PS.lv, lkp_hit, lkp_miss, lkp_nil]) rfl rfl (by rfl) (fun i j ps h1 h2 => by (rcases i with _ | i <;> simp at h1 h2 <;> (subst h1; subst h2; exact ⟨_, rfl, (by first | exact rcs_res _ _ _ | exact ics_res _ _ _ | exact (by (repeat' (first | exact wkL_nil | refine wkL_cons ?_ ?_)); all_goals (first | rfl | exact ⟨rfl, rfl⟩ | exact ⟨rfl, rfl, rfl⟩ | exact .inl rfl)))⟩))) ⟨by simp [resOk, PS.get, lkp_hit, lkp_miss, PS.ev], by simp [resPV, PS.get, lkp_hit, lkp_miss, PS.ev], by simp [resOf, resPV, one', res3, res2, res1, PS.get, lkp_hit, lkp_miss, PS.ev, PV.weak, PV.el, wkL]⟩
    · rw [if_neg c2]
      (refine Fsp.of (nx := 1) mixed Try.func33 rfl (by decide) (by first | exact Nat.le_refl _ | simp) (by simp [Try.f33]) ⟨by simp, by simp⟩ ?_; simp -implicitDefEqProofs only [push_cast, Try.f33, gt_iff_lt, hpos, seval])
      refine callE_box hE [0] [] (by rfl) (by rfl) (by rfl) (by rfl) (by rfl) (by rfl) (fun i j cs h1 h2 => by (rcases i with _ | _ | _ | i <;> simp at h1 h2 <;> (subst h1; subst h2; exact ⟨_, rfl, (by first | exact rcs_cell _ _ _ | exact ics_cell _ _ _ | exact (by (repeat' (first | exact wkL_nil | refine wkL_cons ?_ ?_)); all_goals (first | exact .inl ⟨_, _, _, _, rfl, rfl, rfl⟩ | exact .inr (.inr (.inr (.inr (.inl ⟨_, _, _, rfl, rfl, rfl⟩)))) | exact .inr (.inr (.inr (.inr (.inr (.inl ⟨_, _, _, _, rfl, rfl, rfl⟩))))) | exact .inr (.inr (.inr (.inr (.inr (.inr ⟨_, _, rfl, rfl, rfl⟩))))) | exact .inr (.inl rfl) | exact .inr (.inr (.inl ⟨_, _, _, rfl, rfl, rfl⟩)))) | exact (by (repeat' (first | exact wkL_nil | refine wkL_cons ?_ ?_)); all_goals (first | exact .inr (.inl rfl) | exact .inr (.inr (.inl ⟨_, _, _, rfl, rfl, rfl⟩)) | exact .inr (.inr (.inr (.inl ⟨_, _, _, _, _, rfl, rfl, rfl⟩))) | exact .inr (.inr (.inr (.inr (.inr (.inr (.inr ⟨_, _, _, _, rfl, rfl, rfl⟩)))))))))⟩))) (by simp [PS.lv, lkp_hit, lkp_miss, lkp_nil]) (by (repeat' (first | exact wkL_nil | refine wkL_cons ?_ ?_)); all_goals (first | exact .inl ⟨_, _, _, rfl, rfl, rfl⟩ | exact .inr (.inl rfl) | exact .inr (.inr (.inl ⟨_, _, _, _, rfl, rfl, rfl⟩)) | exact .inr (.inr (.inr (.inl ⟨_, _, _, rfl, rfl, rfl, (wkL_get (by (repeat' (first | exact wkL_nil | refine wkL_cons ?_ ?_)); all_goals (first | exact .inl ⟨_, _, _, rfl, rfl, rfl⟩ | exact .inr rfl))).2⟩))) | exact .inr (.inr (.inr (.inr (.inr (.inr (.inl ⟨_, _, _, _, rfl, rfl, rfl⟩)))))) | exact .inr (.inr (.inr (.inr (.inr (.inr (.inr ⟨_, _, _, _, _, rfl, rfl, rfl⟩)))))))) (by decide) (by simp) (by rfl) (by (repeat' (first | exact tok_nil | refine tok_cons ?_ ?_)); all_goals (first | exact rcs_tok _ _ _ _ | exact ics_tok _ _ _ _ | (simp [tokLt1]; done))) (fun _ => by rfl) (by first | rfl | simp [gdOk, newToks]) ?_
      simp -implicitDefEqProofs only [push_cast, rcs_back, seval]
      exact endK_box [] [0] rfl rfl (by simp [PS.lv, lkp_hit, lkp_miss, lkp_nil]) rfl rfl (by rfl) (fun i j ps h1 h2 => by (rcases i with _ | i <;> simp at h1 h2 <;> (subst h1; subst h2; exact ⟨_, rfl, (by first | exact rcs_res _ _ _ | exact ics_res _ _ _ | exact (by (repeat' (first | exact wkL_nil | refine wkL_cons ?_ ?_)); all_goals (first | rfl | exact ⟨rfl, rfl⟩ | exact ⟨rfl, rfl, rfl⟩ | exact .inl rfl)))⟩))) ⟨by simp [resOk, PS.get, lkp_hit, lkp_miss, PS.ev], by simp [resPV, PS.get, lkp_hit, lkp_miss, PS.ev], by simp [resOf, resPV, one', res3, res2, res1, PS.get, lkp_hit, lkp_miss, PS.ev, PV.weak, PV.el, wkL]⟩
end Go.Proofs.Sh
