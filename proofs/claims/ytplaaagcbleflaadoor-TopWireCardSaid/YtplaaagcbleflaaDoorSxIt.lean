/- Package pack: Length, Get; PackGets. -/
import Derived.Test.YtplaaagcbleflaaDoorPkGet
import Derived.Test.YtplaaagcbleflaaDoorPkPack
import Derived.Test.YtplaaagcbleflaaDoorPvRf
import Derived.Test.YtplaaagcbleflaaDoorPvX
import Derived.RangeFuncBox
import Derived.Shelf.Abstract
import Derived.WalkKit
import Derived.OwnWalkIn
import Derived.TacticsInMore
import Derived.LoopNIn
import Derived.LoopIn
import Derived.Test.YtplaaagcbleflaaDoorPvRg
set_option maxRecDepth 100000
set_option linter.unusedSimpArgs false
set_option linter.unusedVariables false
namespace Go.Proofs.Sh
open Go.Pv

def lenN (o : Int) (s : List UInt8) : Nat := decU o ((s.drop 2).take 2)
def lenR (o : Int) (s : List UInt8) : Int × Int :=
  if isOrd o = true then
    if s.length < 4 then (0, 3) else if lenN o s = 0 then (0, 13) else if 16384 < lenN o s then (0, 4) else (((4 * lenN o s : Nat) : Int), 0)
  else (0, 8)
theorem two_of {s : List UInt8} (h : 4 ≤ s.length) : (s.drop 2).take 2 = [s.getD 2 0, s.getD 3 0] := by
  match s, h with
  | _ :: _ :: x :: y :: r, _ => rfl
theorem lenN_0 {s : List UInt8} (h : 4 ≤ s.length) : lenN 0 s = (s.getD 2 0).toNat + 256 * (s.getD 3 0).toNat := by
  rw [lenN, two_of h]; simp [decU, little]
theorem lenN_1 {s : List UInt8} (h : 4 ≤ s.length) : lenN 1 s = (s.getD 3 0).toNat + 256 * (s.getD 2 0).toNat := by
  rw [lenN, two_of h]; simp [decU, little]
theorem lenN_lt {o : Int} {s : List UInt8} (h : 4 ≤ s.length) : lenN o s < 65536 := by
  have := decU_lt o ((s.drop 2).take 2)
  rw [two_of h] at this
  rw [lenN, two_of h]
  exact this
set_option maxHeartbeats 2000000 in
theorem packLen_fs (o : Int) (s : List UInt8) : Fsp Tryd.prog 49 [] 0 [.int .i64 o, .str s] [] 0 (.tup [.int .i64 (lenR o s).1, .int .i64 (lenR o s).2]) := by
  have hk := pknown_fs o
  cases ho : isOrd o
  · rw [ho] at hk
    rw [show lenR o s = (0, 8) by rw [lenR, if_neg (by rw [ho]; simp)]]
    (refine Fsp.ofs (nx := 0) mixed Tryd.func49 rfl (by simp [Tryd.f49]) ?_; simp -implicitDefEqProofs only [push_cast, Tryd.f49, seval])
    refine callE_p hk ?_
    simp -implicitDefEqProofs only [push_cast, seval]
    all_goals simp [wkL, res2, res1, PV.weak, PV.el]
  · rw [ho] at hk
    have hor := isOrd_of ho
    cases h1 : decide ((s.length : Int) < 4)
    · have h1' : 4 ≤ s.length := by simp at h1; omega
      have hn := lenN_lt (o := o) h1'
      have hlen : ((s.drop 2).take 2).length = wid 2 := by rw [two_of h1']; rfl
      have hg := get_fs hor (s := 2) (by unfold isSize; omega) ((s.drop 2).take 2)
      rw [show getV o 2 ((s.drop 2).take 2) = (lenN o s : Int) by
        rw [getV, if_pos hlen, readV, if_neg (by simp only [decide_eq_true_eq]; rw [show high 2 = 65535 by decide]; show ¬ (65535 : Int) < ((lenN o s : Nat) : Int); omega)]; rfl, show getE 2 ((s.drop 2).take 2) = 0 by rw [getE, if_neg (by omega), if_neg (by omega)]] at hg
      have hL : lenR o s = if lenN o s = 0 then (0, 13) else if 16384 < lenN o s then (0, 4) else (((4 * lenN o s : Nat) : Int), 0) := by
        rw [lenR, if_pos ho, if_neg (by omega)]
      rw [hL]
      have hw : IntKind.i64.wrap (4 * (lenN o s : Int)) = 4 * (lenN o s : Int) := by rw [wrap_i64_id (by omega) (by omega)]
      generalize lenN o s = n at *
      cases h2 : ((n : Int) == 0)
      · have h2' : ¬ n = 0 := by simp at h2; omega
        rw [if_neg h2']
        cases h3 : decide ((65536 : Int) < 4 * (n : Int))
        · have h3' : ¬ 16384 < n := by simp at h3; omega
          rw [if_neg h3']
          (refine Fsp.ofs (nx := 0) mixed Tryd.func49 rfl (by simp [Tryd.f49]) ?_; simp -implicitDefEqProofs only [push_cast, Tryd.f49, seval])
          refine callE_p hk ?_
          simp -implicitDefEqProofs only [push_cast, h1, seval]
          (repeat (first | refine ⟨by omega, ?_⟩ | refine ⟨by (unfold drawOk; kernel_rfl), ?_⟩))
          refine callE_p hg ?_
          simp -implicitDefEqProofs only [push_cast, h2, h3, hw, seval]
          all_goals simp [wkL, res2, res1, PV.weak, PV.el]
        · have h3' : 16384 < n := by simp at h3; omega
          rw [if_pos h3']
          (refine Fsp.ofs (nx := 0) mixed Tryd.func49 rfl (by simp [Tryd.f49]) ?_; simp -implicitDefEqProofs only [push_cast, Tryd.f49, seval])
          refine callE_p hk ?_
          simp -implicitDefEqProofs only [push_cast, h1, seval]
          (repeat (first | refine ⟨by omega, ?_⟩ | refine ⟨by (unfold drawOk; kernel_rfl), ?_⟩))
          refine callE_p hg ?_
          simp -implicitDefEqProofs only [push_cast, h2, h3, hw, seval]
          all_goals simp [wkL, res2, res1, PV.weak, PV.el]
      · have h2' : n = 0 := by simp at h2; omega
        rw [if_pos h2']
        (refine Fsp.ofs (nx := 0) mixed Tryd.func49 rfl (by simp [Tryd.f49]) ?_; simp -implicitDefEqProofs only [push_cast, Tryd.f49, seval])
        refine callE_p hk ?_
        simp -implicitDefEqProofs only [push_cast, h1, seval]
        (repeat (first | refine ⟨by omega, ?_⟩ | refine ⟨by (unfold drawOk; kernel_rfl), ?_⟩))
        refine callE_p hg ?_
        simp -implicitDefEqProofs only [push_cast, h2, seval]
        all_goals simp [wkL, res2, res1, PV.weak, PV.el]
    · have h1' : s.length < 4 := by simp at h1; omega
      rw [show lenR o s = (0, 3) by rw [lenR, if_pos ho, if_pos h1']]
      (refine Fsp.ofs (nx := 0) mixed Tryd.func49 rfl (by simp [Tryd.f49]) ?_; simp -implicitDefEqProofs only [push_cast, Tryd.f49, seval])
      refine callE_p hk ?_
      simp -implicitDefEqProofs only [push_cast, h1, seval]
      all_goals simp [wkL, res2, res1, PV.weak, PV.el]

theorem w256 (x : UInt8) : IntKind.i64.wrap (256 * (x.toNat : Int)) = 256 * (x.toNat : Int) := by
  have := x.toNat_lt
  rw [wrap_i64_id (by omega) (by omega)]
theorem wb (x : UInt8) : IntKind.i64.wrap (x.toNat : Int) = (x.toNat : Int) := by
  have := x.toNat_lt
  rw [wrap_i64_id (by omega) (by omega)]

end Go.Proofs.Sh

/- Whether rows, and requests, are the same. -/
set_option maxRecDepth 100000
set_option linter.unusedSimpArgs false
set_option linter.unusedVariables false
namespace Go.Proofs.Sh
open Go.Pv

structure SmS (a b : List Int) where
  i : Nat
  hi : i ≤ a.length
  h : ∀ j, j < i → a.getD j 0 = b.getD j 0
theorem sameUp_succ {a b : List Int} {i : Nat} (h : ∀ j, j < i → a.getD j 0 = b.getD j 0) (he : a.getD i 0 = b.getD i 0) : ∀ j, j < i + 1 → a.getD j 0 = b.getD j 0 := fun j hj => by
  rcases Nat.lt_succ_iff_lt_or_eq.1 hj with h1 | rfl
  · exact h j h1
  · exact he
theorem sameUp_all {a b : List Int} (hl : a.length = b.length) (h : ∀ j, j < a.length → a.getD j 0 = b.getD j 0) : a = b := by
  apply List.ext_getElem hl
  intro i h1 h2
  have := h i h1
  rw [List.getD_eq_getElem?_getD, List.getD_eq_getElem?_getD, List.getElem?_eq_getElem h1, List.getElem?_eq_getElem h2] at this
  exact this

def eqRow.st {a b : List Int} (s : SmS a b) : PS := { n := 26, env := [(13, .int .i64 s.i), (12, .int .i64 a.length), (4, .bool false), (0, .sl 1 (ints a)), (1, .sl 1 (ints b))], objs := [], live := [], nxt := 4 }
set_option maxHeartbeats 2000000 in
theorem eqRow_fs (a b : List Int) (ha : a.length ≤ 1000000000000000) (hb : b.length ≤ 1000000000000000) : Fsp Tryd.prog 39 [] 0 [.sl 1 (ints a), .sl 1 (ints b)] [] 0 (.bool (a == b)) := by
  (refine Fsp.ofs (nx := 0) mixed Tryd.func39 rfl (by simp [Tryd.f39]) ?_; simp -implicitDefEqProofs only [push_cast, Tryd.f39, ints_length, seval])
  refine condC_split (fun h2 => ?_) (fun h2 => ?_)
  · have hne : (a == b) = false := by
      rw [beq_eq_false_iff_ne]
      rintro rfl
      simp at h2
    simp -implicitDefEqProofs only [push_cast, ints_length, seval]
    rw [hne]
  have hl : a.length = b.length := by simp at h2; omega
  simp -implicitDefEqProofs only [push_cast, ints_length, seval]
  refine loopC_of (α := SmS a b) eqRow.st (fun s => a.length - s.i) ⟨0, by omega, fun j hj => absurd hj (Nat.not_lt_zero j)⟩ ?_ ?_
  · (simp only [eqRow.st]; exact Wk.at _ _ _ [] [] [] (by simp) (by simp [wkV, PV.el, PV.weak, PS.get, PS.obj, PS.lv, lkp_hit, lkp_miss, lkp_nil, lko]) (by simp [PS.get, PS.obj, PS.lv, lkp_hit, lkp_miss, lkp_nil, lko, wkL, wkC, PV.weak]))
  · rintro ⟨i, hi, hf⟩
    simp -implicitDefEqProofs only [push_cast, eqRow.st, ints_length, seval]
    refine condC_split (fun h3 => ?_) (fun h3 => ?_)
    · have hlt : i < a.length := by simp at h3; omega
      have hg := ints_at hlt
      have hg2 := ints_at (l := b) (i := i) (by omega)
      have hwr : IntKind.i64.wrap ((i : Int) + 1) = ((i + 1 : Nat) : Int) := by (rw [wrap_i64_id (by omega) (by omega)]; rfl)
      simp -implicitDefEqProofs only [push_cast, hg, hg2, ints_length, seval]
      (repeat (first | refine ⟨by omega, ?_⟩ | refine ⟨by (unfold drawOk; kernel_rfl), ?_⟩))
      refine condC_split (fun h4 => ?_) (fun h4 => ?_)
      · have hne : (a == b) = false := by
          rw [beq_eq_false_iff_ne]
          rintro rfl
          simp at h4
        simp -implicitDefEqProofs only [push_cast, ints_length, seval]
        rw [hne]
      · have he : a.getD i 0 = b.getD i 0 := by simpa using h4
        simp -implicitDefEqProofs only [push_cast, ints_length, seval]
        rw [hwr]
        refine ⟨⟨i + 1, by omega, sameUp_succ hf he⟩, by simp only; omega, ?_⟩
        (simp only [eqRow.st]; exact Wk.at _ _ _ [] [] [] (by simp) (by simp [wkV, PV.el, PV.weak, PS.get, PS.obj, PS.lv, lkp_hit, lkp_miss, lkp_nil, lko]) (by simp [PS.get, PS.obj, PS.lv, lkp_hit, lkp_miss, lkp_nil, lko, wkL, wkC, PV.weak]))
    · have hi2 : i = a.length := by simp at h3; omega
      have heq : (a == b) = true := by
        rw [beq_iff_eq]
        exact sameUp_all hl (by rw [hi2] at hf; exact hf)
      simp -implicitDefEqProofs only [push_cast, ints_length, seval]
      rw [heq]

def sameR (x y : Rq) : Bool := x.C == y.C && x.N == y.N && x.B == y.B && x.L == y.L
set_option maxHeartbeats 2000000 in
theorem packSame_fs (x y : Rq) (hx : x.Few) (hy : y.Few) : Fsp Tryd.prog 26 [] 0 [x.pv, y.pv] [] 0 (.bool (sameR x y)) := by
  have hN := eqRow_fs x.N y.N hx.n hy.n
  have hL := eqRow_fs x.L y.L hx.l hy.l
  cases h0 : (x.C == y.C)
  · rw [show sameR x y = false by simp only [sameR, h0, Bool.false_and]]
    (refine Fsp.ofs (nx := 0) mixed Tryd.func26 rfl (by simp [Tryd.f26]) ?_; simp -implicitDefEqProofs only [push_cast, Tryd.f26, Rq.pv, h0, seval]); (repeat (refine callE_no ?_; simp -implicitDefEqProofs only [push_cast, h0, seval]))
  · cases h1 : (x.N == y.N)
    · rw [show sameR x y = false by simp only [sameR, h0, h1, Bool.false_and, Bool.true_and]]
      rw [h1] at hN
      (refine Fsp.ofs (nx := 0) mixed Tryd.func26 rfl (by simp [Tryd.f26]) ?_; simp -implicitDefEqProofs only [push_cast, Tryd.f26, Rq.pv, h0, seval]); (repeat (refine callE_no ?_; simp -implicitDefEqProofs only [push_cast, h0, seval]))
      refine callE_p hN ?_
      simp -implicitDefEqProofs only [push_cast, h0, h1, seval]; (repeat (refine callE_no ?_; simp -implicitDefEqProofs only [push_cast, h0, h1, seval]))
    · rw [h1] at hN
      cases h2 : (x.B == y.B)
      · rw [show sameR x y = false by simp only [sameR, h0, h1, h2, Bool.false_and, Bool.true_and]]
        (refine Fsp.ofs (nx := 0) mixed Tryd.func26 rfl (by simp [Tryd.f26]) ?_; simp -implicitDefEqProofs only [push_cast, Tryd.f26, Rq.pv, h0, seval]); (repeat (refine callE_no ?_; simp -implicitDefEqProofs only [push_cast, h0, seval]))
        refine callE_p hN ?_
        simp -implicitDefEqProofs only [push_cast, h0, h1, h2, seval]; (repeat (refine callE_no ?_; simp -implicitDefEqProofs only [push_cast, h0, h1, h2, seval]))
      · rw [show sameR x y = (x.L == y.L) by simp only [sameR, h0, h1, h2, Bool.true_and]]
        (refine Fsp.ofs (nx := 0) mixed Tryd.func26 rfl (by simp [Tryd.f26]) ?_; simp -implicitDefEqProofs only [push_cast, Tryd.f26, Rq.pv, h0, seval]); (repeat (refine callE_no ?_; simp -implicitDefEqProofs only [push_cast, h0, seval]))
        refine callE_p hN ?_
        simp -implicitDefEqProofs only [push_cast, h0, h1, h2, seval]; (repeat (refine callE_no ?_; simp -implicitDefEqProofs only [push_cast, h0, h1, h2, seval]))
        refine callE_p hL ?_
        simp -implicitDefEqProofs only [push_cast, h0, h1, h2, seval]; (repeat (refine callE_no ?_; simp -implicitDefEqProofs only [push_cast, h0, h1, h2, seval]))

end Go.Proofs.Sh

/- Package pack: Get; PackGets. -/
set_option maxRecDepth 100000
set_option linter.unusedSimpArgs false
set_option linter.unusedVariables false
namespace Go.Proofs.Sh
open Go.Pv

def rq0 : Rq := ⟨0, [], [], []⟩
def getQ (o : Int) (s : List UInt8) (f : Fm) : Rq × Int :=
  if (lenR o s).2 = 0 then
    if (s.length : Int) = (lenR o s).1 then
      if s.getD 1 0 = 0 then
        if (getF o f (s.drop 4)).2 = 0 then (⟨((s.getD 0 0).toNat : Int), (getF o f (s.drop 4)).1.N, (getF o f (s.drop 4)).1.B, (getF o f (s.drop 4)).1.L⟩, 0)
        else (rq0, (getF o f (s.drop 4)).2)
      else (rq0, 2)
    else (rq0, 17)
  else (rq0, (lenR o s).2)
def getP (o : Int) (s : List UInt8) : Rq × Int :=
  if isOrd o = true then
    if s.length < 4 then (rq0, 3)
    else match formOf ((s.getD 0 0).toNat : Int) with
      | none => (rq0, 10)
      | some f => getQ o s f
  else (rq0, 8)
def getPR (o : Int) (s : List UInt8) : PV := .tup [(getP o s).1.pv, .int .i64 (getP o s).2]
theorem getP_none {o : Int} {s : List UInt8} (ho : isOrd o = true) (h : ¬ s.length < 4) (hf : formOf ((s.getD 0 0).toNat : Int) = none) : getP o s = (rq0, 10) := by
  rw [getP, if_pos ho, if_neg h, hf]
theorem getP_some {o : Int} {s : List UInt8} {f : Fm} (ho : isOrd o = true) (h : ¬ s.length < 4) (hf : formOf ((s.getD 0 0).toNat : Int) = some f) : getP o s = getQ o s f := by
  rw [getP, if_pos ho, if_neg h, hf]
set_option maxHeartbeats 8000000 in
theorem packGet_fs (o : Int) (s : List UInt8) (hs : s.length ≤ 1000000) : Fsp Tryd.prog 41 [] 0 [.int .i64 o, .str s] [] 0 (getPR o s) := by
  have hk := pknown_fs o
  have hp := packLen_fs o s
  rw [getPR]
  cases ho : isOrd o
  · rw [ho] at hk
    rw [show getP o s = (rq0, 8) by rw [getP, if_neg (by rw [ho]; simp)]]
    (refine Fsp.ofs (nx := 0) mixed Tryd.func41 rfl (by simp [Tryd.f41]) ?_; simp -implicitDefEqProofs only [push_cast, Tryd.f41, seval])
    refine callE_p hk ?_
    simp -implicitDefEqProofs only [push_cast, seval]
    exact ⟨_, rfl, by simp [wkL, res2, res1, PV.weak, PV.el, rq0, Rq.pv, ints]⟩
  · rw [ho] at hk
    have hor := isOrd_of ho
    cases h1 : decide ((s.length : Int) < 4)
    · have h1' : ¬ s.length < 4 := by simp at h1; omega
      have g0 : 0 < s.length := by omega
      have g1 : 1 < s.length := by omega
      have g4 : 4 ≤ s.length := by omega
      have hq := request_fs ((s.getD 0 0).toNat : Int)
      cases hf : formOf ((s.getD 0 0).toNat : Int) with
      | none =>
        rw [formR, hf] at hq
        simp only [form0] at hq
        rw [getP_none ho h1' hf]
        (refine Fsp.ofs (nx := 0) mixed Tryd.func41 rfl (by simp [Tryd.f41]) ?_; simp -implicitDefEqProofs only [push_cast, Tryd.f41, seval])
        refine callE_p hk ?_
        simp -implicitDefEqProofs only [push_cast, h1, wb, seval]
        (repeat (first | refine ⟨by omega, ?_⟩ | refine ⟨by (unfold drawOk; kernel_rfl), ?_⟩))
        refine callE_p hq ?_
        simp -implicitDefEqProofs only [push_cast, seval]
        exact ⟨_, rfl, by simp [wkL, res2, res1, PV.weak, PV.el, rq0, Rq.pv, ints]⟩
      | some f =>
        rw [formR, hf] at hq
        simp only [formT, Fm.pv] at hq
        obtain ⟨hok, -, -⟩ := formOf_some hf
        have hg := formGet_fs hor f hok (s.drop 4) (by simp; omega)
        simp only [getR, Fm.pv] at hg
        have htk : List.take (s.length - 4) (List.drop 4 s) = List.drop 4 s := List.take_of_length_le (by simp)
        rw [getP_some ho h1' hf, getQ]
        generalize getF o f (s.drop 4) = x at *
        obtain ⟨x, xe⟩ := x
        simp only [Fd.pv] at hg
        generalize lenR o s = L at *
        obtain ⟨n, e⟩ := L
        simp only at hp
        simp only
        (refine Fsp.ofs (nx := 0) mixed Tryd.func41 rfl (by simp [Tryd.f41]) ?_; simp -implicitDefEqProofs only [push_cast, Tryd.f41, seval])
        refine callE_p hk ?_
        simp -implicitDefEqProofs only [push_cast, h1, wb, seval]
        (repeat (first | refine ⟨by omega, ?_⟩ | refine ⟨by (unfold drawOk; kernel_rfl), ?_⟩))
        refine callE_p hq ?_
        simp -implicitDefEqProofs only [push_cast, seval]
        refine callE_p hp ?_
        cases h2 : (e != 0)
        · have h2' : e = 0 := by simpa using h2
          rw [if_pos h2']
          cases h3 : ((s.length : Int) != n)
          · have h3' : (s.length : Int) = n := by simpa using h3
            rw [if_pos h3']
            cases h4 : (((s.getD 1 0).toNat : Int) != 0)
            · have h4' : s.getD 1 0 = 0 := by
                simp at h4
                exact UInt8.toNat_inj.1 (by rw [List.getD_eq_getElem?_getD]; simpa using h4)
              rw [if_pos h4']
              cases h5 : (xe != 0)
              · have h5' : xe = 0 := by simpa using h5
                rw [if_pos h5']
                simp -implicitDefEqProofs only [push_cast, h2, h3, h4, htk, seval]
                (repeat (first | refine ⟨by omega, ?_⟩ | refine ⟨by (unfold drawOk; kernel_rfl), ?_⟩))
                refine callE_p hg ?_
                simp -implicitDefEqProofs only [push_cast, h5, wb, seval]
                (repeat (first | refine ⟨by omega, ?_⟩ | refine ⟨by (unfold drawOk; kernel_rfl), ?_⟩))
                exact ⟨_, rfl, by simp [wkL, res2, res1, PV.weak, PV.el, rq0, Rq.pv, ints]⟩
              · have h5' : ¬ xe = 0 := by simpa using h5
                rw [if_neg h5']
                simp -implicitDefEqProofs only [push_cast, h2, h3, h4, htk, seval]
                (repeat (first | refine ⟨by omega, ?_⟩ | refine ⟨by (unfold drawOk; kernel_rfl), ?_⟩))
                refine callE_p hg ?_
                simp -implicitDefEqProofs only [push_cast, h5, seval]
                (repeat (first | refine ⟨by omega, ?_⟩ | refine ⟨by (unfold drawOk; kernel_rfl), ?_⟩))
                exact ⟨_, rfl, by simp [wkL, res2, res1, PV.weak, PV.el, rq0, Rq.pv, ints]⟩
            · have h4' : ¬ s.getD 1 0 = 0 := by
                intro h
                rw [h] at h4; exact absurd h4 (by decide)
              rw [if_neg h4']
              simp -implicitDefEqProofs only [push_cast, h2, h3, h4, seval]
              (repeat (first | refine ⟨by omega, ?_⟩ | refine ⟨by (unfold drawOk; kernel_rfl), ?_⟩))
              exact ⟨_, rfl, by simp [wkL, res2, res1, PV.weak, PV.el, rq0, Rq.pv, ints]⟩
          · have h3' : ¬ (s.length : Int) = n := by simpa using h3
            rw [if_neg h3']
            simp -implicitDefEqProofs only [push_cast, h2, h3, seval]
            exact ⟨_, rfl, by simp [wkL, res2, res1, PV.weak, PV.el, rq0, Rq.pv, ints]⟩
        · have h2' : ¬ e = 0 := by simpa using h2
          rw [if_neg h2']
          simp -implicitDefEqProofs only [push_cast, h2, seval]
          (repeat (first | refine ⟨by omega, ?_⟩ | refine ⟨by (unfold drawOk; kernel_rfl), ?_⟩))
          exact ⟨_, rfl, by simp [wkL, res2, res1, PV.weak, PV.el, rq0, Rq.pv, ints]⟩
    · have h1' : s.length < 4 := by simp at h1; omega
      rw [show getP o s = (rq0, 3) by rw [getP, if_pos ho, if_pos h1']]
      (refine Fsp.ofs (nx := 0) mixed Tryd.func41 rfl (by simp [Tryd.f41]) ?_; simp -implicitDefEqProofs only [push_cast, Tryd.f41, seval])
      refine callE_p hk ?_
      simp -implicitDefEqProofs only [push_cast, h1, seval]
      exact ⟨_, rfl, by simp [wkL, res2, res1, PV.weak, PV.el, rq0, Rq.pv, ints]⟩

end Go.Proofs.Sh

/- Package stream: Begin, begin, item, Dead, Rest, Order. -/
set_option maxRecDepth 100000
set_option linter.unusedSimpArgs false
set_option linter.unusedVariables false
namespace Go.Proofs.Sh
open Go.Pv

/-- What a whole request comes to. -/
structure It where
  R : Rq
  F : Int
  C : Int
def It.pv (x : It) : PV := .agg [.int .i64 x.R.C, .sl 1 (ints x.R.N), .str x.R.B, .sl 1 (ints x.R.L), .int .i64 x.F, .int .i64 x.C]
/-- A stream. -/
structure Sm where
  b : Bool
  d : Bool
  o : Int
  r : List UInt8
def Sm.pv (s : Sm) : PV := .agg [.bool s.b, .bool s.d, .int .i64 s.o, .str s.r]
def sm0 : Sm := ⟨false, false, 0, []⟩
def beg0 : List UInt8 := [108, 1, 0, 0]
def beg1 : List UInt8 := [66, 1, 0, 0]
def bgn (o : Int) : List UInt8 := if o = 0 then beg0 else if o = 1 then beg1 else []
theorem bgn_fs (o : Int) : Fsp Tryd.prog 17 [] 0 [.int .i64 o] [] 0 (.str (bgn o)) := by
  cases h0 : (o == 0)
  · have h0' : ¬ o = 0 := by simpa using h0
    cases h1 : (o == 1)
    · have h1' : ¬ o = 1 := by simpa using h1
      rw [bgn, if_neg h0', if_neg h1']
      (refine Fsp.ofs (nx := 0) mixed Tryd.func17 rfl (by simp [Tryd.f17]) ?_; simp -implicitDefEqProofs only [push_cast, Tryd.f17, h0, h1, seval])
      (repeat (first | refine ⟨by omega, ?_⟩ | refine ⟨by (unfold drawOk; kernel_rfl), ?_⟩))
      all_goals first | done | rfl | omega | (unfold drawOk; kernel_rfl) | exact ⟨by (unfold drawOk; kernel_rfl), _, rfl, by simp [wkL, res2, res1, res3, PV.weak, PV.el]⟩ | exact ⟨_, rfl, by simp [wkL, res2, res1, res3, PV.weak, PV.el, ints, Sm.pv, It.pv, rq0]⟩ | simp [wkL, res2, res1, res3, PV.weak, PV.el, ints, Sm.pv, It.pv, rq0] | trace_state
    · have h1' : o = 1 := by simpa using h1
      rw [bgn, if_neg h0', if_pos h1']
      (refine Fsp.ofs (nx := 0) mixed Tryd.func17 rfl (by simp [Tryd.f17]) ?_; simp -implicitDefEqProofs only [push_cast, Tryd.f17, h0, h1, seval])
      (repeat (first | refine ⟨by omega, ?_⟩ | refine ⟨by (unfold drawOk; kernel_rfl), ?_⟩))
      all_goals first | done | rfl | omega | (unfold drawOk; kernel_rfl) | exact ⟨by (unfold drawOk; kernel_rfl), _, rfl, by simp [wkL, res2, res1, res3, PV.weak, PV.el]⟩ | exact ⟨_, rfl, by simp [wkL, res2, res1, res3, PV.weak, PV.el, ints, Sm.pv, It.pv, rq0]⟩ | simp [wkL, res2, res1, res3, PV.weak, PV.el, ints, Sm.pv, It.pv, rq0] | trace_state
  · have h0' : o = 0 := by simpa using h0
    rw [bgn, if_pos h0']
    (refine Fsp.ofs (nx := 0) mixed Tryd.func17 rfl (by simp [Tryd.f17]) ?_; simp -implicitDefEqProofs only [push_cast, Tryd.f17, h0, seval])
    (repeat (first | refine ⟨by omega, ?_⟩ | refine ⟨by (unfold drawOk; kernel_rfl), ?_⟩))
    all_goals first | done | rfl | omega | (unfold drawOk; kernel_rfl) | exact ⟨by (unfold drawOk; kernel_rfl), _, rfl, by simp [wkL, res2, res1, res3, PV.weak, PV.el]⟩ | exact ⟨_, rfl, by simp [wkL, res2, res1, res3, PV.weak, PV.el, ints, Sm.pv, It.pv, rq0]⟩ | simp [wkL, res2, res1, res3, PV.weak, PV.el, ints, Sm.pv, It.pv, rq0] | trace_state
theorem dead_fs (s : Sm) : Fsp Tryd.prog 15 [] 0 [s.pv] [] 0 (.bool s.d) := by
  (refine Fsp.ofs (nx := 0) mixed Tryd.func15 rfl (by simp [Tryd.f15]) ?_; simp -implicitDefEqProofs only [push_cast, Tryd.f15, Sm.pv, seval])
theorem rest_fs (s : Sm) (h : s.r.length ≤ 1000000) : Fsp Tryd.prog 16 [] 0 [s.pv] [] 0 (.int .i64 s.r.length) := by
  (refine Fsp.ofs (nx := 0) mixed Tryd.func16 rfl (by simp [Tryd.f16]) ?_; simp -implicitDefEqProofs only [push_cast, Tryd.f16, Sm.pv, seval])
theorem order_fs (s : Sm) : Fsp Tryd.prog 18 [] 0 [s.pv] [] 0 (.tup [.int .i64 s.o, .bool s.b]) := by
  (refine Fsp.ofs (nx := 0) mixed Tryd.func18 rfl (by simp [Tryd.f18]) ?_; simp -implicitDefEqProofs only [push_cast, Tryd.f18, Sm.pv, seval])
  (repeat (first | refine ⟨by omega, ?_⟩ | refine ⟨by (unfold drawOk; kernel_rfl), ?_⟩))
  all_goals first | done | rfl | omega | (unfold drawOk; kernel_rfl) | exact ⟨by (unfold drawOk; kernel_rfl), _, rfl, by simp [wkL, res2, res1, res3, PV.weak, PV.el]⟩ | exact ⟨_, rfl, by simp [wkL, res2, res1, res3, PV.weak, PV.el, ints, Sm.pv, It.pv, rq0]⟩ | simp [wkL, res2, res1, res3, PV.weak, PV.el, ints, Sm.pv, It.pv, rq0] | trace_state
def beginS (s : Sm) : Sm :=
  if s.b = true then s
  else if s.r.length < 4 then s
  else if s.r.take 4 = beg0 then ⟨true, s.d, 0, s.r.drop 4⟩
  else if s.r.take 4 = beg1 then ⟨true, s.d, 1, s.r.drop 4⟩
  else ⟨false, true, 0, []⟩
set_option maxHeartbeats 2000000 in
theorem begin_fs (s : Sm) : Fsp Tryd.prog 33 [] 0 [s.pv] [] 0 (beginS s).pv := by
  obtain ⟨b, d, o, r⟩ := s
  have hb0 := bgn_fs 0
  have hb1 := bgn_fs 1
  rw [show bgn 0 = beg0 from rfl] at hb0
  rw [show bgn 1 = beg1 from rfl] at hb1
  unfold beginS
  simp only
  cases b with
  | true =>
    rw [if_pos rfl]
    (refine Fsp.ofs (nx := 0) mixed Tryd.func33 rfl (by simp [Tryd.f33]) ?_; simp -implicitDefEqProofs only [push_cast, Tryd.f33, Sm.pv, seval])
    (repeat (first | refine ⟨by omega, ?_⟩ | refine ⟨by (unfold drawOk; kernel_rfl), ?_⟩))
    all_goals first | done | rfl | omega | (unfold drawOk; kernel_rfl) | exact ⟨by (unfold drawOk; kernel_rfl), _, rfl, by simp [wkL, res2, res1, res3, PV.weak, PV.el]⟩ | exact ⟨_, rfl, by simp [wkL, res2, res1, res3, PV.weak, PV.el, ints, Sm.pv, It.pv, rq0]⟩ | simp [wkL, res2, res1, res3, PV.weak, PV.el, ints, Sm.pv, It.pv, rq0] | trace_state
  | false =>
    rw [if_neg Bool.false_ne_true]
    cases h1 : decide ((r.length : Int) < 4)
    · have h1' : ¬ r.length < 4 := by simp at h1; omega
      have g4 : 4 ≤ r.length := by omega
      have htk : List.take (r.length - 4) (List.drop 4 r) = List.drop 4 r := List.take_of_length_le (by simp)
      rw [if_neg h1']
      cases h2 : (r.take 4 == beg0)
      · have h2' : ¬ r.take 4 = beg0 := by simpa using h2
        rw [if_neg h2']
        cases h3 : (r.take 4 == beg1)
        · have h3' : ¬ r.take 4 = beg1 := by simpa using h3
          rw [if_neg h3']
          (refine Fsp.ofs (nx := 0) mixed Tryd.func33 rfl (by simp [Tryd.f33]) ?_; simp -implicitDefEqProofs only [push_cast, Tryd.f33, Sm.pv, h1, seval])
          (repeat (first | refine ⟨by omega, ?_⟩ | refine ⟨by (unfold drawOk; kernel_rfl), ?_⟩))
          refine callE_p hb0 ?_
          simp -implicitDefEqProofs only [push_cast, h2, seval]
          refine callE_p hb1 ?_
          simp -implicitDefEqProofs only [push_cast, h3, seval]
          (repeat (first | refine ⟨by omega, ?_⟩ | refine ⟨by (unfold drawOk; kernel_rfl), ?_⟩))
          all_goals first | done | rfl | omega | (unfold drawOk; kernel_rfl) | exact ⟨by (unfold drawOk; kernel_rfl), _, rfl, by simp [wkL, res2, res1, res3, PV.weak, PV.el]⟩ | exact ⟨_, rfl, by simp [wkL, res2, res1, res3, PV.weak, PV.el, ints, Sm.pv, It.pv, rq0]⟩ | simp [wkL, res2, res1, res3, PV.weak, PV.el, ints, Sm.pv, It.pv, rq0] | trace_state
        · have h3' : r.take 4 = beg1 := by simpa using h3
          rw [if_pos h3']
          (refine Fsp.ofs (nx := 0) mixed Tryd.func33 rfl (by simp [Tryd.f33]) ?_; simp -implicitDefEqProofs only [push_cast, Tryd.f33, Sm.pv, h1, seval])
          (repeat (first | refine ⟨by omega, ?_⟩ | refine ⟨by (unfold drawOk; kernel_rfl), ?_⟩))
          refine callE_p hb0 ?_
          simp -implicitDefEqProofs only [push_cast, h2, seval]
          refine callE_p hb1 ?_
          simp -implicitDefEqProofs only [push_cast, h3, htk, seval]
          (repeat (first | refine ⟨by omega, ?_⟩ | refine ⟨by (unfold drawOk; kernel_rfl), ?_⟩))
          (repeat (first | refine ⟨by omega, ?_⟩ | refine ⟨by (unfold drawOk; kernel_rfl), ?_⟩))
          all_goals first | done | rfl | omega | (unfold drawOk; kernel_rfl) | exact ⟨by (unfold drawOk; kernel_rfl), _, rfl, by simp [wkL, res2, res1, res3, PV.weak, PV.el]⟩ | exact ⟨_, rfl, by simp [wkL, res2, res1, res3, PV.weak, PV.el, ints, Sm.pv, It.pv, rq0]⟩ | simp [wkL, res2, res1, res3, PV.weak, PV.el, ints, Sm.pv, It.pv, rq0] | trace_state
      · have h2' : r.take 4 = beg0 := by simpa using h2
        rw [if_pos h2']
        (refine Fsp.ofs (nx := 0) mixed Tryd.func33 rfl (by simp [Tryd.f33]) ?_; simp -implicitDefEqProofs only [push_cast, Tryd.f33, Sm.pv, h1, seval])
        (repeat (first | refine ⟨by omega, ?_⟩ | refine ⟨by (unfold drawOk; kernel_rfl), ?_⟩))
        refine callE_p hb0 ?_
        simp -implicitDefEqProofs only [push_cast, h2, htk, seval]
        (repeat (first | refine ⟨by omega, ?_⟩ | refine ⟨by (unfold drawOk; kernel_rfl), ?_⟩))
        (repeat (first | refine ⟨by omega, ?_⟩ | refine ⟨by (unfold drawOk; kernel_rfl), ?_⟩))
        all_goals first | done | rfl | omega | (unfold drawOk; kernel_rfl) | exact ⟨by (unfold drawOk; kernel_rfl), _, rfl, by simp [wkL, res2, res1, res3, PV.weak, PV.el]⟩ | exact ⟨_, rfl, by simp [wkL, res2, res1, res3, PV.weak, PV.el, ints, Sm.pv, It.pv, rq0]⟩ | simp [wkL, res2, res1, res3, PV.weak, PV.el, ints, Sm.pv, It.pv, rq0] | trace_state
    · have h1' : r.length < 4 := by simp at h1; omega
      rw [if_pos h1']
      (refine Fsp.ofs (nx := 0) mixed Tryd.func33 rfl (by simp [Tryd.f33]) ?_; simp -implicitDefEqProofs only [push_cast, Tryd.f33, Sm.pv, h1, seval])
      (repeat (first | refine ⟨by omega, ?_⟩ | refine ⟨by (unfold drawOk; kernel_rfl), ?_⟩))
      all_goals first | done | rfl | omega | (unfold drawOk; kernel_rfl) | exact ⟨by (unfold drawOk; kernel_rfl), _, rfl, by simp [wkL, res2, res1, res3, PV.weak, PV.el]⟩ | exact ⟨_, rfl, by simp [wkL, res2, res1, res3, PV.weak, PV.el, ints, Sm.pv, It.pv, rq0]⟩ | simp [wkL, res2, res1, res3, PV.weak, PV.el, ints, Sm.pv, It.pv, rq0] | trace_state
def itemOf (o : Int) (s : List UInt8) : It :=
  if (getP o s).2 = 0 then ⟨(getP o s).1, 0, (getP o s).1.C⟩
  else if (getP o s).2 = 10 then ⟨rq0, 1, (s.getD 0 0).toNat⟩
  else ⟨rq0, 16, (s.getD 0 0).toNat⟩
set_option maxHeartbeats 2000000 in
theorem item_fs (o : Int) (s : List UInt8) (hs : s.length ≤ 1000000) (h0 : 0 < s.length) : Fsp Tryd.prog 35 [] 0 [.int .i64 o, .str s] [] 0 (itemOf o s).pv := by
  have hg := packGet_fs o s hs
  rw [getPR] at hg
  unfold itemOf
  generalize getP o s = x at *
  obtain ⟨⟨c, N, B, L⟩, e⟩ := x
  simp only [Rq.pv] at hg
  simp only
  cases h1 : (e == 0)
  · have h1' : ¬ e = 0 := by simpa using h1
    rw [if_neg h1']
    cases h2 : (e == 10)
    · have h2' : ¬ e = 10 := by simpa using h2
      rw [if_neg h2']
      (refine Fsp.ofs (nx := 0) mixed Tryd.func35 rfl (by simp [Tryd.f35]) ?_; simp -implicitDefEqProofs only [push_cast, Tryd.f35, seval])
      refine callE_p hg ?_
      simp -implicitDefEqProofs only [push_cast, h1, h2, wb, seval]
      (repeat (first | refine ⟨by omega, ?_⟩ | refine ⟨by (unfold drawOk; kernel_rfl), ?_⟩))
      (repeat (first | refine ⟨by omega, ?_⟩ | refine ⟨by (unfold drawOk; kernel_rfl), ?_⟩))
      all_goals first | done | rfl | omega | (unfold drawOk; kernel_rfl) | exact ⟨by (unfold drawOk; kernel_rfl), _, rfl, by simp [wkL, res2, res1, res3, PV.weak, PV.el]⟩ | exact ⟨_, rfl, by simp [wkL, res2, res1, res3, PV.weak, PV.el, ints, Sm.pv, It.pv, rq0]⟩ | simp [wkL, res2, res1, res3, PV.weak, PV.el, ints, Sm.pv, It.pv, rq0] | trace_state
    · have h2' : e = 10 := by simpa using h2
      rw [if_pos h2']
      (refine Fsp.ofs (nx := 0) mixed Tryd.func35 rfl (by simp [Tryd.f35]) ?_; simp -implicitDefEqProofs only [push_cast, Tryd.f35, seval])
      refine callE_p hg ?_
      simp -implicitDefEqProofs only [push_cast, h1, h2, wb, seval]
      (repeat (first | refine ⟨by omega, ?_⟩ | refine ⟨by (unfold drawOk; kernel_rfl), ?_⟩))
      (repeat (first | refine ⟨by omega, ?_⟩ | refine ⟨by (unfold drawOk; kernel_rfl), ?_⟩))
      all_goals first | done | rfl | omega | (unfold drawOk; kernel_rfl) | exact ⟨by (unfold drawOk; kernel_rfl), _, rfl, by simp [wkL, res2, res1, res3, PV.weak, PV.el]⟩ | exact ⟨_, rfl, by simp [wkL, res2, res1, res3, PV.weak, PV.el, ints, Sm.pv, It.pv, rq0]⟩ | simp [wkL, res2, res1, res3, PV.weak, PV.el, ints, Sm.pv, It.pv, rq0] | trace_state
  · have h1' : e = 0 := by simpa using h1
    rw [if_pos h1']
    (refine Fsp.ofs (nx := 0) mixed Tryd.func35 rfl (by simp [Tryd.f35]) ?_; simp -implicitDefEqProofs only [push_cast, Tryd.f35, seval])
    refine callE_p hg ?_
    simp -implicitDefEqProofs only [push_cast, h1, seval]
    (repeat (first | refine ⟨by omega, ?_⟩ | refine ⟨by (unfold drawOk; kernel_rfl), ?_⟩))
    (repeat (first | refine ⟨by omega, ?_⟩ | refine ⟨by (unfold drawOk; kernel_rfl), ?_⟩))
    all_goals first | done | rfl | omega | (unfold drawOk; kernel_rfl) | exact ⟨by (unfold drawOk; kernel_rfl), _, rfl, by simp [wkL, res2, res1, res3, PV.weak, PV.el]⟩ | exact ⟨_, rfl, by simp [wkL, res2, res1, res3, PV.weak, PV.el, ints, Sm.pv, It.pv, rq0]⟩ | simp [wkL, res2, res1, res3, PV.weak, PV.el, ints, Sm.pv, It.pv, rq0] | trace_state

end Go.Proofs.Sh

/- The rounds of a stream's requests: the iterator's contract. -/
set_option maxRecDepth 100000
set_option linter.unusedSimpArgs false
set_option linter.unusedVariables false
namespace Go.Proofs.Sh
open Go.RowKit Go.Shelf Go.Pv

/-- The rounds from a place on: where each begins, and how long it says it is. -/
def rds (o : Int) (s : List UInt8) : Nat → Nat → List (Nat × Nat)
  | 0, _ => []
  | k + 1, a => if s.length < a + 4 then [] else if (lenR o (s.drop a)).1 = 0 then [(a, 0)] else (a, (lenR o (s.drop a)).1.toNat) :: rds o s k (a + (lenR o (s.drop a)).1.toNat)
def rdsAll (o : Int) (s : List UInt8) : List (Nat × Nat) := rds o s (s.length + 1) 0
theorem lenR_range (o : Int) (s : List UInt8) : ∃ n : Nat, (lenR o s).1 = (n : Int) ∧ n ≤ 65536 ∧ n % 4 = 0 := by
  unfold lenR
  split
  · split
    · exact ⟨0, rfl, by omega, rfl⟩
    · split
      · exact ⟨0, rfl, by omega, rfl⟩
      · split
        · exact ⟨0, rfl, by omega, rfl⟩
        · exact ⟨4 * lenN o s, rfl, by omega, by omega⟩
  · exact ⟨0, rfl, by omega, rfl⟩
theorem ext_grown {g : Gh} {w : World} {g' : Gh} {S' : PS} {w' : World} (hE : ExtW g (st0 [] 0) w g' S' w') : w.grownBy w' none := by
  have hno : ∀ b o, ¬ Go.Pv.Own g (st0 [] 0) b o := fun b o h => by
    rcases h with ⟨id, h1, _⟩ | ⟨k, lo, hi, h1, _⟩
    · rw [st0_obj] at h1; simp at h1
    · rw [st0_lv] at h1; simp at h1
  refine ⟨hE.os, hE.tape, hE.output, hE.size, fun k hk _ => ?_⟩
  rcases hE.keep k hk with h | ⟨v, v', T, fr, fr', h1, h2, h3, h4, h5⟩ | h
  · exact h
  · rw [h1, h2]
    have e1 : v' = v := by
      apply Array.ext h3
      intro i hi1 hi2
      have := h4 i (hno k i)
      rw [Array.getElem?_eq_getElem hi1, Array.getElem?_eq_getElem hi2] at this
      exact Option.some.inj this
    have e2 : fr' = fr := by
      rcases h5 with h5 | ⟨o, h5⟩
      · exact h5
      · exact absurd h5 (hno k o)
    rw [e1, e2]
  · exact absurd (h 0) (hno k 0)
theorem len_in {h : HMap} {W : World} (hH : Holds h W) (hgl : ∀ k ps, gat GTab.tab k = some ps → PRel h (.pointer (some ⟨k, 0, none⟩)) (.loc ps)) (n : Nat) (o : Int) (b : ByteArray) :
    CallsIn Fence.wide n Tryd.prog 49 #[.int .i64 o, .string b] W fun e W' => e = .returned (.tuple #[.int .i64 (lenR o b.data.toList).1, .int .i64 (lenR o b.data.toList).2]) ∧ W.grownBy W' none ∧ Holds h W' := by
  refine callsIn_wide.2 ?_
  have hI : InvW { h := h, blk := fun _ => none, tok := fun _ => none, ty := fun _ => none } (st0 [] 0) W :=
    ⟨hH, fun id ps e => by rw [st0_obj] at e; simp at e, fun id id' b e => by rw [st0_obj] at e; simp at e, fun k e => by rw [st0_lv] at e; simp at e, fun k k' b lo hi lo' hi' e => by rw [st0_lv] at e; simp at e, (fun b T m e => by cases e), hgl⟩
  refine ((packLen_fs o b.data.toList).calls _ W #[.int .i64 o, .string b] hI (fun _ _ => rfl) (fun _ _ => rfl) rfl ?_).mono ?_
  · intro i v p hv hp
    match i, hv, hp with
    | 0, hv, hp => cases hv; cases hp; exact .pure _ _ (.int .i64 o)
    | 1, hv, hp => cases hv; cases hp; exact .pure _ _ (by have := PRel.str (h := h) b.data.toList; simpa using this)
    | i + 2, hv, hp => simp at hv
  · rintro e W' ⟨v, g', rfl, hI', hE, -, -, hr⟩
    refine ⟨?_, ext_grown hE, fun b o v e => hI'.hw b o v (hE.le b o v e)⟩
    obtain ⟨vs, rfl, hn, hp⟩ := hr.tup_inv
    have h0 := hp 0
    have h1 := hp 1
    congr 2
    have hsz : vs.size = 2 := by simpa using hn
    obtain ⟨vs⟩ := vs
    match vs, hsz with
    | [x, y], _ =>
      have e0 := (h0 x _ rfl rfl).int_inv
      have e1 := (h1 y _ rfl rfl).int_inv
      rw [e0, e1]
theorem req_in (n : Nat) (o : Int) (b : ByteArray) (w : World) : CallsIn Fence.wide n Tryd.prog 34 #[.int .i64 o, .string b] w fun e w' =>
    e = .returned (.func (.func 48) #[] #[.pointer (some ⟨w.heap.size + 1, 0, none⟩), .pointer (some ⟨w.heap.size, 0, none⟩)]) ∧ w' = (w.alloc (.cells #[.int .i64 o] 3)).alloc (.cells #[.string b] 9) := by
  refine callsIn_of_wp Tryd.func34 rfl trivial ?_ rfl
  simp only [Tryd.ntmps34, List.size_toArray, List.length_cons, List.length_nil, Nat.reduceAdd, Nat.reduceSub, Array.replicate_succ, Array.replicate_zero, List.push_toArray, List.append_toArray, List.nil_append, List.cons_append]
  gi_wp2
  go_ret
  exact ⟨rfl, rfl⟩
theorem requests_fs (o : Int) (s : List UInt8) : Fsp Tryd.prog 34 [] 0 [.int .i64 o, .str s] [] 0 (.fn 48 [.loc [.str s], .loc [.int .i64 o]]) where
  len := Nat.le_refl _
  fn := ⟨_, Tryd.func34, rfl, by rfl⟩
  calls := by
    intro g w vs hI hb ht hs ha
    obtain ⟨vs⟩ := vs
    match vs, hs with
    | [x, y], _ =>
      have ex := (ha 0 x _ rfl rfl).int_inv
      have ey := (ha 1 y _ rfl rfl).str_inv
      subst ex
      subst ey
      refine (callsIn_wide (n := 0)).1 ((req_in 0 o _ w).mono ?_)
      rintro e w' ⟨rfl, rfl⟩
      have hlt : ∀ b o' v, g.h b o' = some v → b < w.heap.size := fun b o' v h => hI.h_lt h
      let h' : HMap := fun b o' => if b = w.heap.size ∧ o' = 0 then some (.int .i64 o) else if b = w.heap.size + 1 ∧ o' = 0 then some (.string ⟨⟨s⟩⟩) else g.h b o'
      have hle : g.h.le h' := fun b o' v h => by
        have := hlt b o' v h
        show (if b = w.heap.size ∧ o' = 0 then _ else _) = _
        rw [if_neg (by omega), if_neg (by omega)]
        exact h
      have hold : ∀ k, k < w.heap.size → ((w.alloc (.cells #[.int .i64 o] 3)).alloc (.cells #[.string ⟨⟨s⟩⟩] 9)).heap[k]? = w.heap[k]? := fun k hk => by
        rw [Below.heap_alloc _ _ _ (by simp; omega), Below.heap_alloc _ _ _ hk]
      have hn0 : ((w.alloc (.cells #[.int .i64 o] 3)).alloc (.cells #[.string ⟨⟨s⟩⟩] 9)).heap[w.heap.size]? = some (.cells #[.int .i64 o] 3) := by
        rw [Below.heap_alloc _ _ _ (by simp)]; exact World.alloc_heap_new w _
      have hn1 : ((w.alloc (.cells #[.int .i64 o] 3)).alloc (.cells #[.string ⟨⟨s⟩⟩] 9)).heap[w.heap.size + 1]? = some (.cells #[.string ⟨⟨s⟩⟩] 9) := by
        have := World.alloc_heap_new (w.alloc (.cells #[.int .i64 o] 3)) (.cells #[.string ⟨⟨s⟩⟩] 9)
        rwa [World.size_alloc] at this
      refine ⟨_, { g with h := h' }, rfl, ⟨?_, fun id ps e => by rw [st0_obj] at e; simp at e, fun id id' b e => by rw [st0_obj] at e; simp at e, fun k e => by rw [st0_lv] at e; simp at e, fun k k' b lo hi lo' hi' e => by rw [st0_lv] at e; simp at e, ?_, fun k ps e => (hI.gl k ps e).mono hle⟩,
        ⟨hle, fun _ _ h => h, ?_, fun b o' hb' e => ?_, by simp; omega, fun b hb' => by rw [hold b hb']; exact .refl _ _, rfl, rfl, rfl⟩, fun i hi => rfl, fun i h1 h2 => by simp at h2, .pure _ _ (.fn 48 _ _ rfl ?_)⟩
      · intro b o' v e
        have e' : (if b = w.heap.size ∧ o' = 0 then some (.int .i64 o) else if b = w.heap.size + 1 ∧ o' = 0 then some (.string ⟨⟨s⟩⟩) else g.h b o') = some v := e
        split at e'
        · rename_i hh; obtain ⟨rfl, rfl⟩ := hh; cases e'; rw [wcell_cells hn0]; rfl
        · split at e'
          · rename_i hh; obtain ⟨rfl, rfl⟩ := hh; cases e'; rw [wcell_cells hn1]; rfl
          · exact (wcell_of_block (hold b (hlt b o' v e')) o').trans (hI.hw b o' v e')
      · intro b T m e
        obtain ⟨vals, fr, q1, q2⟩ := hI.tys b T m e
        exact ⟨vals, fr, by rw [hold b (Array.getElem?_eq_some_iff.1 q1).1]; exact q1, q2⟩
      · intro b o' v e
        have e' : (if b = w.heap.size ∧ o' = 0 then some (.int .i64 o) else if b = w.heap.size + 1 ∧ o' = 0 then some (.string ⟨⟨s⟩⟩) else g.h b o') = some v := e
        split at e'
        · exact .inr (.inl (by omega))
        · split at e'
          · exact .inr (.inl (by omega))
          · exact .inl e'
      · rcases e with ⟨id, h1, _⟩ | ⟨k, lo, hi, h1, _⟩
        · rw [st0_obj] at h1; simp at h1
        · rw [st0_lv] at h1; simp at h1
      · intro i v p hv hp
        match i, hv, hp with
        | 0, hv, hp =>
          cases hv; cases hp
          refine .loc (w.heap.size + 1) 0 [.str s] (fun _ => .string ⟨⟨s⟩⟩) (fun j hj => ?_) (fun j hj => rfl) (fun j p hp => ?_)
          · have : j = 0 := by simp at hj; omega
            subst this
            show (if _ then _ else _) = _
            rw [if_neg (by omega), if_pos ⟨rfl, rfl⟩]
          · obtain ⟨rfl, rfl⟩ := single hp
            exact .str s
        | 1, hv, hp =>
          cases hv; cases hp
          refine .loc w.heap.size 0 [.int .i64 o] (fun _ => .int .i64 o) (fun j hj => ?_) (fun j hj => rfl) (fun j p hp => ?_)
          · have : j = 0 := by simp at hj; omega
            subst this
            show (if _ then _ else _) = _
            rw [if_pos ⟨rfl, rfl⟩]
          · obtain ⟨rfl, rfl⟩ := single hp
            exact .int .i64 o
        | i + 2, hv, hp => simp at hv
end Go.Proofs.Sh

/- The rounds of a stream's requests: the iterator's contract. -/
set_option maxRecDepth 100000
set_option linter.unusedSimpArgs false
set_option linter.unusedVariables false
namespace Go.Proofs.Sh
open Go.RowKit Go.Shelf Go.Pv
theorem len_at {h : HMap} {W : World} (hH : Holds h W) (hgl : ∀ k ps, gat GTab.tab k = some ps → PRel h (.pointer (some ⟨k, 0, none⟩)) (.loc ps)) {n : Nat} {o : Int} {b : ByteArray} {m e0 : Int} (hb : lenR o b.data.toList = (m, e0)) :
    CallsIn Fence.wide n Tryd.prog 49 #[.int .i64 o, .string b] W fun e W' => e = .returned (.tuple #[.int .i64 m, .int .i64 e0]) ∧ W.grownBy W' none ∧ Holds h W' := by
  have := len_in hH hgl n o b
  rw [hb] at this
  exact this
def itS (a : Nat) (s : List UInt8) (o : Int) : PS := { n := 32, env := [(4, .int .i64 a), (1, .loc [.str s]), (2, .loc [.int .i64 o])], objs := [], live := [], nxt := 60 }
def itQ (n : Nat) : Post := fun e S' => e = .normal ∧ S'.get 5 = .int .i64 n
set_option maxHeartbeats 4000000 in
theorem reqIt_in {h : HMap} (hgl : ∀ k ps, gat GTab.tab k = some ps → PRel h (.pointer (some ⟨k, 0, none⟩)) (.loc ps)) {b1 b2 f1 f2 : Nat} {s : List UInt8} {o : Int} (h1 : h b1 f1 = some (.string ⟨⟨s⟩⟩)) (h2 : h b2 f2 = some (.int .i64 o)) (hs : s.length ≤ 1000000)
    (l : Nat) (J Jx : List (Nat × Nat) → World → Prop) (W : World) (hJ : AbidesFrom W.heap.size J)
    (hY : ∀ pre (x : Nat × Nat) W1, (x.1 ≤ 2000000 ∧ x.2 ≤ 65536) → J pre W1 → pre.length < s.length + 1 → YieldAt Fence.wide 1 Tryd.prog l #[.int .i64 (x.1 : Int), .int .i64 (x.2 : Int)] W1 fun e W' =>
      (e = .returned (.bool true) ∧ J (pre ++ [x]) W' ∧ KpH h W1 W') ∨ (e = .returned (.bool false) ∧ Jx (pre ++ [x]) W'))
    (hH : Holds h W) (h0 : J [] W) :
    CallsIn Fence.wide 2 Tryd.prog 48 #[.func (.yield l) #[] #[], .pointer (some ⟨b1, f1, none⟩), .pointer (some ⟨b2, f2, none⟩)] W fun e W' => (∃ v, e = .returned v) ∧
      ((∃ xs, xs = rdsAll o s ∧ J xs W') ∨ (∃ pre, pre <+: rdsAll o s ∧ Jx pre W')) := by
  refine callsIn_of_wp Tryd.func48 rfl trivial ?_ rfl
  simp only [Tryd.ntmps48, List.size_toArray, List.length_cons, List.length_nil, Nat.reduceAdd, Nat.reduceSub, Array.replicate_succ, Array.replicate_zero, List.push_toArray, List.append_toArray, List.nil_append, List.cons_append]
  gi_wp2
  gi_loopw [4] (fun i wr => ∃ (a k : Nat) (pre : List (Nat × Nat)), i = .int .i64 (a : Int) ∧ pre ++ rds o s k a = rdsAll o s ∧ s.length + 1 ≤ k + a ∧ 4 * pre.length ≤ a ∧ a ≤ s.length + 65536 ∧ J pre wr ∧ Holds h wr)
    (fun i _ => s.length + 1 - (intOf i).toNat)
  case atStart => exact ⟨0, s.length + 1, [], rfl, rfl, by omega, by simp, by omega, h0, hH⟩
  case round =>
    obtain ⟨a, k, pre, rfl, hpre, hk, hp4, ha, hJs, hHs⟩ := hrel
    have hc1 := wcell_cell (hHs b1 f1 _ h1) rfl
    have hc2 := wcell_cell (hHs b2 f2 _ h2) rfl
    by_cases hlt : a + 4 ≤ s.length
    · obtain ⟨n, hn, hn6, hn4⟩ := lenR_range o (s.drop a)
      gi_wp2
      rename_i K hK
      refine wpIn_mono (wpIn_wide.2 (draw_keep mixed (T := [0, 1, 2, 3, 4]) (by kernel_rfl) (Q := itQ n) (S := itS a s o) ?hV { h := h, blk := fun _ => none, tok := fun _ => none, ty := fun _ => none } _ _ ?hI ⟨by simp, by simp⟩ (fun _ _ => ⟨rfl, rfl⟩) (fun i hi => absurd hi (Nat.not_lt_zero i)))) ?post
      case hV => 
        have hp := packLen_fs o (s.drop a)
        rw [hn] at hp
        have htk : List.take (s.length - a) (List.drop a s) = s.drop a := List.take_of_length_le (by simp)
        simp only [itS]
        simp -implicitDefEqProofs only [push_cast, htk, seval]
        refine ⟨by omega, by omega, ?_⟩
        refine callE_p hp ?_
        simp -implicitDefEqProofs only [push_cast, seval]
        (repeat refine ⟨by (unfold drawOk; kernel_rfl), ?_⟩)
        exact ⟨rfl, rfl⟩
      case hI =>
        refine ⟨⟨hHs, fun id ps e => by simp [itS, PS.obj, lkp] at e, fun id id' b e => by simp [itS, PS.obj, lkp] at e, fun k e => by simp [itS, PS.lv, lkp] at e, fun k k' b lo hi lo' hi' e => by simp [itS, PS.lv, lkp] at e, (fun b T m e => by cases e), hgl⟩, fun t => ?_, by simp [itS]⟩
        simp only [itS, PS.get, lkp]
        split
        · rename_i e; subst e; exact .pure _ _ (.int .i64 a)
        · split
          · rename_i e; subst e
            refine .pure _ _ (.loc b1 f1 [.str s] (fun _ => .string ⟨⟨s⟩⟩) (fun j hj => ?_) (fun j hj => rfl) (fun j p hp => ?_))
            · have : j = 0 := by simp at hj; omega
              subst this; exact h1
            · obtain ⟨rfl, rfl⟩ := single hp
              exact .str s
          · split
            · rename_i e; subst e
              refine .pure _ _ (.loc b2 f2 [.int .i64 o] (fun _ => .int .i64 o) (fun j hj => ?_) (fun j hj => rfl) (fun j p hp => ?_))
              · have : j = 0 := by simp at hj; omega
                subst this; exact h2
              · obtain ⟨rfl, rfl⟩ := single hp
                exact .int .i64 o
            · exact .pure _ _ (.any _)
      case post =>
        rintro e a' w' ⟨⟨⟨g', S', hq, hI', -, -, hE'⟩, hdf⟩, hk⟩
        obtain ⟨rfl, h5⟩ := hq
        obtain ⟨hks, hkt⟩ := hk rfl
        have e5 : a'.tmps.getD 5 undef = .int .i64 n := by
          have := hI'.env 5
          rw [h5] at this
          exact this.int_inv
        have hgr : wr.grownBy w' none := ext_grown (hE'.same_l (T := st0 [] 0) (fun i => by rw [st0_obj]; rfl) (fun k => by rw [st0_lv]; simp; rfl)).e
        have hH' : Holds h w' := fun b o v e => hI'.w.hw b o v (hE'.e.le b o v e)
        obtain ⟨⟨tl⟩, ds⟩ := a'
        simp only at hdf
        subst hdf
        have hsz : tl.length = 32 := hks
        match tl, hsz with
        | [x0, x1, x2, x3, x4, x5, x6, x7, x8, x9, x10, x11, x12, x13, x14, x15, x16, x17, x18, x19, x20, x21, x22, x23, x24, x25, x26, x27, x28, x29, x30, x31], _ =>
          have e0 := hkt 0 (by simp)
          have e1 := hkt 1 (by simp)
          have e2 := hkt 2 (by simp)
          have e3 := hkt 3 (by simp)
          have e4 := hkt 4 (by simp)
          simp at e0 e1 e2 e3 e4 e5
          subst e0 e1 e2 e3 e4 e5
          clear hks hkt hI' hk h5
          obtain ⟨fn, tmps, assign, body, hy, hR⟩ := hY pre (a, n) w' ⟨by simp only; omega, hn6⟩ (hJ _ _ _ none hJs hgr (fun r e => by cases e)) (by omega)
          dsimp only at hy
          refine hK _ _ ?_
          gi_wp2
          obtain ⟨k', rfl⟩ : ∃ k', k = k' + 1 := ⟨k - 1, by omega⟩
          have hrd : rds o s (k' + 1) a = if (n : Int) = 0 then [(a, 0)] else (a, n) :: rds o s k' (a + n) := by
            rw [rds, if_neg (by omega), hn, Int.toNat_natCast]
          rw [hrd] at hpre
          refine hR.mono ?_
          rintro e W3 (⟨rfl, hJ3, hk3⟩ | ⟨rfl, hJx3⟩)
          · by_cases hn0 : n = 0
            · subst hn0
              rw [if_pos (show ((0 : Nat) : Int) = 0 from rfl)] at hpre
              gi_wp2
              refine bodyPost_ret (results_none rfl _ _ _) rfl ?_
              exact ⟨⟨_, rfl⟩, .inl ⟨_, hpre, hJ3⟩⟩
            · rw [if_neg (by omega)] at hpre
              have hn0' : ¬ (n : Int) = 0 := by omega
              gi_wp2
              go_roundw
              case rel => exact ⟨a + n, k', pre ++ [(a, n)], by simp, by rw [List.append_assoc]; exact hpre, by omega, by rw [List.length_append]; simp; omega, by omega, hJ3, hk3 hH'⟩
              case measure => simp [intOf]; omega
          · gi_wp2
            refine bodyPost_ret (results_none rfl _ _ _) rfl ?_
            refine ⟨⟨_, rfl⟩, .inr ⟨_, ?_, hJx3⟩⟩
            rw [← hpre]
            split
            · rename_i e
              have : n = 0 := by omega
              subst this
              exact List.prefix_rfl
            · rw [show (a, n) :: rds o s k' (a + n) = [(a, n)] ++ rds o s k' (a + n) from rfl, ← List.append_assoc]
              exact List.prefix_append _ _
    · gi_wp2
      go_end0
      refine ⟨⟨_, rfl⟩, .inl ⟨pre, ?_, hJs⟩⟩
      rw [← hpre]
      cases k with
      | zero => simp [rds]
      | succ k => rw [rds, if_pos (by omega), List.append_nil]
abbrev Bx := { x : Nat × Nat // x.1 ≤ 2000000 ∧ x.2 ≤ 65536 }
def toB (x : Nat × Nat) : Option Bx := if h : x.1 ≤ 2000000 ∧ x.2 ≤ 65536 then some ⟨x, h⟩ else none
def rdsB (o : Int) (s : List UInt8) : List Bx := (rdsAll o s).filterMap toB
theorem toB_val : ∀ q : List Bx, (q.map Subtype.val).filterMap toB = q
  | [] => rfl
  | x :: q => by
    rw [List.map_cons, List.filterMap_cons, toB_val q]
    have : toB x.1 = some x := by unfold toB; rw [dif_pos x.2]
    rw [this]
theorem rdsB_of {o : Int} {s : List UInt8} {q : List Bx} (h : q.map Subtype.val = rdsAll o s) : q = rdsB o s := by
  rw [rdsB, ← h, toB_val]
theorem rdsB_pre {o : Int} {s : List UInt8} {q : List Bx} (h : q.map Subtype.val <+: rdsAll o s) : q <+: rdsB o s := by
  obtain ⟨r, hr⟩ := h
  rw [rdsB, ← hr, List.filterMap_append, toB_val]
  exact List.prefix_append _ _
theorem rds_small (o : Int) (s : List UInt8) (hs : s.length ≤ 1000000) : ∀ (k a : Nat), ∀ x ∈ rds o s k a, x.1 ≤ 2000000 ∧ x.2 ≤ 65536
  | 0, a, x, h => by simp [rds] at h
  | k + 1, a, x, h => by
    obtain ⟨n, hn, hn6, -⟩ := lenR_range o (s.drop a)
    rw [rds] at h
    split at h
    · simp at h
    · split at h
      · rw [List.mem_singleton] at h; subst h; exact ⟨by simp only; omega, by simp only; omega⟩
      · rw [List.mem_cons] at h
        rcases h with rfl | h
        · rw [hn]; exact ⟨by simp only; omega, by simp; omega⟩
        · exact rds_small o s hs k _ x h
theorem rdsB_val {o : Int} {s : List UInt8} (hs : s.length ≤ 1000000) : (rdsB o s).map Subtype.val = rdsAll o s := by
  have h := rds_small o s hs (s.length + 1) 0
  unfold rdsB rdsAll
  generalize rds o s (s.length + 1) 0 = l at *
  induction l with
  | nil => rfl
  | cons x l ih =>
    have hx := h x (List.mem_cons_self ..)
    have : toB x = some ⟨x, hx⟩ := by unfold toB; rw [dif_pos hx]
    rw [List.filterMap_cons, this, List.map_cons, ih (fun y hy => h y (List.mem_cons_of_mem _ hy))]
theorem req_stops {h : HMap} (hgl : ∀ k ps, gat GTab.tab k = some ps → PRel h (.pointer (some ⟨k, 0, none⟩)) (.loc ps)) {s : List UInt8} {o : Int} (hs : s.length ≤ 1000000) {lb : Array Value} (hls : lb.size = 2)
    (hlr : ∀ (i : Nat) (v : Value) (p : PV), lb[i]? = some v → [PV.loc [.str s], .loc [.int .i64 o]][i]? = some p → PRel h v p) (w : World) (hH : Holds h w) :
    SeqStopsK Fence.wide 2 Tryd.prog 48 lb (fun x : Bx => #[Value.int .i64 (x.1.1 : Int), Value.int .i64 (x.1.2 : Int)]) (KpH h) (fun xs => xs = rdsB o s) (fun pre => pre <+: rdsB o s) (s.length + 1) w := by
  obtain ⟨l⟩ := lb
  match l, hls with
  | [x, y], _ =>
    have hx := hlr 0 x _ rfl rfl
    have hy := hlr 1 y _ rfl rfl
    cases hx with
    | loc b1 f1 _ vals1 hh1 ho1 hp1 =>
      cases hy with
      | loc b2 f2 _ vals2 hh2 ho2 hp2 =>
        have e1 : vals1 0 = .string ⟨⟨s⟩⟩ := by
          have := hp1 0 (.str s) rfl
          cases hv : vals1 0 <;> rw [hv] at this <;> cases this
          rfl
        have e2 : vals2 0 = .int .i64 o := by
          have := hp2 0 (.int .i64 o) rfl
          cases hv : vals2 0 <;> rw [hv] at this <;> cases this
          rfl
        have k1 : h b1 f1 = some (.string ⟨⟨s⟩⟩) := by rw [← e1]; exact hh1 0 (by simp)
        have k2 : h b2 f2 = some (.int .i64 o) := by rw [← e2]; exact hh2 0 (by simp)
        intro l J Jx W hW hJ hJx hY h0
        refine (reqIt_in hgl k1 k2 hs l (fun p W => ∃ q : List Bx, q.map Subtype.val = p ∧ J q W) (fun p W => ∃ q : List Bx, q.map Subtype.val = p ∧ Jx q W) W (fun p A B row ⟨q, e, hq⟩ hg hr => ⟨q, e, hJ q A B row hq hg hr⟩) ?_ ?_ ⟨[], rfl, h0⟩).mono ?_
        · rintro pre x W1 hx ⟨q, rfl, hq⟩ hlen
          obtain ⟨fn, tmps, assign, body, hy, hR⟩ := hY q ⟨x, hx⟩ W1 hq (by simpa using hlen)
          refine ⟨fn, tmps, assign, body, hy, hR.mono ?_⟩
          rintro e W' (⟨he, h1, h2⟩ | ⟨he, h1⟩)
          · exact .inl ⟨he, ⟨q ++ [⟨x, hx⟩], by simp, h1⟩, h2⟩
          · exact .inr ⟨he, ⟨q ++ [⟨x, hx⟩], by simp, h1⟩⟩
        rotate_left
        · rintro e W' ⟨hv, ⟨xs, rfl, q, hq, hj⟩ | ⟨pre, hp, q, rfl, hj⟩⟩
          · exact ⟨hv, .inl ⟨q, rdsB_of hq, hj⟩⟩
          · exact ⟨hv, .inr ⟨q, rdsB_pre hp, hj⟩⟩
        intro b o' v e
        have h1 := hH b o' v e
        exact (wcell_of_block (hW.block b (wcell_lt h1)) o').trans h1
end Go.Proofs.Sh
