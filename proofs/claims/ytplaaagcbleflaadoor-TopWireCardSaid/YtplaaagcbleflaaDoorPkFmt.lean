/- Package order: Row, Pad. -/
import Derived.Test.YtplaaagcbleflaaDoorPkOrder
set_option maxRecDepth 100000
set_option linter.unusedSimpArgs false
set_option linter.unusedVariables false
namespace Go.Proofs.Sh
open Go.Pv

theorem addT_fs {o : Int} (ho : isOrder o) (v : Int) (es : List PV) (h : es.length ≤ 100) : Fsp Tryd.prog 72 [] 1 [spanOf 1, .slt 1 es 0, .int .i64 o, .int .i64 v] [] 1 (.slt 1 (es ++ bs (encB o 1 v)) 0) := by
  have hw := width_fs (s := 1) (by unfold isSize; omega)
  have hn : ((wid 1 : Nat) : Int) = 1 := rfl
  rw [hn] at hw
  simp only [spanOf] at hw
  rcases ho with rfl | rfl
  · (refine Fsp.of (nx := 1) mixed Tryd.func72 rfl (by decide) (by first | exact Nat.le_refl _ | simp) (by simp [Tryd.f72]) ⟨by simp, by simp⟩ ?_; simp -implicitDefEqProofs only [push_cast, Tryd.f72, spanOf, seval])
    refine callE_p hw ?_
    simp -implicitDefEqProofs only [push_cast, seval]
    refine loopC_un 2 ?_
    simp -implicitDefEqProofs only [push_cast, seval]
    refine ⟨by omega, by omega, ?_⟩
    simp only [byte0, byte1, byte2, byte3]
    exact endK_tok1 rfl rfl
  · (refine Fsp.of (nx := 1) mixed Tryd.func72 rfl (by decide) (by first | exact Nat.le_refl _ | simp) (by simp [Tryd.f72]) ⟨by simp, by simp⟩ ?_; simp -implicitDefEqProofs only [push_cast, Tryd.f72, spanOf, seval])
    refine callE_p hw ?_
    simp -implicitDefEqProofs only [push_cast, seval]
    refine loopC_un 2 ?_
    simp -implicitDefEqProofs only [push_cast, seval]
    refine ⟨by omega, by omega, ?_⟩
    simp only [byte0, byte1, byte2, byte3]
    exact endK_tok1 rfl rfl
def rowS (o a b : Int) : List UInt8 := if (fitsN 1 a && fitsN 1 b) = true then encB o 1 a ++ encB o 1 b else []
def rowE (a b : Int) : Int := if (fitsN 1 a && fitsN 1 b) = true then 0 else 1
theorem row_fs {o : Int} (ho : isOrder o) (a b : Int) : Fsp Tryd.prog 45 [] 0 [.int .i64 o, .int .i64 1, .sl 1 [.int .i64 a, .int .i64 b]] [] 0 (.tup [.str (rowS o a b), .int .i64 (rowE a b)]) := by
  have hk := known_fs ho (s := 1) (by unfold isSize; omega)
  have hw := width_fs (s := 1) (by unfold isSize; omega)
  have hn : ((wid 1 : Nat) : Int) = 1 := rfl
  rw [hn] at hw
  have h1 := has_fs 1 a
  have h2 := has_fs 1 b
  have a1 := addT_fs ho a [] (by simp)
  have a2 := addT_fs ho b (bs (encB o 1 a)) (by rw [bs_length, encB_length]; omega)
  simp only [spanOf, List.nil_append] at hk hw h1 h2 a1 a2
  (refine Fsp.ofs (nx := 0) mixed Tryd.func45 rfl (by simp [Tryd.f45]) ?_; simp -implicitDefEqProofs only [push_cast, Tryd.f45, seval])
  refine callE_p hk ?_
  simp -implicitDefEqProofs only [push_cast, seval]
  refine callE_p hw ?_
  simp -implicitDefEqProofs only [push_cast, seval]
  refine loopC_un 3 ?_
  simp -implicitDefEqProofs only [push_cast, List.replicate_zero, seval]
  refine callE_p h1 ?_
  simp -implicitDefEqProofs only [push_cast, seval]
  generalize hf1 : fitsN 1 a = f1 at *
  refine condC_split (fun h => ?_) (fun h => ?_)
  · have : f1 = false := by simpa using h
    subst this
    simp -implicitDefEqProofs only [push_cast, seval]
    simp [rowS, rowE, hf1, wkL, res2, res1, PV.weak, PV.el]
  · have : f1 = true := by simpa using h
    subst this
    simp -implicitDefEqProofs only [push_cast, seval]
    refine callE_box a1 [] [84] (by rfl) (by rfl) (by rfl) (by rfl) (by rfl) (by rfl) (fun i j cs h1 h2 => by (rcases i with _ | _ | _ | i <;> simp at h1 h2 <;> (subst h1; subst h2; exact ⟨_, rfl, (by (repeat' (first | exact wkL_nil | refine wkL_cons ?_ ?_)); all_goals (first | exact .inl ⟨_, _, _, _, rfl, rfl, rfl⟩ | exact .inr (.inr (.inr (.inr (.inl ⟨_, _, _, rfl, rfl, rfl⟩)))) | exact .inr (.inr (.inr (.inr (.inr (.inl ⟨_, _, _, _, rfl, rfl, rfl⟩))))) | exact .inr (.inr (.inr (.inr (.inr (.inr ⟨_, _, rfl, rfl, rfl⟩))))) | exact .inr (.inl rfl) | exact .inr (.inr (.inl ⟨_, _, _, rfl, rfl, rfl⟩))))⟩))) (by simp [PS.lv, lkp_hit, lkp_miss, lkp_nil]) (by (repeat' (first | exact wkL_nil | refine wkL_cons ?_ ?_)); all_goals (first | exact .inl ⟨_, _, _, rfl, rfl, rfl⟩ | exact .inr (.inl rfl) | exact .inr (.inr (.inl ⟨_, _, _, _, rfl, rfl, rfl⟩)) | exact .inr (.inr (.inr (.inl ⟨_, _, _, rfl, rfl, rfl, (wkL_get (by (repeat' (first | exact wkL_nil | refine wkL_cons ?_ ?_)); all_goals (first | exact .inl ⟨_, _, _, rfl, rfl, rfl⟩ | exact .inr rfl))).2⟩))) | exact .inr (.inr (.inr (.inr (.inl ⟨_, _, rfl, rfl, rfl⟩)))) | exact .inr (.inr (.inr (.inr (.inr ⟨_, _, rfl, rfl, wkL_get (by (repeat' (first | exact wkL_nil | refine wkL_cons ?_ ?_)); all_goals (first | exact .inr rfl | exact .inl ⟨_, _, rfl, rfl, rfl⟩))⟩)))))) (by decide) (by simp) (by rfl) (by simp [tokLt1]) (fun _ => by rfl) (by first | rfl | simp [gdOk, newToks]) ?_
    simp -implicitDefEqProofs only [push_cast, seval]
    refine callE_p h2 ?_
    simp -implicitDefEqProofs only [push_cast, seval]
    generalize hf2 : fitsN 1 b = f2 at *
    refine condC_split (fun h => ?_) (fun h => ?_)
    · have : f2 = false := by simpa using h
      subst this
      simp -implicitDefEqProofs only [push_cast, seval]
      simp [rowS, rowE, hf1, hf2, wkL, res2, res1, PV.weak, PV.el]
    · have : f2 = true := by simpa using h
      subst this
      simp -implicitDefEqProofs only [push_cast, seval]
      refine callE_box a2 [] [152] (by rfl) (by rfl) (by rfl) (by rfl) (by rfl) (by rfl) (fun i j cs h1 h2 => by (rcases i with _ | _ | _ | i <;> simp at h1 h2 <;> (subst h1; subst h2; exact ⟨_, rfl, (by (repeat' (first | exact wkL_nil | refine wkL_cons ?_ ?_)); all_goals (first | exact .inl ⟨_, _, _, _, rfl, rfl, rfl⟩ | exact .inr (.inr (.inr (.inr (.inl ⟨_, _, _, rfl, rfl, rfl⟩)))) | exact .inr (.inr (.inr (.inr (.inr (.inl ⟨_, _, _, _, rfl, rfl, rfl⟩))))) | exact .inr (.inr (.inr (.inr (.inr (.inr ⟨_, _, rfl, rfl, rfl⟩))))) | exact .inr (.inl rfl) | exact .inr (.inr (.inl ⟨_, _, _, rfl, rfl, rfl⟩))))⟩))) (by simp [PS.lv, lkp_hit, lkp_miss, lkp_nil]) (by (repeat' (first | exact wkL_nil | refine wkL_cons ?_ ?_)); all_goals (first | exact .inl ⟨_, _, _, rfl, rfl, rfl⟩ | exact .inr (.inl rfl) | exact .inr (.inr (.inl ⟨_, _, _, _, rfl, rfl, rfl⟩)) | exact .inr (.inr (.inr (.inl ⟨_, _, _, rfl, rfl, rfl, (wkL_get (by (repeat' (first | exact wkL_nil | refine wkL_cons ?_ ?_)); all_goals (first | exact .inl ⟨_, _, _, rfl, rfl, rfl⟩ | exact .inr rfl))).2⟩))) | exact .inr (.inr (.inr (.inr (.inl ⟨_, _, rfl, rfl, rfl⟩)))) | exact .inr (.inr (.inr (.inr (.inr ⟨_, _, rfl, rfl, wkL_get (by (repeat' (first | exact wkL_nil | refine wkL_cons ?_ ?_)); all_goals (first | exact .inr rfl | exact .inl ⟨_, _, rfl, rfl, rfl⟩))⟩)))))) (by decide) (by simp) (by rfl) (by simp [tokLt1]) (fun _ => by rfl) (by first | rfl | simp [gdOk, newToks]) ?_
      simp -implicitDefEqProofs only [push_cast, seval]
      rw [← bs_append]
      refine ⟨bs_isByte _, _, rfl, ?_⟩
      rw [bs_byteOf]
      simp [rowS, rowE, hf1, hf2, wkL, res2, res1, PV.weak, PV.el]

def padN (n : Nat) : Nat := (4 - n % 4) % 4
theorem pad_fs (n : Nat) (h : n ≤ 1000000000) : Fsp Tryd.prog 65 [] 0 [.int .i64 n] [] 0 (.int .i64 (padN n : Nat)) := by
  (refine Fsp.ofs (nx := 0) mixed Tryd.func65 rfl (by simp [Tryd.f65]) ?_; simp -implicitDefEqProofs only [push_cast, Tryd.f65, seval])
  refine condC_split (fun h2 => ?_) (fun h2 => ?_)
  · simp at h2; omega
  · simp -implicitDefEqProofs only [push_cast, seval]
    rw [Int.tmod_eq_emod_of_nonneg (show (0 : Int) ≤ (n : Int) by omega), wrap_i64_id (by omega) (by omega), Int.tmod_eq_emod_of_nonneg (by omega), padN]
    congr 1
    omega

end Go.Proofs.Sh

/- Package format: Check, fits. -/
set_option maxRecDepth 100000
set_option linter.unusedSimpArgs false
set_option linter.unusedVariables false
namespace Go.Proofs.Sh
open Go.Pv


def ints (l : List Int) : List PV := l.map (PV.int .i64 ·)
theorem ints_length (l : List Int) : (ints l).length = l.length := by simp [ints]
theorem ints_at {l : List Int} {i : Nat} (h : i < l.length) : (ints l).getD i .any = .int .i64 (l.getD i 0) := by simp [ints, List.getD_eq_getElem?_getD, h]
/-- A form. -/
structure Fm where
  F : List Int
  B : Bool
  L : Int
def Fm.pv (f : Fm) : PV := .agg [.sl 1 (ints f.F), .bool f.B, .int .i64 f.L]
structure Fm.Ok (f : Fm) : Prop where
  n : f.F.length ≤ 16
  s : ∀ x ∈ f.F, isSize x
  l : f.L = 0 ∨ isSize f.L
/-- Fields. -/
structure Fd where
  N : List Int
  B : List UInt8
  L : List Int
def Fd.pv (x : Fd) : PV := .agg [.sl 1 (ints x.N), .str x.B, .sl 1 (ints x.L)]
theorem sized_fs {s : Int} (hs : isSize s) : Fsp Tryd.prog 89 [] 0 [.int .i64 s] [] 0 (.bool true) := by
  rcases hs with rfl | rfl | rfl | rfl | rfl | rfl <;> exact run0_fs (by kernel_rfl)
structure CkS (f : Fm) where
  i : Nat
  hi : i ≤ f.F.length
def CkS.st {f : Fm} (a : CkS f) : PS := { n := 29, env := [(12, .int .i64 a.i), (11, .int .i64 f.F.length), (10, .sl 1 (ints f.F)), (1, .box 0 0), (2, .int .i64 0)], objs := [(0, some [.sl 1 (ints f.F), .bool f.B, .int .i64 f.L])], live := [], nxt := 60 }
theorem check_form (f : Fm) (h : f.Ok) : Fsp Tryd.prog 83 [] 0 [f.pv] [] 0 (.int .i64 0) := by
  have hn := h.n
  (refine Fsp.ofs (nx := 0) mixed Tryd.func83 rfl (by simp [Tryd.f83]) ?_; simp -implicitDefEqProofs only [push_cast, Tryd.f83, Fm.pv, ints_length, seval])
  refine condC_split (fun h2 => ?_) (fun h2 => ?_)
  · simp at h2; omega
  simp -implicitDefEqProofs only [push_cast, ints_length, seval]
  refine loopC_of (α := CkS f) CkS.st (fun a => f.F.length - a.i) ⟨0, by omega⟩ ?_ ?_
  · (simp only [CkS.st]; exact Wk.at _ _ _ [(0, 0)] [] [] (by simp) (by simp [wkV, PV.el, PV.weak, PS.get, PS.obj, PS.lv, lkp_hit, lkp_miss, lkp_nil, lko]) (by simp [PS.get, PS.obj, PS.lv, lkp_hit, lkp_miss, lkp_nil, lko, wkL, wkC, PV.weak]))
  · rintro ⟨i, hi⟩
    simp -implicitDefEqProofs only [push_cast, CkS.st, seval]
    refine condC_split (fun h3 => ?_) (fun h3 => ?_)
    · have hlt : i < f.F.length := by simp at h3; omega
      have hg := ints_at hlt
      have hsz : isSize (f.F.getD i 0) := by
        rw [List.getD_eq_getElem?_getD, List.getElem?_eq_getElem hlt, Option.getD_some]
        exact h.s _ (List.getElem_mem hlt)
      have hs := sized_fs hsz
      have hwr : IntKind.i64.wrap ((i : Int) + 1) = ((i + 1 : Nat) : Int) := by (rw [wrap_i64_id (by omega) (by omega)]; rfl)
      simp -implicitDefEqProofs only [push_cast, hg, ints_length, seval]
      refine ⟨by omega, ?_⟩
      refine callE_p hs ?_
      simp -implicitDefEqProofs only [push_cast, hg, ints_length, seval]
      rw [hwr]
      refine ⟨⟨i + 1, by omega⟩, by simp only; omega, ?_⟩
      (simp only [CkS.st]; exact Wk.at _ _ _ [(0, 0)] [] [] (by simp) (by simp [wkV, PV.el, PV.weak, PS.get, PS.obj, PS.lv, lkp_hit, lkp_miss, lkp_nil, lko]) (by simp [PS.get, PS.obj, PS.lv, lkp_hit, lkp_miss, lkp_nil, lko, wkL, wkC, PV.weak]))
    · rcases h.l with hL | hL
      · have hL0 : (f.L != 0) = false := by simp [hL]
        simp -implicitDefEqProofs only [push_cast, hL0, seval]
        refine callE_no ?_
        simp -implicitDefEqProofs only [push_cast, hL0, seval]
      · have hL0 : (f.L != 0) = true := by rcases hL with e | e | e | e | e | e <;> rw [e] <;> rfl
        have hs := sized_fs hL
        simp -implicitDefEqProofs only [push_cast, hL0, seval]
        refine callE_p hs ?_
        simp -implicitDefEqProofs only [push_cast, hL0, seval]

theorem known_form {o : Int} (ho : isOrder o) (f : Fm) (h : f.Ok) : Fsp Tryd.prog 60 [] 0 [.int .i64 o, f.pv] [] 0 (.int .i64 0) := by
  have hc := check_form f h
  simp only [Fm.pv] at hc
  have h1 : (o != 0 && o != 1) = false := by rcases ho with rfl | rfl <;> rfl
  rcases ho with rfl | rfl
  all_goals
    (refine Fsp.ofs (nx := 0) mixed Tryd.func60 rfl (by simp [Tryd.f60]) ?_; simp -implicitDefEqProofs only [push_cast, Tryd.f60, Fm.pv, seval])
    refine callE_p hc ?_
    simp -implicitDefEqProofs only [push_cast, seval]

end Go.Proofs.Sh
