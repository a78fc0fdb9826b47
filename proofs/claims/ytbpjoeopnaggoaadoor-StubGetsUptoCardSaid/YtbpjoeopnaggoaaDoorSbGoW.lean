/- Package tell: Length, Get. -/
import Derived.Test.YtbpjoeopnaggoaaDoorTlPut
import Derived.Test.YtbpjoeopnaggoaaDoorPkGet
import Derived.Test.YtbpjoeopnaggoaaDoorSbWide
import Derived.Test.YtbpjoeopnaggoaaDoorPvXh
set_option maxRecDepth 100000
set_option linter.unusedSimpArgs false
set_option linter.unusedVariables false
namespace Go.Proofs.Sh
open Go.Pv

def ot0 : Ot := ⟨0, 0, 0, [], [], []⟩
theorem wb (x : UInt8) : IntKind.i64.wrap (x.toNat : Int) = (x.toNat : Int) := by
  have := x.toNat_lt
  rw [wrap_i64_id (by omega) (by omega)]
def tform (s : List UInt8) : Option Fm := mForm ((s.getD 0 0).toNat : Int) ((s.getD 1 0).toNat : Int)
def terr (s : List UInt8) : Int := mErr ((s.getD 0 0).toNat : Int)
def words (o : Int) (s : List UInt8) : Nat := decU o ((s.drop 4).take 4)
def tlenW (n : Nat) : Int × Int := if n < 2 then (0, 2) else if 16386 < n then (0, 4) else (((4 * n : Nat) : Int), 0)
def tlenR (o : Int) (s : List UInt8) : Int × Int :=
  if isOrd o = true then
    if s.length < 8 then (0, 3) else match tform s with
      | none => (0, terr s)
      | some _ => tlenW (words o s)
  else (0, 8)
theorem tlenR_none {o : Int} {s : List UInt8} (ho : isOrd o = true) (h : ¬ s.length < 8) (hf : tform s = none) : tlenR o s = (0, terr s) := by rw [tlenR, if_pos ho, if_neg h, hf]
theorem tlenR_some {o : Int} {s : List UInt8} {f : Fm} (ho : isOrd o = true) (h : ¬ s.length < 8) (hf : tform s = some f) : tlenR o s = tlenW (words o s) := by rw [tlenR, if_pos ho, if_neg h, hf]
theorem mErr_ne (k : Int) : (mErr k != 0) = true := by unfold mErr; split <;> rfl
theorem four_len {s : List UInt8} (h : 8 ≤ s.length) : ((s.drop 4).take 4).length = 4 := by simp; omega
theorem words_lt {o : Int} {s : List UInt8} (h : 8 ≤ s.length) : words o s < 4294967296 := by
  have := decU_lt o ((s.drop 4).take 4)
  rw [four_len h] at this
  exact this
theorem words_get {o : Int} {s : List UInt8} (h : 8 ≤ s.length) : getV o 4 ((s.drop 4).take 4) = (words o s : Int) ∧ getE 4 ((s.drop 4).take 4) = 0 := by
  have hw := words_lt (o := o) h
  have hl := four_len h
  have hw4 : wid 4 = 4 := rfl
  refine ⟨?_, by rw [getE, if_neg (by omega), if_neg (by omega)]⟩
  rw [getV, if_pos (by omega), readV, if_neg]
  · rfl
  · simp only [decide_eq_true_eq]
    rw [show high 4 = 4294967295 by decide]
    show ¬ (4294967295 : Int) < ((words o s : Nat) : Int)
    omega
set_option maxHeartbeats 4000000 in
theorem tellLen_fs (o : Int) (s : List UInt8) : Fsp Tryd.prog 74 [] 0 [.int .i64 o, .str s] [] 0 (.tup [.int .i64 (tlenR o s).1, .int .i64 (tlenR o s).2]) := by
  have hk := tknown_fs o
  cases ho : isOrd o
  · rw [ho] at hk
    rw [show tlenR o s = (0, 8) by rw [tlenR, if_neg (by rw [ho]; simp)]]
    (refine Fsp.ofs (nx := 0) mixed Tryd.func74 rfl (by simp [Tryd.f74]) ?_; simp -implicitDefEqProofs only [push_cast, Tryd.f74, seval])
    refine callE_p hk ?_
    simp -implicitDefEqProofs only [push_cast, seval]
    (repeat (first | refine ⟨by omega, ?_⟩ | refine ⟨by (unfold drawOk; kernel_rfl), ?_⟩))
    all_goals first | done | exact ⟨_, rfl, by simp [wkL, res2, res1, res3, PV.weak, PV.el, ints, ot0, Ot.pv]⟩ | simp [wkL, res2, res1, res3, PV.weak, PV.el, ints, ot0, Ot.pv]
  · rw [ho] at hk
    have hor := isOrd_of ho
    cases h1 : decide ((s.length : Int) < 8)
    · have h1' : ¬ s.length < 8 := by simp at h1; omega
      have h8 : 8 ≤ s.length := by omega
      have hq := mform_fs ((s.getD 0 0).toNat : Int) ((s.getD 1 0).toNat : Int)
      cases hf : tform s with
      | none =>
        have hf' : mForm ((s.getD 0 0).toNat : Int) ((s.getD 1 0).toNat : Int) = none := hf
        rw [mFormR_none hf'] at hq
        rw [tlenR_none ho h1' hf]
        have he : (terr s != 0) = true := mErr_ne _
        unfold terr at he ⊢
        (refine Fsp.ofs (nx := 0) mixed Tryd.func74 rfl (by simp [Tryd.f74]) ?_; simp -implicitDefEqProofs only [push_cast, Tryd.f74, seval])
        refine callE_p hk ?_
        simp -implicitDefEqProofs only [push_cast, h1, wb, seval]
        (repeat (first | refine ⟨by omega, ?_⟩ | refine ⟨by (unfold drawOk; kernel_rfl), ?_⟩))
        refine callE_p hq ?_
        simp -implicitDefEqProofs only [push_cast, he, seval]
        (repeat (first | refine ⟨by omega, ?_⟩ | refine ⟨by (unfold drawOk; kernel_rfl), ?_⟩))
        all_goals first | done | exact ⟨_, rfl, by simp [wkL, res2, res1, res3, PV.weak, PV.el, ints, ot0, Ot.pv]⟩ | simp [wkL, res2, res1, res3, PV.weak, PV.el, ints, ot0, Ot.pv]
      | some f =>
        have hf' : mForm ((s.getD 0 0).toNat : Int) ((s.getD 1 0).toNat : Int) = some f := hf
        rw [mFormR_some hf'] at hq
        simp only [Fm.pv] at hq
        have hg := get_fs hor (s := 4) (by unfold isSize; omega) ((s.drop 4).take 4)
        rw [(words_get (o := o) h8).1, (words_get (o := o) h8).2] at hg
        have hn := words_lt (o := o) h8
        rw [tlenR_some ho h1' hf, tlenW]
        generalize words o s = n at *
        cases h2 : decide ((n : Int) < 2)
        · have h2' : ¬ n < 2 := by simp at h2; omega
          rw [if_neg h2']
          cases h3 : decide ((16386 : Int) < (n : Int))
          · have h3' : ¬ 16386 < n := by simp at h3; omega
            have hw : IntKind.i64.wrap (4 * (n : Int)) = 4 * (n : Int) := by rw [wrap_i64_id (by omega) (by omega)]
            rw [if_neg h3']
            (refine Fsp.ofs (nx := 0) mixed Tryd.func74 rfl (by simp [Tryd.f74]) ?_; simp -implicitDefEqProofs only [push_cast, Tryd.f74, seval])
            refine callE_p hk ?_
            simp -implicitDefEqProofs only [push_cast, h1, wb, seval]
            (repeat (first | refine ⟨by omega, ?_⟩ | refine ⟨by (unfold drawOk; kernel_rfl), ?_⟩))
            refine callE_p hq ?_
            simp -implicitDefEqProofs only [push_cast, seval]
            (repeat (first | refine ⟨by omega, ?_⟩ | refine ⟨by (unfold drawOk; kernel_rfl), ?_⟩))
            refine callE_p hg ?_
            simp -implicitDefEqProofs only [push_cast, h2, h3, hw, seval]
            (repeat (first | refine ⟨by omega, ?_⟩ | refine ⟨by (unfold drawOk; kernel_rfl), ?_⟩))
            all_goals first | done | exact ⟨_, rfl, by simp [wkL, res2, res1, res3, PV.weak, PV.el, ints, ot0, Ot.pv]⟩ | simp [wkL, res2, res1, res3, PV.weak, PV.el, ints, ot0, Ot.pv]
          · have h3' : 16386 < n := by simp at h3; omega
            rw [if_pos h3']
            (refine Fsp.ofs (nx := 0) mixed Tryd.func74 rfl (by simp [Tryd.f74]) ?_; simp -implicitDefEqProofs only [push_cast, Tryd.f74, seval])
            refine callE_p hk ?_
            simp -implicitDefEqProofs only [push_cast, h1, wb, seval]
            (repeat (first | refine ⟨by omega, ?_⟩ | refine ⟨by (unfold drawOk; kernel_rfl), ?_⟩))
            refine callE_p hq ?_
            simp -implicitDefEqProofs only [push_cast, seval]
            (repeat (first | refine ⟨by omega, ?_⟩ | refine ⟨by (unfold drawOk; kernel_rfl), ?_⟩))
            refine callE_p hg ?_
            simp -implicitDefEqProofs only [push_cast, h2, h3, seval]
            (repeat (first | refine ⟨by omega, ?_⟩ | refine ⟨by (unfold drawOk; kernel_rfl), ?_⟩))
            all_goals first | done | exact ⟨_, rfl, by simp [wkL, res2, res1, res3, PV.weak, PV.el, ints, ot0, Ot.pv]⟩ | simp [wkL, res2, res1, res3, PV.weak, PV.el, ints, ot0, Ot.pv]
        · have h2' : n < 2 := by simp at h2; omega
          rw [if_pos h2']
          (refine Fsp.ofs (nx := 0) mixed Tryd.func74 rfl (by simp [Tryd.f74]) ?_; simp -implicitDefEqProofs only [push_cast, Tryd.f74, seval])
          refine callE_p hk ?_
          simp -implicitDefEqProofs only [push_cast, h1, wb, seval]
          (repeat (first | refine ⟨by omega, ?_⟩ | refine ⟨by (unfold drawOk; kernel_rfl), ?_⟩))
          refine callE_p hq ?_
          simp -implicitDefEqProofs only [push_cast, seval]
          (repeat (first | refine ⟨by omega, ?_⟩ | refine ⟨by (unfold drawOk; kernel_rfl), ?_⟩))
          refine callE_p hg ?_
          simp -implicitDefEqProofs only [push_cast, h2, seval]
          (repeat (first | refine ⟨by omega, ?_⟩ | refine ⟨by (unfold drawOk; kernel_rfl), ?_⟩))
          all_goals first | done | exact ⟨_, rfl, by simp [wkL, res2, res1, res3, PV.weak, PV.el, ints, ot0, Ot.pv]⟩ | simp [wkL, res2, res1, res3, PV.weak, PV.el, ints, ot0, Ot.pv]
    · have h1' : s.length < 8 := by simp at h1; omega
      rw [show tlenR o s = (0, 3) by rw [tlenR, if_pos ho, if_pos h1']]
      (refine Fsp.ofs (nx := 0) mixed Tryd.func74 rfl (by simp [Tryd.f74]) ?_; simp -implicitDefEqProofs only [push_cast, Tryd.f74, seval])
      refine callE_p hk ?_
      simp -implicitDefEqProofs only [push_cast, h1, seval]
      (repeat (first | refine ⟨by omega, ?_⟩ | refine ⟨by (unfold drawOk; kernel_rfl), ?_⟩))
      all_goals first | done | exact ⟨_, rfl, by simp [wkL, res2, res1, res3, PV.weak, PV.el, ints, ot0, Ot.pv]⟩ | simp [wkL, res2, res1, res3, PV.weak, PV.el, ints, ot0, Ot.pv]
def seqOf (o : Int) (s : List UInt8) : Nat := decU o ((s.drop 2).take 2)
/-- A message, how long it is, and what is wrong. -/
def tellG (o : Int) (s : List UInt8) : Ot × Int × Int :=
  if (tlenR o s).2 = 0 then
    if (s.length : Int) < (tlenR o s).1 then (ot0, 0, 3)
    else match tform s with
      | none => (ot0, 0, terr s)
      | some f =>
        if (getF o f ((s.take (tlenR o s).1.toNat).drop 8)).2 = 0 then
          (⟨((s.getD 0 0).toNat : Int), ((s.getD 1 0).toNat : Int), (seqOf o s : Int), (getF o f ((s.take (tlenR o s).1.toNat).drop 8)).1.N, (getF o f ((s.take (tlenR o s).1.toNat).drop 8)).1.B, (getF o f ((s.take (tlenR o s).1.toNat).drop 8)).1.L⟩, (tlenR o s).1, 0)
        else (ot0, 0, (getF o f ((s.take (tlenR o s).1.toNat).drop 8)).2)
  else (ot0, 0, (tlenR o s).2)
def tellGR (o : Int) (s : List UInt8) : PV := .tup [(tellG o s).1.pv, .int .i64 (tellG o s).2.1, .int .i64 (tellG o s).2.2]
theorem tlen_ok {o : Int} {s : List UInt8} (h : (tlenR o s).2 = 0) : isOrd o = true ∧ 8 ≤ s.length ∧ (∃ f, tform s = some f) ∧ tlenR o s = (((4 * words o s : Nat) : Int), 0) ∧ 2 ≤ words o s ∧ words o s ≤ 16386 := by
  unfold tlenR at h ⊢
  split at h
  · rename_i h1
    rw [if_pos h1]
    split at h
    · exact absurd h (by decide)
    · rename_i h2
      rw [if_neg h2]
      split at h
      · have := mErr_ne ((s.getD 0 0).toNat : Int)
        simp only [terr] at h
        rw [h] at this
        exact absurd this (by decide)
      · rename_i f hf
        unfold tlenW at h ⊢
        split at h
        · exact absurd h (by decide)
        · rename_i h3
          rw [if_neg h3]
          split at h
          · exact absurd h (by decide)
          · rename_i h4
            rw [if_neg h4]
            exact ⟨h1, by omega, ⟨f, hf⟩, rfl, by omega, by omega⟩
  · exact absurd h (by decide)
theorem two_len {s : List UInt8} (h : 8 ≤ s.length) : ((s.drop 2).take 2).length = 2 := by simp; omega
theorem seq_get {o : Int} {s : List UInt8} (h : 8 ≤ s.length) : getV o 2 ((s.drop 2).take 2) = (seqOf o s : Int) ∧ getE 2 ((s.drop 2).take 2) = 0 ∧ seqOf o s < 65536 := by
  have hw : seqOf o s < 65536 := by
    have := decU_lt o ((s.drop 2).take 2)
    rw [two_len h] at this
    exact this
  have hl := two_len h
  have hw4 : wid 2 = 2 := rfl
  refine ⟨?_, by rw [getE, if_neg (by omega), if_neg (by omega)], hw⟩
  rw [getV, if_pos (by omega), readV, if_neg]
  · rfl
  · simp only [decide_eq_true_eq]
    rw [show high 2 = 65535 by decide]
    show ¬ (65535 : Int) < ((seqOf o s : Nat) : Int)
    omega
set_option maxHeartbeats 4000000 in
theorem tellGet_fs (o : Int) (s : List UInt8) (hs : s.length ≤ 100000000) : Fsp Tryd.prog 48 [] 0 [.int .i64 o, .str s] [] 0 (tellGR o s) := by
  have hp := tellLen_fs o s
  rw [tellGR]
  by_cases h0 : (tlenR o s).2 = 0
  · obtain ⟨ho, h8, ⟨f, hf⟩, hL, hn1, hn2⟩ := tlen_ok h0
    have hor := isOrd_of ho
    have hq := mform_fs ((s.getD 0 0).toNat : Int) ((s.getD 1 0).toNat : Int)
    have hf' : mForm ((s.getD 0 0).toNat : Int) ((s.getD 1 0).toNat : Int) = some f := hf
    rw [mFormR_some hf'] at hq
    simp only [Fm.pv] at hq
    obtain ⟨hok, -⟩ := mForm_some hf'
    rw [tellG, if_pos h0, hf]
    rw [hL] at hp ⊢
    simp only at hp ⊢
    rw [Int.toNat_natCast]
    obtain ⟨n, hn⟩ : ∃ n, n = 4 * words o s := ⟨_, rfl⟩
    rw [← hn] at hp ⊢
    obtain ⟨sq1, sq2, sq3⟩ := seq_get (o := o) h8
    have hg2 := get_fs hor (s := 2) (by unfold isSize; omega) ((s.drop 2).take 2)
    rw [sq1, sq2] at hg2
    have wsq : IntKind.i64.wrap (seqOf o s : Int) = (seqOf o s : Int) := by rw [wrap_i64_id (by omega) (by omega)]
    generalize seqOf o s = q at *
    cases h2 : decide ((s.length : Int) < (n : Int))
    · have h2' : ¬ (s.length : Int) < (n : Int) := by simpa using h2
      rw [if_neg h2']
      have htd : (s.drop 8).take (n - 8) = (s.take n).drop 8 := (List.drop_take ..).symm
      have hgf := formGet_fs hor f hok ((s.take n).drop 8) (by simp; omega)
      simp only [getR, Fm.pv] at hgf
      have g0 : 0 < s.length := by omega
      have g1 : 1 < s.length := by omega
      generalize getF o f ((s.take n).drop 8) = x at *
      obtain ⟨x, xe⟩ := x
      simp only [Fd.pv] at hgf
      simp only
      cases h5 : (xe != 0)
      · have h5' : xe = 0 := by simpa using h5
        rw [if_pos h5']
        (refine Fsp.ofs (nx := 0) mixed Tryd.func48 rfl (by simp [Tryd.f48]) ?_; simp -implicitDefEqProofs only [push_cast, Tryd.f48, seval])
        refine callE_p hp ?_
        simp -implicitDefEqProofs only [push_cast, h2, wb, seval]
        (repeat (first | refine ⟨by omega, ?_⟩ | refine ⟨by (unfold drawOk; kernel_rfl), ?_⟩))
        refine callE_p hq ?_
        simp -implicitDefEqProofs only [push_cast, seval]
        (repeat (first | refine ⟨by omega, ?_⟩ | refine ⟨by (unfold drawOk; kernel_rfl), ?_⟩))
        refine callE_p hg2 ?_
        simp -implicitDefEqProofs only [push_cast, htd, seval]
        (repeat (first | refine ⟨by omega, ?_⟩ | refine ⟨by (unfold drawOk; kernel_rfl), ?_⟩))
        refine callE_p hgf ?_
        simp -implicitDefEqProofs only [push_cast, h5, wb, wsq, seval]
        (repeat (first | refine ⟨by omega, ?_⟩ | refine ⟨by (unfold drawOk; kernel_rfl), ?_⟩))
        (repeat (first | refine ⟨by omega, ?_⟩ | refine ⟨by (unfold drawOk; kernel_rfl), ?_⟩))
        all_goals first | done | exact ⟨_, rfl, by simp [wkL, res2, res1, res3, PV.weak, PV.el, ints, ot0, Ot.pv]⟩ | simp [wkL, res2, res1, res3, PV.weak, PV.el, ints, ot0, Ot.pv]
      · have h5' : ¬ xe = 0 := by simpa using h5
        rw [if_neg h5']
        (refine Fsp.ofs (nx := 0) mixed Tryd.func48 rfl (by simp [Tryd.f48]) ?_; simp -implicitDefEqProofs only [push_cast, Tryd.f48, seval])
        refine callE_p hp ?_
        simp -implicitDefEqProofs only [push_cast, h2, wb, seval]
        (repeat (first | refine ⟨by omega, ?_⟩ | refine ⟨by (unfold drawOk; kernel_rfl), ?_⟩))
        refine callE_p hq ?_
        simp -implicitDefEqProofs only [push_cast, seval]
        (repeat (first | refine ⟨by omega, ?_⟩ | refine ⟨by (unfold drawOk; kernel_rfl), ?_⟩))
        refine callE_p hg2 ?_
        simp -implicitDefEqProofs only [push_cast, htd, seval]
        (repeat (first | refine ⟨by omega, ?_⟩ | refine ⟨by (unfold drawOk; kernel_rfl), ?_⟩))
        refine callE_p hgf ?_
        simp -implicitDefEqProofs only [push_cast, h5, seval]
        (repeat (first | refine ⟨by omega, ?_⟩ | refine ⟨by (unfold drawOk; kernel_rfl), ?_⟩))
        (repeat (first | refine ⟨by omega, ?_⟩ | refine ⟨by (unfold drawOk; kernel_rfl), ?_⟩))
        all_goals first | done | exact ⟨_, rfl, by simp [wkL, res2, res1, res3, PV.weak, PV.el, ints, ot0, Ot.pv]⟩ | simp [wkL, res2, res1, res3, PV.weak, PV.el, ints, ot0, Ot.pv]
    · have h2' : (s.length : Int) < (n : Int) := by simpa using h2
      rw [if_pos h2']
      (refine Fsp.ofs (nx := 0) mixed Tryd.func48 rfl (by simp [Tryd.f48]) ?_; simp -implicitDefEqProofs only [push_cast, Tryd.f48, seval])
      refine callE_p hp ?_
      simp -implicitDefEqProofs only [push_cast, h2, seval]
      (repeat (first | refine ⟨by omega, ?_⟩ | refine ⟨by (unfold drawOk; kernel_rfl), ?_⟩))
      (repeat (first | refine ⟨by omega, ?_⟩ | refine ⟨by (unfold drawOk; kernel_rfl), ?_⟩))
      all_goals first | done | exact ⟨_, rfl, by simp [wkL, res2, res1, res3, PV.weak, PV.el, ints, ot0, Ot.pv]⟩ | simp [wkL, res2, res1, res3, PV.weak, PV.el, ints, ot0, Ot.pv]
  · rw [tellG, if_neg h0]
    have he : ((tlenR o s).2 != 0) = true := by simpa using h0
    generalize tlenR o s = L at *
    obtain ⟨n, e⟩ := L
    simp only at hp he h0
    (refine Fsp.ofs (nx := 0) mixed Tryd.func48 rfl (by simp [Tryd.f48]) ?_; simp -implicitDefEqProofs only [push_cast, Tryd.f48, seval])
    refine callE_p hp ?_
    simp -implicitDefEqProofs only [push_cast, he, seval]
    (repeat (first | refine ⟨by omega, ?_⟩ | refine ⟨by (unfold drawOk; kernel_rfl), ?_⟩))
    (repeat (first | refine ⟨by omega, ?_⟩ | refine ⟨by (unfold drawOk; kernel_rfl), ?_⟩))
    all_goals first | done | exact ⟨_, rfl, by simp [wkL, res2, res1, res3, PV.weak, PV.el, ints, ot0, Ot.pv]⟩ | simp [wkL, res2, res1, res3, PV.weak, PV.el, ints, ot0, Ot.pv]

end Go.Proofs.Sh

/- Package stub: whole, may, what a failed Feed tells. -/
set_option maxRecDepth 100000
set_option linter.unusedSimpArgs false
set_option linter.unusedVariables false
namespace Go.Proofs.Sh
open Go.Pv

def wholeS (o : Int) (b : List UInt8) : Bool := !(decide ((b.length : Int) < 8)) && ((tlenR o b).2 != 0 || decide ((tlenR o b).1 ≤ (b.length : Int)))
theorem whole_fs (s : Sb) (b : List UInt8) : Fsp Tryd.prog 47 [] 0 [.agg (s.cs (.sl 1 (ints s.q)) .any), .str b] [] 0 (.bool (wholeS s.o b)) := by
  have hl := tellLen_fs s.o b
  obtain ⟨o, sc, sd, sn, sl, st, sout, scame, q, m⟩ := s
  simp only [Sb.cs] at hl ⊢
  generalize hn : (tlenR o b).1 = n at *
  generalize he : (tlenR o b).2 = e at *
  cases k1 : decide ((b.length : Int) < 8)
  · (refine Fsp.ofs (nx := 0) mixed Tryd.func47 rfl (by simp [Tryd.f47]) ?_; simp -implicitDefEqProofs only [push_cast, Tryd.f47, k1, seval])
    refine callE_p hl ?_
    simp -implicitDefEqProofs only [push_cast, seval]
    cases k2 : (e != 0)
    · simp -implicitDefEqProofs only [push_cast, k2, seval]
      (first | done | simp [wholeS, hn, he, k1, k2] | simp [wholeS, hn, he, k1])
    · simp -implicitDefEqProofs only [push_cast, k2, seval]
      (first | done | simp [wholeS, hn, he, k1, k2] | simp [wholeS, hn, he, k1])
  · (refine Fsp.ofs (nx := 0) mixed Tryd.func47 rfl (by simp [Tryd.f47]) ?_; simp -implicitDefEqProofs only [push_cast, Tryd.f47, k1, seval])
    (first | done | simp [wholeS, hn, he, k1, k2] | simp [wholeS, hn, he, k1])
def failS (s : Sb) : Sb := { s with d := true, came := [] }
theorem fail_fs (s : Sb) (e : Int) : Fsp Tryd.prog 46 [s.cs (.sl 1 (ints s.q)) s.mpv] 0 [.int .i64 e, .box 0 0] [s.cs (.sl 1 (ints s.q)) s.mpv] 0 (.tup [(failS s).pv, .nilsl, .int .i64 e]) := by
  obtain ⟨so, sc, sd, sn, sl, st, sout, scame, q, m⟩ := s
  cases m with
  | none =>
    (refine Fsp.of (nx := 1) mixed Tryd.func46 rfl (by decide) (by first | exact Nat.le_refl _ | simp) (by simp [Tryd.f46]) ⟨by simp, by simp⟩ ?_; simp -implicitDefEqProofs only [push_cast, Tryd.f46, Sb.pv, Sb.cs, Sb.mpv, failS, seval])
    skip
    exact endK_box [] [0] rfl rfl (by simp [PS.lv, lkp_hit, lkp_miss, lkp_nil]) rfl rfl (by rfl) (fun i j ps h1 h2 => by (rcases i with _ | i <;> simp at h1 h2 <;> (subst h1; subst h2; exact ⟨_, rfl, (by (repeat' (first | exact wkL_nil | refine wkL_cons ?_ ?_)); all_goals (first | rfl | exact ⟨rfl, rfl⟩ | exact ⟨rfl, rfl, rfl⟩ | exact .inl rfl))⟩))) ⟨by simp [resOk, PS.get, PS.obj, lkp_hit, lkp_miss, lkp_nil, PS.ev, ldPV, ldOk, ofC, ofC1, TK.isAgg, tk_36, tsz_36], by simp [resPV, PS.get, PS.obj, lkp_hit, lkp_miss, lkp_nil, PS.ev, ldPV, ldOk, ofC, ofC1, TK.isAgg, tk_36, tsz_36], by simp [resOf, resPV, one', res3, res2, res1, PV.weak, PV.el, wkL, idx, PV.un, PS.get, PS.obj, lkp_hit, lkp_miss, lkp_nil, PS.ev, ldPV, ldOk, ofC, ofC1, TK.isAgg, tk_36, tsz_36]⟩
  | some m =>
    (refine Fsp.of (nx := 1) mixed Tryd.func46 rfl (by decide) (by first | exact Nat.le_refl _ | simp) (by simp [Tryd.f46]) ⟨by simp, by simp⟩ ?_; simp -implicitDefEqProofs only [push_cast, Tryd.f46, Sb.pv, Sb.cs, Sb.mpv, failS, seval])
    exact endK_box [] [0] rfl rfl (by simp [PS.lv, lkp_hit, lkp_miss, lkp_nil]) rfl rfl (by rfl) (fun i j ps h1 h2 => by (rcases i with _ | i <;> simp at h1 h2 <;> (subst h1; subst h2; exact ⟨_, rfl, (by (repeat' (first | exact wkL_nil | refine wkL_cons ?_ ?_)); all_goals (first | rfl | exact ⟨rfl, rfl⟩ | exact ⟨rfl, rfl, rfl⟩ | exact .inl rfl))⟩))) ⟨by simp [resOk, PS.get, PS.obj, lkp_hit, lkp_miss, lkp_nil, PS.ev, ldPV, ldOk, ofC, ofC1, TK.isAgg, tk_36, tsz_36], by simp [resPV, PS.get, PS.obj, lkp_hit, lkp_miss, lkp_nil, PS.ev, ldPV, ldOk, ofC, ofC1, TK.isAgg, tk_36, tsz_36], by simp [resOf, resPV, one', res3, res2, res1, PV.weak, PV.el, wkL, idx, PV.un, PS.get, PS.obj, lkp_hit, lkp_miss, lkp_nil, PS.ev, ldPV, ldOk, ofC, ofC1, TK.isAgg, tk_36, tsz_36]⟩
theorem ints_nil : ints [] = [] := rfl
/-- What may come, and what is awaited then. -/
def awd (s : Sb) (x : Ot) : Bool := match s.q with | [] => false | a :: _ => a == x.Q
def mayB (s : Sb) (x : Ot) : Bool :=
  if decide (s.n < x.Q) = true then false
  else if (match s.q with | [] => false | a :: _ => decide (a < x.Q)) = true then false
  else if x.K = 1 then awd s x && mgetI s.mm x.Q 0 == x.C
  else if x.K = 0 then x.Q != 0
  else true
def mayS (s : Sb) (x : Ot) : Sb :=
  if (awd s x && (x.K == 1 || x.K == 0)) = true then { s with q := s.q.tail, m := some (mdelI s.mm x.Q), l := x.Q } else { s with l := x.Q }
def mayT (s : Sb) (x : Ot) : Sb := if mayB s x = true then mayS s x else s
theorem ints_cons (a : Int) (l : List Int) : ints (a :: l) = .int .i64 a :: ints l := rfl
set_option maxHeartbeats 4000000 in
theorem may_fs (s : Sb) (x : Ot) (mm : List (Int × Int)) (hm : s.m = some mm) (hq : s.q.length ≤ 1000000) : Fsp Tryd.prog 49 [s.cs (.sl 1 (ints s.q)) (.mref 1), [.mobj (mkM mm)]] 0 [.box 0 0, x.pv] [(mayT s x).cs (.sl 1 (ints (mayT s x).q)) (.mref 1), [.mobj (mkM (mayT s x).mm)]] 0 (.bool (mayB s x)) := by
  have hg := mgetD_mkM x.Q 0 mm
  obtain ⟨so, sc, sd, sn, sl, st, sout, scame, q, m⟩ := s
  obtain ⟨K, C, Q, N, B, L⟩ := x
  simp only at hm hq hg
  subst hm
  have hk : kAll Tryd.prog 3 (mkM mm) = true := kAll_mkM (by rfl) mm
  have hd : mdel (mkM mm) (.int .i64 Q) = mkM (mdelI mm Q) := mdel_mkM mm Q
  generalize hT : mayT _ _ = U
  generalize hB : mayB _ _ = rb
  cases q with
  | nil =>
    cases k1 : decide (sn < Q)
    · skip
      (refine Fsp.of (nx := 2) mixed Tryd.func49 rfl (by decide) (by first | exact Nat.le_refl _ | simp) (by simp [Tryd.f49]) ⟨by simp, by simp⟩ ?_; simp -implicitDefEqProofs only [push_cast, Tryd.f49, Sb.cs, Ot.pv, ints_nil, k1, seval])
      (repeat refine ⟨by (unfold drawOk; kernel_rfl), ?_⟩)
      refine condC_split (fun g1 => ?_) (fun g1 => ?_)
      · simp -implicitDefEqProofs only [push_cast, hg, hk, seval]
        (repeat refine ⟨by (unfold drawOk; kernel_rfl), ?_⟩)
        obtain ⟨rfl, rfl⟩ : U = ⟨so, sc, sd, sn, sl, st, sout, scame, [], some mm⟩ ∧ rb = false := by
          (clear hg hk hd hq; rw [← hT, ← hB]; simp_all [mayT, mayB, mayS, awd, Sb.mm])
        exact endK_box [] [0, 1] rfl rfl (by simp [PS.lv, lkp_hit, lkp_miss, lkp_nil]) rfl rfl (by rfl) (fun i j ps h1 h2 => by (rcases i with _ | _ | i <;> simp at h1 h2 <;> (subst h1; subst h2; exact ⟨_, rfl, (by (repeat' (first | exact wkL_nil | refine wkL_cons ?_ ?_)); all_goals (first | rfl | exact ⟨rfl, rfl⟩ | exact ⟨rfl, rfl, rfl⟩ | exact .inl rfl))⟩))) ⟨by simp [resOk, PS.get, lkp_hit, lkp_miss, PS.ev], by simp [resPV, PS.get, lkp_hit, lkp_miss, PS.ev], by simp [resOf, resPV, one', res3, res2, res1, PS.get, lkp_hit, lkp_miss, PS.ev, PV.weak, PV.el, wkL, Sb.cs, Sb.mm]⟩
      · simp -implicitDefEqProofs only [push_cast, seval]
        refine condC_split (fun g2 => ?_) (fun g2 => ?_)
        · simp -implicitDefEqProofs only [push_cast, seval]
          refine condC_split (fun g3 => ?_) (fun g3 => ?_)
          · simp -implicitDefEqProofs only [push_cast, seval]
            obtain ⟨rfl, rfl⟩ : U = ⟨so, sc, sd, sn, sl, st, sout, scame, [], some mm⟩ ∧ rb = false := by
              (clear hg hk hd hq; rw [← hT, ← hB]; simp_all [mayT, mayB, mayS, awd, Sb.mm])
            exact endK_box [] [0, 1] rfl rfl (by simp [PS.lv, lkp_hit, lkp_miss, lkp_nil]) rfl rfl (by rfl) (fun i j ps h1 h2 => by (rcases i with _ | _ | i <;> simp at h1 h2 <;> (subst h1; subst h2; exact ⟨_, rfl, (by (repeat' (first | exact wkL_nil | refine wkL_cons ?_ ?_)); all_goals (first | rfl | exact ⟨rfl, rfl⟩ | exact ⟨rfl, rfl, rfl⟩ | exact .inl rfl))⟩))) ⟨by simp [resOk, PS.get, lkp_hit, lkp_miss, PS.ev], by simp [resPV, PS.get, lkp_hit, lkp_miss, PS.ev], by simp [resOf, resPV, one', res3, res2, res1, PS.get, lkp_hit, lkp_miss, PS.ev, PV.weak, PV.el, wkL, Sb.cs, Sb.mm]⟩
          · simp -implicitDefEqProofs only [push_cast, seval]
            (repeat refine ⟨by (unfold drawOk; kernel_rfl), ?_⟩)
            obtain ⟨rfl, rfl⟩ : U = ⟨so, sc, sd, sn, Q, st, sout, scame, [], some mm⟩ ∧ rb = true := by
              (clear hg hk hd hq; rw [← hT, ← hB]; simp_all [mayT, mayB, mayS, awd, Sb.mm])
            exact endK_box [] [0, 1] rfl rfl (by simp [PS.lv, lkp_hit, lkp_miss, lkp_nil]) rfl rfl (by rfl) (fun i j ps h1 h2 => by (rcases i with _ | _ | i <;> simp at h1 h2 <;> (subst h1; subst h2; exact ⟨_, rfl, (by (repeat' (first | exact wkL_nil | refine wkL_cons ?_ ?_)); all_goals (first | rfl | exact ⟨rfl, rfl⟩ | exact ⟨rfl, rfl, rfl⟩ | exact .inl rfl))⟩))) ⟨by simp [resOk, PS.get, lkp_hit, lkp_miss, PS.ev], by simp [resPV, PS.get, lkp_hit, lkp_miss, PS.ev], by simp [resOf, resPV, one', res3, res2, res1, PS.get, lkp_hit, lkp_miss, PS.ev, PV.weak, PV.el, wkL, Sb.cs, Sb.mm]⟩
        · simp -implicitDefEqProofs only [push_cast, seval]
          obtain ⟨rfl, rfl⟩ : U = ⟨so, sc, sd, sn, Q, st, sout, scame, [], some mm⟩ ∧ rb = true := by
            (clear hg hk hd hq; rw [← hT, ← hB]; simp_all [mayT, mayB, mayS, awd, Sb.mm])
          exact endK_box [] [0, 1] rfl rfl (by simp [PS.lv, lkp_hit, lkp_miss, lkp_nil]) rfl rfl (by rfl) (fun i j ps h1 h2 => by (rcases i with _ | _ | i <;> simp at h1 h2 <;> (subst h1; subst h2; exact ⟨_, rfl, (by (repeat' (first | exact wkL_nil | refine wkL_cons ?_ ?_)); all_goals (first | rfl | exact ⟨rfl, rfl⟩ | exact ⟨rfl, rfl, rfl⟩ | exact .inl rfl))⟩))) ⟨by simp [resOk, PS.get, lkp_hit, lkp_miss, PS.ev], by simp [resPV, PS.get, lkp_hit, lkp_miss, PS.ev], by simp [resOf, resPV, one', res3, res2, res1, PS.get, lkp_hit, lkp_miss, PS.ev, PV.weak, PV.el, wkL, Sb.cs, Sb.mm]⟩
    · (refine Fsp.of (nx := 2) mixed Tryd.func49 rfl (by decide) (by first | exact Nat.le_refl _ | simp) (by simp [Tryd.f49]) ⟨by simp, by simp⟩ ?_; simp -implicitDefEqProofs only [push_cast, Tryd.f49, Sb.cs, Ot.pv, ints_nil, k1, seval])
      (repeat refine ⟨by (unfold drawOk; kernel_rfl), ?_⟩)
      obtain ⟨rfl, rfl⟩ : U = ⟨so, sc, sd, sn, sl, st, sout, scame, [], some mm⟩ ∧ rb = false := by
        (clear hg hk hd hq; rw [← hT, ← hB]; simp_all [mayT, mayB, mayS, awd, Sb.mm])
      exact endK_box [] [0, 1] rfl rfl (by simp [PS.lv, lkp_hit, lkp_miss, lkp_nil]) rfl rfl (by rfl) (fun i j ps h1 h2 => by (rcases i with _ | _ | i <;> simp at h1 h2 <;> (subst h1; subst h2; exact ⟨_, rfl, (by (repeat' (first | exact wkL_nil | refine wkL_cons ?_ ?_)); all_goals (first | rfl | exact ⟨rfl, rfl⟩ | exact ⟨rfl, rfl, rfl⟩ | exact .inl rfl))⟩))) ⟨by simp [resOk, PS.get, lkp_hit, lkp_miss, PS.ev], by simp [resPV, PS.get, lkp_hit, lkp_miss, PS.ev], by simp [resOf, resPV, one', res3, res2, res1, PS.get, lkp_hit, lkp_miss, PS.ev, PV.weak, PV.el, wkL, Sb.cs, Sb.mm]⟩
  | cons a q =>
    have h0 : decide ((0 : Int) < (q.length : Int) + 1) = true := decide_eq_true (by omega)
    have h1 : (0 : Int) < (q.length : Int) + 1 := by omega
    cases k1 : decide (sn < Q)
    · cases k2 : decide (a < Q)
      · cases k3 : (a == Q)
        · skip
          (refine Fsp.of (nx := 2) mixed Tryd.func49 rfl (by decide) (by first | exact Nat.le_refl _ | simp) (by simp [Tryd.f49]) ⟨by simp, by simp⟩ ?_; simp -implicitDefEqProofs only [push_cast, Tryd.f49, Sb.cs, Ot.pv, ints_cons, List.length_cons, ints_length, h0, h1, k1, k2, k3, seval])
          (repeat refine ⟨by (unfold drawOk; kernel_rfl), ?_⟩)
          refine condC_split (fun g1 => ?_) (fun g1 => ?_)
          · simp -implicitDefEqProofs only [push_cast, hg, hk, seval]
            (repeat refine ⟨by (unfold drawOk; kernel_rfl), ?_⟩)
            obtain ⟨rfl, rfl⟩ : U = ⟨so, sc, sd, sn, sl, st, sout, scame, (a :: q), some mm⟩ ∧ rb = false := by
              (clear hg hk hd hq; rw [← hT, ← hB]; simp_all [mayT, mayB, mayS, awd, Sb.mm])
            exact endK_box [] [0, 1] rfl rfl (by simp [PS.lv, lkp_hit, lkp_miss, lkp_nil]) rfl rfl (by rfl) (fun i j ps h1 h2 => by (rcases i with _ | _ | i <;> simp at h1 h2 <;> (subst h1; subst h2; exact ⟨_, rfl, (by (repeat' (first | exact wkL_nil | refine wkL_cons ?_ ?_)); all_goals (first | rfl | exact ⟨rfl, rfl⟩ | exact ⟨rfl, rfl, rfl⟩ | exact .inl rfl))⟩))) ⟨by simp [resOk, PS.get, lkp_hit, lkp_miss, PS.ev], by simp [resPV, PS.get, lkp_hit, lkp_miss, PS.ev], by simp [resOf, resPV, one', res3, res2, res1, PS.get, lkp_hit, lkp_miss, PS.ev, PV.weak, PV.el, wkL, Sb.cs, Sb.mm]⟩
          · simp -implicitDefEqProofs only [push_cast, seval]
            refine condC_split (fun g2 => ?_) (fun g2 => ?_)
            · simp -implicitDefEqProofs only [push_cast, seval]
              refine condC_split (fun g3 => ?_) (fun g3 => ?_)
              · simp -implicitDefEqProofs only [push_cast, seval]
                obtain ⟨rfl, rfl⟩ : U = ⟨so, sc, sd, sn, sl, st, sout, scame, (a :: q), some mm⟩ ∧ rb = false := by
                  (clear hg hk hd hq; rw [← hT, ← hB]; simp_all [mayT, mayB, mayS, awd, Sb.mm])
                exact endK_box [] [0, 1] rfl rfl (by simp [PS.lv, lkp_hit, lkp_miss, lkp_nil]) rfl rfl (by rfl) (fun i j ps h1 h2 => by (rcases i with _ | _ | i <;> simp at h1 h2 <;> (subst h1; subst h2; exact ⟨_, rfl, (by (repeat' (first | exact wkL_nil | refine wkL_cons ?_ ?_)); all_goals (first | rfl | exact ⟨rfl, rfl⟩ | exact ⟨rfl, rfl, rfl⟩ | exact .inl rfl))⟩))) ⟨by simp [resOk, PS.get, lkp_hit, lkp_miss, PS.ev], by simp [resPV, PS.get, lkp_hit, lkp_miss, PS.ev], by simp [resOf, resPV, one', res3, res2, res1, PS.get, lkp_hit, lkp_miss, PS.ev, PV.weak, PV.el, wkL, Sb.cs, Sb.mm]⟩
              · simp -implicitDefEqProofs only [push_cast, seval]
                (repeat refine ⟨by (unfold drawOk; kernel_rfl), ?_⟩)
                obtain ⟨rfl, rfl⟩ : U = ⟨so, sc, sd, sn, Q, st, sout, scame, (a :: q), some mm⟩ ∧ rb = true := by
                  (clear hg hk hd hq; rw [← hT, ← hB]; simp_all [mayT, mayB, mayS, awd, Sb.mm])
                exact endK_box [] [0, 1] rfl rfl (by simp [PS.lv, lkp_hit, lkp_miss, lkp_nil]) rfl rfl (by rfl) (fun i j ps h1 h2 => by (rcases i with _ | _ | i <;> simp at h1 h2 <;> (subst h1; subst h2; exact ⟨_, rfl, (by (repeat' (first | exact wkL_nil | refine wkL_cons ?_ ?_)); all_goals (first | rfl | exact ⟨rfl, rfl⟩ | exact ⟨rfl, rfl, rfl⟩ | exact .inl rfl))⟩))) ⟨by simp [resOk, PS.get, lkp_hit, lkp_miss, PS.ev], by simp [resPV, PS.get, lkp_hit, lkp_miss, PS.ev], by simp [resOf, resPV, one', res3, res2, res1, PS.get, lkp_hit, lkp_miss, PS.ev, PV.weak, PV.el, wkL, Sb.cs, Sb.mm]⟩
            · simp -implicitDefEqProofs only [push_cast, seval]
              obtain ⟨rfl, rfl⟩ : U = ⟨so, sc, sd, sn, Q, st, sout, scame, (a :: q), some mm⟩ ∧ rb = true := by
                (clear hg hk hd hq; rw [← hT, ← hB]; simp_all [mayT, mayB, mayS, awd, Sb.mm])
              exact endK_box [] [0, 1] rfl rfl (by simp [PS.lv, lkp_hit, lkp_miss, lkp_nil]) rfl rfl (by rfl) (fun i j ps h1 h2 => by (rcases i with _ | _ | i <;> simp at h1 h2 <;> (subst h1; subst h2; exact ⟨_, rfl, (by (repeat' (first | exact wkL_nil | refine wkL_cons ?_ ?_)); all_goals (first | rfl | exact ⟨rfl, rfl⟩ | exact ⟨rfl, rfl, rfl⟩ | exact .inl rfl))⟩))) ⟨by simp [resOk, PS.get, lkp_hit, lkp_miss, PS.ev], by simp [resPV, PS.get, lkp_hit, lkp_miss, PS.ev], by simp [resOf, resPV, one', res3, res2, res1, PS.get, lkp_hit, lkp_miss, PS.ev, PV.weak, PV.el, wkL, Sb.cs, Sb.mm]⟩
        · skip
          (refine Fsp.of (nx := 2) mixed Tryd.func49 rfl (by decide) (by first | exact Nat.le_refl _ | simp) (by simp [Tryd.f49]) ⟨by simp, by simp⟩ ?_; simp -implicitDefEqProofs only [push_cast, Tryd.f49, Sb.cs, Ot.pv, ints_cons, List.length_cons, ints_length, h0, h1, k1, k2, k3, seval])
          (repeat refine ⟨by (unfold drawOk; kernel_rfl), ?_⟩)
          refine condC_split (fun g1 => ?_) (fun g1 => ?_)
          · simp -implicitDefEqProofs only [push_cast, hg, hk, seval]
            (repeat refine ⟨by (unfold drawOk; kernel_rfl), ?_⟩)
            refine condC_split (fun g2 => ?_) (fun g2 => ?_)
            · simp -implicitDefEqProofs only [push_cast, seval]
              obtain ⟨rfl, rfl⟩ : U = ⟨so, sc, sd, sn, sl, st, sout, scame, (a :: q), some mm⟩ ∧ rb = false := by
                (clear hg hk hd hq; rw [← hT, ← hB]; simp_all [mayT, mayB, mayS, awd, Sb.mm])
              exact endK_box [] [0, 1] rfl rfl (by simp [PS.lv, lkp_hit, lkp_miss, lkp_nil]) rfl rfl (by rfl) (fun i j ps h1 h2 => by (rcases i with _ | _ | i <;> simp at h1 h2 <;> (subst h1; subst h2; exact ⟨_, rfl, (by (repeat' (first | exact wkL_nil | refine wkL_cons ?_ ?_)); all_goals (first | rfl | exact ⟨rfl, rfl⟩ | exact ⟨rfl, rfl, rfl⟩ | exact .inl rfl))⟩))) ⟨by simp [resOk, PS.get, lkp_hit, lkp_miss, PS.ev], by simp [resPV, PS.get, lkp_hit, lkp_miss, PS.ev], by simp [resOf, resPV, one', res3, res2, res1, PS.get, lkp_hit, lkp_miss, PS.ev, PV.weak, PV.el, wkL, Sb.cs, Sb.mm]⟩
            · simp -implicitDefEqProofs only [push_cast, hk, hd, Nat.add_sub_cancel, List.take_length, seval]
              refine ⟨Nat.le_refl _, ?_⟩
              (repeat refine ⟨by (unfold drawOk; kernel_rfl), ?_⟩)
              obtain ⟨rfl, rfl⟩ : U = ⟨so, sc, sd, sn, Q, st, sout, scame, q, some (mdelI mm Q)⟩ ∧ rb = true := by
                (clear hg hk hd hq; rw [← hT, ← hB]; simp_all [mayT, mayB, mayS, awd, Sb.mm])
              exact endK_box [] [0, 1] rfl rfl (by simp [PS.lv, lkp_hit, lkp_miss, lkp_nil]) rfl rfl (by rfl) (fun i j ps h1 h2 => by (rcases i with _ | _ | i <;> simp at h1 h2 <;> (subst h1; subst h2; exact ⟨_, rfl, (by (repeat' (first | exact wkL_nil | refine wkL_cons ?_ ?_)); all_goals (first | rfl | exact ⟨rfl, rfl⟩ | exact ⟨rfl, rfl, rfl⟩ | exact .inl rfl))⟩))) ⟨by simp [resOk, PS.get, lkp_hit, lkp_miss, PS.ev], by simp [resPV, PS.get, lkp_hit, lkp_miss, PS.ev], by simp [resOf, resPV, one', res3, res2, res1, PS.get, lkp_hit, lkp_miss, PS.ev, PV.weak, PV.el, wkL, Sb.cs, Sb.mm]⟩
          · simp -implicitDefEqProofs only [push_cast, seval]
            refine condC_split (fun g2 => ?_) (fun g2 => ?_)
            · simp -implicitDefEqProofs only [push_cast, seval]
              refine condC_split (fun g3 => ?_) (fun g3 => ?_)
              · simp -implicitDefEqProofs only [push_cast, seval]
                obtain ⟨rfl, rfl⟩ : U = ⟨so, sc, sd, sn, sl, st, sout, scame, (a :: q), some mm⟩ ∧ rb = false := by
                  (clear hg hk hd hq; rw [← hT, ← hB]; simp_all [mayT, mayB, mayS, awd, Sb.mm])
                exact endK_box [] [0, 1] rfl rfl (by simp [PS.lv, lkp_hit, lkp_miss, lkp_nil]) rfl rfl (by rfl) (fun i j ps h1 h2 => by (rcases i with _ | _ | i <;> simp at h1 h2 <;> (subst h1; subst h2; exact ⟨_, rfl, (by (repeat' (first | exact wkL_nil | refine wkL_cons ?_ ?_)); all_goals (first | rfl | exact ⟨rfl, rfl⟩ | exact ⟨rfl, rfl, rfl⟩ | exact .inl rfl))⟩))) ⟨by simp [resOk, PS.get, lkp_hit, lkp_miss, PS.ev], by simp [resPV, PS.get, lkp_hit, lkp_miss, PS.ev], by simp [resOf, resPV, one', res3, res2, res1, PS.get, lkp_hit, lkp_miss, PS.ev, PV.weak, PV.el, wkL, Sb.cs, Sb.mm]⟩
              · simp -implicitDefEqProofs only [push_cast, hk, hd, Nat.add_sub_cancel, List.take_length, seval]
                refine ⟨Nat.le_refl _, ?_⟩
                (repeat refine ⟨by (unfold drawOk; kernel_rfl), ?_⟩)
                obtain ⟨rfl, rfl⟩ : U = ⟨so, sc, sd, sn, Q, st, sout, scame, q, some (mdelI mm Q)⟩ ∧ rb = true := by
                  (clear hg hk hd hq; rw [← hT, ← hB]; simp_all [mayT, mayB, mayS, awd, Sb.mm])
                exact endK_box [] [0, 1] rfl rfl (by simp [PS.lv, lkp_hit, lkp_miss, lkp_nil]) rfl rfl (by rfl) (fun i j ps h1 h2 => by (rcases i with _ | _ | i <;> simp at h1 h2 <;> (subst h1; subst h2; exact ⟨_, rfl, (by (repeat' (first | exact wkL_nil | refine wkL_cons ?_ ?_)); all_goals (first | rfl | exact ⟨rfl, rfl⟩ | exact ⟨rfl, rfl, rfl⟩ | exact .inl rfl))⟩))) ⟨by simp [resOk, PS.get, lkp_hit, lkp_miss, PS.ev], by simp [resPV, PS.get, lkp_hit, lkp_miss, PS.ev], by simp [resOf, resPV, one', res3, res2, res1, PS.get, lkp_hit, lkp_miss, PS.ev, PV.weak, PV.el, wkL, Sb.cs, Sb.mm]⟩
            · simp -implicitDefEqProofs only [push_cast, seval]
              obtain ⟨rfl, rfl⟩ : U = ⟨so, sc, sd, sn, Q, st, sout, scame, (a :: q), some mm⟩ ∧ rb = true := by
                (clear hg hk hd hq; rw [← hT, ← hB]; simp_all [mayT, mayB, mayS, awd, Sb.mm])
              exact endK_box [] [0, 1] rfl rfl (by simp [PS.lv, lkp_hit, lkp_miss, lkp_nil]) rfl rfl (by rfl) (fun i j ps h1 h2 => by (rcases i with _ | _ | i <;> simp at h1 h2 <;> (subst h1; subst h2; exact ⟨_, rfl, (by (repeat' (first | exact wkL_nil | refine wkL_cons ?_ ?_)); all_goals (first | rfl | exact ⟨rfl, rfl⟩ | exact ⟨rfl, rfl, rfl⟩ | exact .inl rfl))⟩))) ⟨by simp [resOk, PS.get, lkp_hit, lkp_miss, PS.ev], by simp [resPV, PS.get, lkp_hit, lkp_miss, PS.ev], by simp [resOf, resPV, one', res3, res2, res1, PS.get, lkp_hit, lkp_miss, PS.ev, PV.weak, PV.el, wkL, Sb.cs, Sb.mm]⟩
      · (refine Fsp.of (nx := 2) mixed Tryd.func49 rfl (by decide) (by first | exact Nat.le_refl _ | simp) (by simp [Tryd.f49]) ⟨by simp, by simp⟩ ?_; simp -implicitDefEqProofs only [push_cast, Tryd.f49, Sb.cs, Ot.pv, ints_cons, List.length_cons, ints_length, h0, h1, k1, k2, seval])
        (repeat refine ⟨by (unfold drawOk; kernel_rfl), ?_⟩)
        obtain ⟨rfl, rfl⟩ : U = ⟨so, sc, sd, sn, sl, st, sout, scame, (a :: q), some mm⟩ ∧ rb = false := by
          (clear hg hk hd hq; rw [← hT, ← hB]; simp_all [mayT, mayB, mayS, awd, Sb.mm])
        exact endK_box [] [0, 1] rfl rfl (by simp [PS.lv, lkp_hit, lkp_miss, lkp_nil]) rfl rfl (by rfl) (fun i j ps h1 h2 => by (rcases i with _ | _ | i <;> simp at h1 h2 <;> (subst h1; subst h2; exact ⟨_, rfl, (by (repeat' (first | exact wkL_nil | refine wkL_cons ?_ ?_)); all_goals (first | rfl | exact ⟨rfl, rfl⟩ | exact ⟨rfl, rfl, rfl⟩ | exact .inl rfl))⟩))) ⟨by simp [resOk, PS.get, lkp_hit, lkp_miss, PS.ev], by simp [resPV, PS.get, lkp_hit, lkp_miss, PS.ev], by simp [resOf, resPV, one', res3, res2, res1, PS.get, lkp_hit, lkp_miss, PS.ev, PV.weak, PV.el, wkL, Sb.cs, Sb.mm]⟩
    · (refine Fsp.of (nx := 2) mixed Tryd.func49 rfl (by decide) (by first | exact Nat.le_refl _ | simp) (by simp [Tryd.f49]) ⟨by simp, by simp⟩ ?_; simp -implicitDefEqProofs only [push_cast, Tryd.f49, Sb.cs, Ot.pv, ints_cons, List.length_cons, ints_length, h0, h1, k1, seval])
      (repeat refine ⟨by (unfold drawOk; kernel_rfl), ?_⟩)
      obtain ⟨rfl, rfl⟩ : U = ⟨so, sc, sd, sn, sl, st, sout, scame, (a :: q), some mm⟩ ∧ rb = false := by
        (clear hg hk hd hq; rw [← hT, ← hB]; simp_all [mayT, mayB, mayS, awd, Sb.mm])
      exact endK_box [] [0, 1] rfl rfl (by simp [PS.lv, lkp_hit, lkp_miss, lkp_nil]) rfl rfl (by rfl) (fun i j ps h1 h2 => by (rcases i with _ | _ | i <;> simp at h1 h2 <;> (subst h1; subst h2; exact ⟨_, rfl, (by (repeat' (first | exact wkL_nil | refine wkL_cons ?_ ?_)); all_goals (first | rfl | exact ⟨rfl, rfl⟩ | exact ⟨rfl, rfl, rfl⟩ | exact .inl rfl))⟩))) ⟨by simp [resOk, PS.get, lkp_hit, lkp_miss, PS.ev], by simp [resPV, PS.get, lkp_hit, lkp_miss, PS.ev], by simp [resOf, resPV, one', res3, res2, res1, PS.get, lkp_hit, lkp_miss, PS.ev, PV.weak, PV.el, wkL, Sb.cs, Sb.mm]⟩

end Go.Proofs.Sh

/- Package stub: Feed. -/
set_option maxRecDepth 100000
set_option linter.unusedSimpArgs false
set_option linter.unusedVariables false
namespace Go.Proofs.Sh
open Go.Pv

theorem oL_sn (X : List Ot) (x : Ot) : oL X ++ [x.pv] = oL (X ++ [x]) := by simp [oL]
theorem tellG_n {o : Int} {s : List UInt8} (h : (tellG o s).2.2 = 0) : ∃ n : Nat, (tellG o s).2.1 = (n : Int) ∧ 8 ≤ n ∧ n ≤ s.length := by
  unfold tellG at h ⊢
  split at h
  · rename_i h1
    rw [if_pos h1]
    obtain ⟨ho, h8, ⟨f, hf⟩, he, hw1, hw2⟩ := tlen_ok h1
    split at h
    · exact absurd h (by decide)
    · rename_i h2
      rw [if_neg h2, hf]
      rw [hf] at h
      simp only at h ⊢
      split at h
      · rename_i h3
        rw [if_pos h3, he]
        rw [he] at h2
        exact ⟨4 * words o s, rfl, by omega, by simp only at h2; omega⟩
      · rename_i h3; exact absurd h h3
  · rename_i h1; exact absurd h h1
/-- One message more, its number whole. -/
def wideO (T : Sb) (x : Ot) : Ot := { x with Q := wideS T.l x.Q }
def feedGo (F : Int → Sb × List Ot × Int) : Nat → Sb → List UInt8 → List Ot → Sb × List Ot × Int
  | 0, T, r, L => ({ T with came := r }, L, 0)
  | k + 1, T, r, L =>
    if wholeS T.o r = true then
      if (tellG T.o r).2.2 = 0 then
        if mayB T (wideO T (tellG T.o r).1) = true then feedGo F k (mayS T (wideO T (tellG T.o r).1)) (r.drop (tellG T.o r).2.1.toNat) (L ++ [wideO T (tellG T.o r).1]) else F 9
      else F (tellG T.o r).2.2
    else ({ T with came := r }, L, 0)
def feedF (s : Sb) (e : Int) : Sb × List Ot × Int := (failS s, [], e)
def Sb.own (s : Sb) : Sb := { s with m := some s.mm }
def feedS (s : Sb) (b : List UInt8) : Sb × List Ot × Int :=
  if (s.c == 0 || s.d) = true then (s, [], 20) else feedGo (feedF s) ((s.came ++ b).length + 1) s.own (s.came ++ b) []
def feedR (s : Sb) (b : List UInt8) : PV := .tup [(feedS s b).1.pv, .sl 6 (oL (feedS s b).2.1), .int .i64 (feedS s b).2.2]
theorem mayS_q (s : Sb) (x : Ot) : (mayS s x).q.length ≤ s.q.length ∧ (mayS s x).o = s.o := by
  unfold mayS
  split
  · exact ⟨by simp, rfl⟩
  · exact ⟨Nat.le_refl _, rfl⟩
theorem mayS_m {s : Sb} {x : Ot} {mm : List (Int × Int)} (h : s.m = some mm) : ∃ mm', (mayS s x).m = some mm' := by
  unfold mayS
  split
  · exact ⟨_, rfl⟩
  · exact ⟨mm, h⟩
structure FdL (s : Sb) (R : Sb × List Ot × Int) (tot : Nat) where
  k : Nat
  T : Sb
  mm : List (Int × Int)
  r : List UInt8
  L : List Ot
  hm : T.m = some mm
  hq : T.q.length ≤ 1000000
  hr : r.length < k
  hL : L.length + r.length ≤ tot
  e : feedGo (feedF s) k T r L = R
def FdL.st {s : Sb} {R : Sb × List Ot × Int} {tot : Nat} (a : FdL s R tot) : PS := { n := 73, env := [(10, .slt 6 (oL a.L) 50), (9, .str a.r), (8, .box 2 0), (7, .fn 46 [.box 0 0]), (4, .box 1 0), (2, .box 0 0)], objs := [(0, some (s.cs (.sl 1 (ints s.q)) s.mpv)), (1, some (sb0.cs .nilsl .nilm)), (2, some (a.T.cs (.sl 1 (ints a.T.q)) (.mref 3))), (3, some [.mobj (mkM a.mm)])], live := [(50, true)], nxt := 60 }
theorem feedDead_fs (s : Sb) (b : List UInt8) (hc : (s.c == 0 || s.d) = true) : Fsp Tryd.prog 22 [] 0 [s.pv, .str b] [] 0 (.tup [s.pv, .sl 6 [], .int .i64 20]) := by
  obtain ⟨so, sc, sd, sn, sl, st, sout, scame, q, m⟩ := s
  simp only at hc
  cases k1 : (sc == 0)
  · rw [k1, Bool.false_or] at hc
    subst hc
    cases m <;> ((refine Fsp.ofs (nx := 0) mixed Tryd.func22 rfl (by simp [Tryd.f22]) ?_; simp -implicitDefEqProofs only [push_cast, Tryd.f22, Sb.pv, Sb.cs, Sb.mpv, k1, seval])) <;> (exact ⟨_, rfl, by simp [wkL, res2, res1, PV.weak, PV.el]⟩)
  · cases m <;> ((refine Fsp.ofs (nx := 0) mixed Tryd.func22 rfl (by simp [Tryd.f22]) ?_; simp -implicitDefEqProofs only [push_cast, Tryd.f22, Sb.pv, Sb.cs, Sb.mpv, k1, seval])) <;> (exact ⟨_, rfl, by simp [wkL, res2, res1, PV.weak, PV.el]⟩)
set_option maxHeartbeats 8000000 in
theorem feedOk_fs0 (s : Sb) (b : List UInt8) (hc : (s.c == 0 || s.d) = false) (hq : s.q.length ≤ 1000000) (hb : (s.came ++ b).length ≤ 100000000) (R : Sb × List Ot × Int) (hR : feedGo (feedF s) ((s.came ++ b).length + 1) s.own (s.came ++ b) [] = R) (he : R.2.2 = 0) (mm : List (Int × Int)) (hmm : R.1.m = some mm) :
    Fsp Tryd.prog 22 [] 0 [s.pv, .str b] [[.mobj (mkM mm)]] 0 (.tup [.agg (R.1.cs (.sl 1 (ints R.1.q)) (.mref 0)), .sl 6 (oL R.2.1), .int .i64 0]) := by
  have hown := own_fs s hq
  have hc1 : (s.c == 0) = false := by cases h : (s.c == 0) <;> simp [h] at hc ⊢
  have hc2 : s.d = false := by cases h : s.d <;> simp [h] at hc ⊢
  obtain ⟨so, sc, sd, sn, sl, st, sout, scame, q, m⟩ := s
  simp only at hc1 hc2 hb hq
  subst hc2
  cases m with
  | none =>
    simp only [Sb.pv, Sb.cs, Sb.mpv, Sb.mm, Option.getD] at hown
    (refine Fsp.ofs (nx := 0) mixed Tryd.func22 rfl (by simp [Tryd.f22]) ?_; simp -implicitDefEqProofs only [push_cast, Tryd.f22, Sb.pv, Sb.cs, Sb.mpv, hc1, seval])
    refine callE_new hown (by rfl) (by rfl) (by rfl) (by first | decide | simp) (by first | decide | simp) (by rfl) (by simp [tokLt1]) (fun _ => by rfl) (by first | rfl | simp [gdOk, newToks]) ?_
    simp -implicitDefEqProofs only [push_cast, upto, zipB, seval]
    refine ⟨by (simp only [List.length_append] at hb; omega), ?_⟩
    refine loopC_of (α := FdL ⟨so, sc, false, sn, sl, st, sout, scame, q, none⟩ R (scame ++ b).length) FdL.st (fun a => a.r.length) ⟨(scame ++ b).length + 1, Sb.own ⟨so, sc, false, sn, sl, st, sout, scame, q, none⟩, _, scame ++ b, [], rfl, hq, Nat.lt_succ_self _, by simp, hR⟩ ?_ ?_
    · (simp only [FdL.st, Sb.cs, Sb.mpv, sb0, Sb.own, Sb.mm, Option.getD]; exact Wk.at _ _ _ [(0, 0), (1, 4), (2, 60), (3, 56)] [] [50] (by simp) (by simp [wkV, PV.el, PV.weak, PS.get, PS.obj, PS.lv, lkp_hit, lkp_miss, lkp_nil, lko, wkL, wkC, res1, oL, upto, zipB]) (by simp [PS.get, PS.obj, PS.lv, lkp_hit, lkp_miss, lkp_nil, lko, wkL, wkC, PV.weak, wkL, wkC, res1, oL, upto, zipB]))
    · rintro ⟨k, T, tm, r, L, hm, hTq, hr, hL, e⟩
      have hw := whole_fs T r
      have hgt := tellGet_fs T.o r (by simp only [List.length_append] at hb hL; omega)
      have hwd := sbWide_fs T.l (tellG T.o r).1.Q
      have hn := @tellG_n T.o r
      obtain ⟨k, rfl⟩ : ∃ k', k = k' + 1 := ⟨k - 1, by omega⟩
      rw [feedGo] at e
      simp only [tellGR, Ot.pv] at hgt
      generalize (tellG T.o r).1 = x at *
      generalize (tellG T.o r).2.1 = nn at *
      generalize (tellG T.o r).2.2 = er at *
      obtain ⟨y, hy⟩ : ∃ y, wideO T x = y := ⟨_, rfl⟩
      rw [hy] at e
      have hma := may_fs T y tm hm hTq
      have hmq := mayS_q T y
      have hmm' := mayS_m (x := y) hm
      obtain ⟨U, hU⟩ : ∃ U, mayT T y = U := ⟨_, rfl⟩
      rw [hU] at hma
      obtain ⟨mb, hmb⟩ : ∃ mb, mayB T y = mb := ⟨_, rfl⟩
      rw [hmb] at hma e
      rw [mayT, hmb] at hU
      obtain ⟨V, hV⟩ : ∃ V, mayS T y = V := ⟨_, rfl⟩
      rw [hV] at hU e hmq hmm'
      obtain ⟨xk, xc, xq, xN, xB, xL⟩ := x
      obtain ⟨yk, yc, yq, yN, yB, yL⟩ := y
      simp only [wideO, Ot.mk.injEq] at hy
      obtain ⟨rfl, rfl, hyq, rfl, rfl, rfl⟩ := hy
      simp only at hgt hwd
      rw [hyq] at hwd
      obtain ⟨To, Tc, Td, Tn, Tl, Tt, Tout, Tcame, Tq, Tm⟩ := T
      simp only [Sb.cs, Ot.pv] at hw hgt hwd hma hTq hm e hmq hmm'
      simp -implicitDefEqProofs only [push_cast, FdL.st, Sb.cs, Sb.mpv, sb0, seval]
      refine callE_p hw ?_
      simp -implicitDefEqProofs only [push_cast, seval]
      refine condC_split (fun g1 => ?_) (fun g1 => ?_)
      · rw [if_pos g1] at e
        simp -implicitDefEqProofs only [push_cast, seval]
        refine callE_p hgt ?_
        simp -implicitDefEqProofs only [push_cast, seval]
        refine condC_split (fun g2 => ?_) (fun g2 => ?_)
        · have g3 : ¬ er = 0 := by simpa using g2
          rw [if_neg g3] at e
          exfalso; rw [← e] at he; exact g3 he
        · have g3 : er = 0 := by simpa using g2
          subst g3
          rw [if_pos rfl] at e
          obtain ⟨n, rfl, hn1, hn2⟩ := hn rfl
          simp -implicitDefEqProofs only [push_cast, seval]
          refine callE_p hwd ?_
          simp -implicitDefEqProofs only [push_cast, seval]
          refine callE_box hma [2, 3] [] (by rfl) (by rfl) (by rfl) (by rfl) (by rfl) (by rfl) (fun i j cs h1 h2 => by (rcases i with _ | _ | i <;> simp at h1 h2 <;> (subst h1; subst h2; exact ⟨_, rfl, (by (repeat' (first | exact wkL_nil | refine wkL_cons ?_ ?_)); all_goals (first | exact .inl ⟨_, _, _, _, rfl, rfl, rfl⟩ | exact .inr (.inr (.inr (.inr (.inl ⟨_, _, _, rfl, rfl, rfl⟩)))) | exact .inr (.inr (.inr (.inr (.inr (.inl ⟨_, _, _, _, rfl, rfl, rfl⟩))))) | exact .inr (.inr (.inr (.inr (.inr (.inr ⟨_, _, rfl, rfl, rfl⟩))))) | exact .inr (.inl rfl) | exact .inr (.inr (.inl ⟨_, _, _, rfl, rfl, rfl⟩))))⟩))) (by simp [PS.lv, lkp_hit, lkp_miss, lkp_nil]) (by (repeat' (first | exact wkL_nil | refine wkL_cons ?_ ?_)); all_goals (first | exact .inl ⟨_, _, _, rfl, rfl, rfl⟩ | exact .inr (.inl rfl) | exact .inr (.inr (.inl ⟨_, _, _, _, rfl, rfl, rfl⟩)) | exact .inr (.inr (.inr (.inr ⟨_, _, rfl, rfl, rfl⟩))))) (by decide) (by simp) (by rfl) (by simp [tokLt1]) (fun _ => by rfl) (by first | rfl | simp [gdOk, newToks]) ?_
          simp -implicitDefEqProofs only [push_cast, seval]
          refine condC_split (fun g4 => ?_) (fun g4 => ?_)
          · have g5 : mb = false := by simpa using g4
            subst g5
            rw [if_neg Bool.false_ne_true] at e
            exfalso; rw [← e] at he; exact absurd he (by decide : ¬ (9 : Int) = 0)
          · have g5 : mb = true := by simpa using g4
            subst g5
            rw [if_pos rfl] at e hU
            subst hU
            obtain ⟨tm', htm⟩ := hmm'
            have hmq1 := hmq.1
            have hum : V.mm = tm' := by rw [Sb.mm, htm]; rfl
            have hdl : (r.drop n).length = r.length - n := List.length_drop ..
            have hon := oL_sn L ⟨xk, xc, yq, xN, xB, xL⟩
            simp only [Ot.pv] at hon
            rw [show ((n : Int).toNat) = n from rfl] at e
            have hdt : List.take (r.length - n) (List.drop n r) = List.drop n r := List.take_of_length_le (by omega)
            simp -implicitDefEqProofs only [push_cast, hum, hon, hdt, seval]
            simp only [List.length_append] at hb hL
            refine ⟨by rw [oL_length]; omega, by rw [oL_length]; omega, hn2, Nat.le_refl _, ⟨k, V, tm', r.drop n, L ++ [⟨xk, xc, yq, xN, xB, xL⟩], htm, by omega, by omega, by simp only [List.length_append, List.length_cons, List.length_nil]; omega, e⟩, by simp only; omega, ?_⟩
            (simp only [FdL.st, Sb.cs, Sb.mpv, sb0]; exact Wk.at _ _ _ [(0, 0), (1, 1), (2, 2), (3, 3)] [(50, 180)] [] (by simp) (by simp [wkV, PV.el, PV.weak, PS.get, PS.obj, PS.lv, lkp_hit, lkp_miss, lkp_nil, lko, wkL, wkC, res1, ints]) (by simp [PS.get, PS.obj, PS.lv, lkp_hit, lkp_miss, lkp_nil, lko, wkL, wkC, PV.weak, wkL, wkC, res1, ints]))
      · rw [if_neg (by rw [g1]; exact Bool.false_ne_true)] at e
        subst e
        simp only at hmm ⊢
        rw [hm] at hmm
        obtain rfl := Option.some.inj hmm
        simp -implicitDefEqProofs only [push_cast, seval]
        exact endK_box [] [3] rfl rfl (by simp [PS.lv, lkp_hit, lkp_miss, lkp_nil]) rfl rfl (by rfl) (fun i j ps h1 h2 => by (rcases i with _ | i <;> simp at h1 h2 <;> (subst h1; subst h2; exact ⟨_, rfl, (by (repeat' (first | exact wkL_nil | refine wkL_cons ?_ ?_)); all_goals (first | rfl | exact ⟨rfl, rfl⟩ | exact ⟨rfl, rfl, rfl⟩ | exact .inl rfl))⟩))) ⟨by simp [resOk, PS.get, PS.obj, lkp_hit, lkp_miss, lkp_nil, PS.ev, ldPV, ldOk, ofC, ofC1, TK.isAgg, Sb.cs, tk_36, tsz_36], by simp [resPV, PS.get, PS.obj, lkp_hit, lkp_miss, lkp_nil, PS.ev, ldPV, ldOk, ofC, ofC1, TK.isAgg, Sb.cs, tk_36, tsz_36], by simp [resOf, resPV, one', res3, res2, res1, PV.weak, PV.el, wkL, idx, PV.un, PS.get, PS.obj, lkp_hit, lkp_miss, lkp_nil, PS.ev, ldPV, ldOk, ofC, ofC1, TK.isAgg, Sb.cs, tk_36, tsz_36]⟩
  | some m =>
    simp only [Sb.pv, Sb.cs, Sb.mpv, Sb.mm, Option.getD] at hown
    (refine Fsp.ofs (nx := 0) mixed Tryd.func22 rfl (by simp [Tryd.f22]) ?_; simp -implicitDefEqProofs only [push_cast, Tryd.f22, Sb.pv, Sb.cs, Sb.mpv, hc1, seval])
    refine callE_new hown (by rfl) (by rfl) (by rfl) (by first | decide | simp) (by first | decide | simp) (by rfl) (by simp [tokLt1]) (fun _ => by rfl) (by first | rfl | simp [gdOk, newToks]) ?_
    simp -implicitDefEqProofs only [push_cast, upto, zipB, seval]
    refine ⟨by (simp only [List.length_append] at hb; omega), ?_⟩
    refine loopC_of (α := FdL ⟨so, sc, false, sn, sl, st, sout, scame, q, some m⟩ R (scame ++ b).length) FdL.st (fun a => a.r.length) ⟨(scame ++ b).length + 1, Sb.own ⟨so, sc, false, sn, sl, st, sout, scame, q, some m⟩, _, scame ++ b, [], rfl, hq, Nat.lt_succ_self _, by simp, hR⟩ ?_ ?_
    · (simp only [FdL.st, Sb.cs, Sb.mpv, sb0, Sb.own, Sb.mm, Option.getD]; exact Wk.at _ _ _ [(0, 0), (1, 4), (2, 60), (3, 56)] [] [50] (by simp) (by simp [wkV, PV.el, PV.weak, PS.get, PS.obj, PS.lv, lkp_hit, lkp_miss, lkp_nil, lko, wkL, wkC, res1, oL, upto, zipB]) (by simp [PS.get, PS.obj, PS.lv, lkp_hit, lkp_miss, lkp_nil, lko, wkL, wkC, PV.weak, wkL, wkC, res1, oL, upto, zipB]))
    · rintro ⟨k, T, tm, r, L, hm, hTq, hr, hL, e⟩
      have hw := whole_fs T r
      have hgt := tellGet_fs T.o r (by simp only [List.length_append] at hb hL; omega)
      have hwd := sbWide_fs T.l (tellG T.o r).1.Q
      have hn := @tellG_n T.o r
      obtain ⟨k, rfl⟩ : ∃ k', k = k' + 1 := ⟨k - 1, by omega⟩
      rw [feedGo] at e
      simp only [tellGR, Ot.pv] at hgt
      generalize (tellG T.o r).1 = x at *
      generalize (tellG T.o r).2.1 = nn at *
      generalize (tellG T.o r).2.2 = er at *
      obtain ⟨y, hy⟩ : ∃ y, wideO T x = y := ⟨_, rfl⟩
      rw [hy] at e
      have hma := may_fs T y tm hm hTq
      have hmq := mayS_q T y
      have hmm' := mayS_m (x := y) hm
      obtain ⟨U, hU⟩ : ∃ U, mayT T y = U := ⟨_, rfl⟩
      rw [hU] at hma
      obtain ⟨mb, hmb⟩ : ∃ mb, mayB T y = mb := ⟨_, rfl⟩
      rw [hmb] at hma e
      rw [mayT, hmb] at hU
      obtain ⟨V, hV⟩ : ∃ V, mayS T y = V := ⟨_, rfl⟩
      rw [hV] at hU e hmq hmm'
      obtain ⟨xk, xc, xq, xN, xB, xL⟩ := x
      obtain ⟨yk, yc, yq, yN, yB, yL⟩ := y
      simp only [wideO, Ot.mk.injEq] at hy
      obtain ⟨rfl, rfl, hyq, rfl, rfl, rfl⟩ := hy
      simp only at hgt hwd
      rw [hyq] at hwd
      obtain ⟨To, Tc, Td, Tn, Tl, Tt, Tout, Tcame, Tq, Tm⟩ := T
      simp only [Sb.cs, Ot.pv] at hw hgt hwd hma hTq hm e hmq hmm'
      simp -implicitDefEqProofs only [push_cast, FdL.st, Sb.cs, Sb.mpv, sb0, seval]
      refine callE_p hw ?_
      simp -implicitDefEqProofs only [push_cast, seval]
      refine condC_split (fun g1 => ?_) (fun g1 => ?_)
      · rw [if_pos g1] at e
        simp -implicitDefEqProofs only [push_cast, seval]
        refine callE_p hgt ?_
        simp -implicitDefEqProofs only [push_cast, seval]
        refine condC_split (fun g2 => ?_) (fun g2 => ?_)
        · have g3 : ¬ er = 0 := by simpa using g2
          rw [if_neg g3] at e
          exfalso; rw [← e] at he; exact g3 he
        · have g3 : er = 0 := by simpa using g2
          subst g3
          rw [if_pos rfl] at e
          obtain ⟨n, rfl, hn1, hn2⟩ := hn rfl
          simp -implicitDefEqProofs only [push_cast, seval]
          refine callE_p hwd ?_
          simp -implicitDefEqProofs only [push_cast, seval]
          refine callE_box hma [2, 3] [] (by rfl) (by rfl) (by rfl) (by rfl) (by rfl) (by rfl) (fun i j cs h1 h2 => by (rcases i with _ | _ | i <;> simp at h1 h2 <;> (subst h1; subst h2; exact ⟨_, rfl, (by (repeat' (first | exact wkL_nil | refine wkL_cons ?_ ?_)); all_goals (first | exact .inl ⟨_, _, _, _, rfl, rfl, rfl⟩ | exact .inr (.inr (.inr (.inr (.inl ⟨_, _, _, rfl, rfl, rfl⟩)))) | exact .inr (.inr (.inr (.inr (.inr (.inl ⟨_, _, _, _, rfl, rfl, rfl⟩))))) | exact .inr (.inr (.inr (.inr (.inr (.inr ⟨_, _, rfl, rfl, rfl⟩))))) | exact .inr (.inl rfl) | exact .inr (.inr (.inl ⟨_, _, _, rfl, rfl, rfl⟩))))⟩))) (by simp [PS.lv, lkp_hit, lkp_miss, lkp_nil]) (by (repeat' (first | exact wkL_nil | refine wkL_cons ?_ ?_)); all_goals (first | exact .inl ⟨_, _, _, rfl, rfl, rfl⟩ | exact .inr (.inl rfl) | exact .inr (.inr (.inl ⟨_, _, _, _, rfl, rfl, rfl⟩)) | exact .inr (.inr (.inr (.inr ⟨_, _, rfl, rfl, rfl⟩))))) (by decide) (by simp) (by rfl) (by simp [tokLt1]) (fun _ => by rfl) (by first | rfl | simp [gdOk, newToks]) ?_
          simp -implicitDefEqProofs only [push_cast, seval]
          refine condC_split (fun g4 => ?_) (fun g4 => ?_)
          · have g5 : mb = false := by simpa using g4
            subst g5
            rw [if_neg Bool.false_ne_true] at e
            exfalso; rw [← e] at he; exact absurd he (by decide : ¬ (9 : Int) = 0)
          · have g5 : mb = true := by simpa using g4
            subst g5
            rw [if_pos rfl] at e hU
            subst hU
            obtain ⟨tm', htm⟩ := hmm'
            have hmq1 := hmq.1
            have hum : V.mm = tm' := by rw [Sb.mm, htm]; rfl
            have hdl : (r.drop n).length = r.length - n := List.length_drop ..
            have hon := oL_sn L ⟨xk, xc, yq, xN, xB, xL⟩
            simp only [Ot.pv] at hon
            rw [show ((n : Int).toNat) = n from rfl] at e
            have hdt : List.take (r.length - n) (List.drop n r) = List.drop n r := List.take_of_length_le (by omega)
            simp -implicitDefEqProofs only [push_cast, hum, hon, hdt, seval]
            simp only [List.length_append] at hb hL
            refine ⟨by rw [oL_length]; omega, by rw [oL_length]; omega, hn2, Nat.le_refl _, ⟨k, V, tm', r.drop n, L ++ [⟨xk, xc, yq, xN, xB, xL⟩], htm, by omega, by omega, by simp only [List.length_append, List.length_cons, List.length_nil]; omega, e⟩, by simp only; omega, ?_⟩
            (simp only [FdL.st, Sb.cs, Sb.mpv, sb0]; exact Wk.at _ _ _ [(0, 0), (1, 1), (2, 2), (3, 3)] [(50, 180)] [] (by simp) (by simp [wkV, PV.el, PV.weak, PS.get, PS.obj, PS.lv, lkp_hit, lkp_miss, lkp_nil, lko, wkL, wkC, res1, ints]) (by simp [PS.get, PS.obj, PS.lv, lkp_hit, lkp_miss, lkp_nil, lko, wkL, wkC, PV.weak, wkL, wkC, res1, ints]))
      · rw [if_neg (by rw [g1]; exact Bool.false_ne_true)] at e
        subst e
        simp only at hmm ⊢
        rw [hm] at hmm
        obtain rfl := Option.some.inj hmm
        simp -implicitDefEqProofs only [push_cast, seval]
        exact endK_box [] [3] rfl rfl (by simp [PS.lv, lkp_hit, lkp_miss, lkp_nil]) rfl rfl (by rfl) (fun i j ps h1 h2 => by (rcases i with _ | i <;> simp at h1 h2 <;> (subst h1; subst h2; exact ⟨_, rfl, (by (repeat' (first | exact wkL_nil | refine wkL_cons ?_ ?_)); all_goals (first | rfl | exact ⟨rfl, rfl⟩ | exact ⟨rfl, rfl, rfl⟩ | exact .inl rfl))⟩))) ⟨by simp [resOk, PS.get, PS.obj, lkp_hit, lkp_miss, lkp_nil, PS.ev, ldPV, ldOk, ofC, ofC1, TK.isAgg, Sb.cs, tk_36, tsz_36], by simp [resPV, PS.get, PS.obj, lkp_hit, lkp_miss, lkp_nil, PS.ev, ldPV, ldOk, ofC, ofC1, TK.isAgg, Sb.cs, tk_36, tsz_36], by simp [resOf, resPV, one', res3, res2, res1, PV.weak, PV.el, wkL, idx, PV.un, PS.get, PS.obj, lkp_hit, lkp_miss, lkp_nil, PS.ev, ldPV, ldOk, ofC, ofC1, TK.isAgg, Sb.cs, tk_36, tsz_36]⟩
set_option maxHeartbeats 8000000 in
theorem feedBad_fs (s : Sb) (b : List UInt8) (hc : (s.c == 0 || s.d) = false) (hq : s.q.length ≤ 1000000) (hb : (s.came ++ b).length ≤ 100000000) (R : Sb × List Ot × Int) (hR : feedGo (feedF s) ((s.came ++ b).length + 1) s.own (s.came ++ b) [] = R) (he : ¬ R.2.2 = 0) :
    Fsp Tryd.prog 22 [] 0 [s.pv, .str b] [] 0 (.tup [(failS s).pv, .sl 6 [], .int .i64 R.2.2]) := by
  have hown := own_fs s hq
  have hc1 : (s.c == 0) = false := by cases h : (s.c == 0) <;> simp [h] at hc ⊢
  have hc2 : s.d = false := by cases h : s.d <;> simp [h] at hc ⊢
  obtain ⟨so, sc, sd, sn, sl, st, sout, scame, q, m⟩ := s
  simp only at hc1 hc2 hb hq
  subst hc2
  cases m with
  | none =>
    simp only [Sb.pv, Sb.cs, Sb.mpv, Sb.mm, Option.getD] at hown
    (refine Fsp.ofs (nx := 0) mixed Tryd.func22 rfl (by simp [Tryd.f22]) ?_; simp -implicitDefEqProofs only [push_cast, Tryd.f22, Sb.pv, Sb.cs, Sb.mpv, hc1, seval])
    refine callE_new hown (by rfl) (by rfl) (by rfl) (by first | decide | simp) (by first | decide | simp) (by rfl) (by simp [tokLt1]) (fun _ => by rfl) (by first | rfl | simp [gdOk, newToks]) ?_
    simp -implicitDefEqProofs only [push_cast, upto, zipB, seval]
    refine ⟨by (simp only [List.length_append] at hb; omega), ?_⟩
    refine loopC_of (α := FdL ⟨so, sc, false, sn, sl, st, sout, scame, q, none⟩ R (scame ++ b).length) FdL.st (fun a => a.r.length) ⟨(scame ++ b).length + 1, Sb.own ⟨so, sc, false, sn, sl, st, sout, scame, q, none⟩, _, scame ++ b, [], rfl, hq, Nat.lt_succ_self _, by simp, hR⟩ ?_ ?_
    · (simp only [FdL.st, Sb.cs, Sb.mpv, sb0, Sb.own, Sb.mm, Option.getD]; exact Wk.at _ _ _ [(0, 0), (1, 4), (2, 60), (3, 56)] [] [50] (by simp) (by simp [wkV, PV.el, PV.weak, PS.get, PS.obj, PS.lv, lkp_hit, lkp_miss, lkp_nil, lko, wkL, wkC, res1, oL, upto, zipB]) (by simp [PS.get, PS.obj, PS.lv, lkp_hit, lkp_miss, lkp_nil, lko, wkL, wkC, PV.weak, wkL, wkC, res1, oL, upto, zipB]))
    · rintro ⟨k, T, tm, r, L, hm, hTq, hr, hL, e⟩
      have hw := whole_fs T r
      have hgt := tellGet_fs T.o r (by simp only [List.length_append] at hb hL; omega)
      have hwd := sbWide_fs T.l (tellG T.o r).1.Q
      have hn := @tellG_n T.o r
      obtain ⟨k, rfl⟩ : ∃ k', k = k' + 1 := ⟨k - 1, by omega⟩
      rw [feedGo] at e
      simp only [tellGR, Ot.pv] at hgt
      generalize (tellG T.o r).1 = x at *
      generalize (tellG T.o r).2.1 = nn at *
      generalize (tellG T.o r).2.2 = er at *
      obtain ⟨y, hy⟩ : ∃ y, wideO T x = y := ⟨_, rfl⟩
      rw [hy] at e
      have hma := may_fs T y tm hm hTq
      have hmq := mayS_q T y
      have hmm' := mayS_m (x := y) hm
      obtain ⟨U, hU⟩ : ∃ U, mayT T y = U := ⟨_, rfl⟩
      rw [hU] at hma
      obtain ⟨mb, hmb⟩ : ∃ mb, mayB T y = mb := ⟨_, rfl⟩
      rw [hmb] at hma e
      rw [mayT, hmb] at hU
      obtain ⟨V, hV⟩ : ∃ V, mayS T y = V := ⟨_, rfl⟩
      rw [hV] at hU e hmq hmm'
      obtain ⟨xk, xc, xq, xN, xB, xL⟩ := x
      obtain ⟨yk, yc, yq, yN, yB, yL⟩ := y
      simp only [wideO, Ot.mk.injEq] at hy
      obtain ⟨rfl, rfl, hyq, rfl, rfl, rfl⟩ := hy
      simp only at hgt hwd
      rw [hyq] at hwd
      obtain ⟨To, Tc, Td, Tn, Tl, Tt, Tout, Tcame, Tq, Tm⟩ := T
      simp only [Sb.cs, Ot.pv] at hw hgt hwd hma hTq hm e hmq hmm'
      simp -implicitDefEqProofs only [push_cast, FdL.st, Sb.cs, Sb.mpv, sb0, seval]
      refine callE_p hw ?_
      simp -implicitDefEqProofs only [push_cast, seval]
      refine condC_split (fun g1 => ?_) (fun g1 => ?_)
      · rw [if_pos g1] at e
        simp -implicitDefEqProofs only [push_cast, seval]
        refine callE_p hgt ?_
        simp -implicitDefEqProofs only [push_cast, seval]
        refine condC_split (fun g2 => ?_) (fun g2 => ?_)
        · have g3 : ¬ er = 0 := by simpa using g2
          rw [if_neg g3] at e
          have hf := fail_fs ⟨so, sc, false, sn, sl, st, sout, scame, q, none⟩ er
          simp only [failS, Sb.pv, Sb.cs, Sb.mpv] at hf
          subst e
          simp only [feedF, failS, Sb.pv, Sb.cs, Sb.mpv]
          simp -implicitDefEqProofs only [push_cast, seval]
          refine callE_box hf [0] [] (by rfl) (by rfl) (by rfl) (by rfl) (by rfl) (by rfl) (fun i j cs h1 h2 => by (rcases i with _ | i <;> simp at h1 h2 <;> (subst h1; subst h2; exact ⟨_, rfl, (by (repeat' (first | exact wkL_nil | refine wkL_cons ?_ ?_)); all_goals (first | exact .inl ⟨_, _, _, _, rfl, rfl, rfl⟩ | exact .inr (.inr (.inr (.inr (.inl ⟨_, _, _, rfl, rfl, rfl⟩)))) | exact .inr (.inr (.inr (.inr (.inr (.inl ⟨_, _, _, _, rfl, rfl, rfl⟩))))) | exact .inr (.inr (.inr (.inr (.inr (.inr ⟨_, _, rfl, rfl, rfl⟩))))) | exact .inr (.inl rfl) | exact .inr (.inr (.inl ⟨_, _, _, rfl, rfl, rfl⟩))))⟩))) (by simp [PS.lv, lkp_hit, lkp_miss, lkp_nil]) (by (repeat' (first | exact wkL_nil | refine wkL_cons ?_ ?_)); all_goals (first | exact .inl ⟨_, _, _, rfl, rfl, rfl⟩ | exact .inr (.inl rfl) | exact .inr (.inr (.inl ⟨_, _, _, _, rfl, rfl, rfl⟩)) | exact .inr (.inr (.inr (.inr ⟨_, _, rfl, rfl, rfl⟩))))) (by decide) (by simp) (by rfl) (by simp [tokLt1]) (fun _ => by rfl) (by first | rfl | simp [gdOk, newToks]) ?_
          simp -implicitDefEqProofs only [push_cast, seval]
          exact ⟨_, rfl, by simp [wkL, res2, res1, PV.weak, PV.el]⟩
        · have g3 : er = 0 := by simpa using g2
          subst g3
          rw [if_pos rfl] at e
          obtain ⟨n, rfl, hn1, hn2⟩ := hn rfl
          simp -implicitDefEqProofs only [push_cast, seval]
          refine callE_p hwd ?_
          simp -implicitDefEqProofs only [push_cast, seval]
          refine callE_box hma [2, 3] [] (by rfl) (by rfl) (by rfl) (by rfl) (by rfl) (by rfl) (fun i j cs h1 h2 => by (rcases i with _ | _ | i <;> simp at h1 h2 <;> (subst h1; subst h2; exact ⟨_, rfl, (by (repeat' (first | exact wkL_nil | refine wkL_cons ?_ ?_)); all_goals (first | exact .inl ⟨_, _, _, _, rfl, rfl, rfl⟩ | exact .inr (.inr (.inr (.inr (.inl ⟨_, _, _, rfl, rfl, rfl⟩)))) | exact .inr (.inr (.inr (.inr (.inr (.inl ⟨_, _, _, _, rfl, rfl, rfl⟩))))) | exact .inr (.inr (.inr (.inr (.inr (.inr ⟨_, _, rfl, rfl, rfl⟩))))) | exact .inr (.inl rfl) | exact .inr (.inr (.inl ⟨_, _, _, rfl, rfl, rfl⟩))))⟩))) (by simp [PS.lv, lkp_hit, lkp_miss, lkp_nil]) (by (repeat' (first | exact wkL_nil | refine wkL_cons ?_ ?_)); all_goals (first | exact .inl ⟨_, _, _, rfl, rfl, rfl⟩ | exact .inr (.inl rfl) | exact .inr (.inr (.inl ⟨_, _, _, _, rfl, rfl, rfl⟩)) | exact .inr (.inr (.inr (.inr ⟨_, _, rfl, rfl, rfl⟩))))) (by decide) (by simp) (by rfl) (by simp [tokLt1]) (fun _ => by rfl) (by first | rfl | simp [gdOk, newToks]) ?_
          simp -implicitDefEqProofs only [push_cast, seval]
          refine condC_split (fun g4 => ?_) (fun g4 => ?_)
          · have g5 : mb = false := by simpa using g4
            subst g5
            rw [if_neg Bool.false_ne_true] at e
            have hf := fail_fs ⟨so, sc, false, sn, sl, st, sout, scame, q, none⟩ 9
            simp only [failS, Sb.pv, Sb.cs, Sb.mpv] at hf
            subst e
            simp only [feedF, failS, Sb.pv, Sb.cs, Sb.mpv]
            simp -implicitDefEqProofs only [push_cast, seval]
            refine callE_box hf [0] [] (by rfl) (by rfl) (by rfl) (by rfl) (by rfl) (by rfl) (fun i j cs h1 h2 => by (rcases i with _ | i <;> simp at h1 h2 <;> (subst h1; subst h2; exact ⟨_, rfl, (by (repeat' (first | exact wkL_nil | refine wkL_cons ?_ ?_)); all_goals (first | exact .inl ⟨_, _, _, _, rfl, rfl, rfl⟩ | exact .inr (.inr (.inr (.inr (.inl ⟨_, _, _, rfl, rfl, rfl⟩)))) | exact .inr (.inr (.inr (.inr (.inr (.inl ⟨_, _, _, _, rfl, rfl, rfl⟩))))) | exact .inr (.inr (.inr (.inr (.inr (.inr ⟨_, _, rfl, rfl, rfl⟩))))) | exact .inr (.inl rfl) | exact .inr (.inr (.inl ⟨_, _, _, rfl, rfl, rfl⟩))))⟩))) (by simp [PS.lv, lkp_hit, lkp_miss, lkp_nil]) (by (repeat' (first | exact wkL_nil | refine wkL_cons ?_ ?_)); all_goals (first | exact .inl ⟨_, _, _, rfl, rfl, rfl⟩ | exact .inr (.inl rfl) | exact .inr (.inr (.inl ⟨_, _, _, _, rfl, rfl, rfl⟩)) | exact .inr (.inr (.inr (.inr ⟨_, _, rfl, rfl, rfl⟩))))) (by decide) (by simp) (by rfl) (by simp [tokLt1]) (fun _ => by rfl) (by first | rfl | simp [gdOk, newToks]) ?_
            simp -implicitDefEqProofs only [push_cast, seval]
            exact ⟨_, rfl, by simp [wkL, res2, res1, PV.weak, PV.el]⟩
          · have g5 : mb = true := by simpa using g4
            subst g5
            rw [if_pos rfl] at e hU
            subst hU
            obtain ⟨tm', htm⟩ := hmm'
            have hmq1 := hmq.1
            have hum : V.mm = tm' := by rw [Sb.mm, htm]; rfl
            have hdl : (r.drop n).length = r.length - n := List.length_drop ..
            have hon := oL_sn L ⟨xk, xc, yq, xN, xB, xL⟩
            simp only [Ot.pv] at hon
            rw [show ((n : Int).toNat) = n from rfl] at e
            have hdt : List.take (r.length - n) (List.drop n r) = List.drop n r := List.take_of_length_le (by omega)
            simp -implicitDefEqProofs only [push_cast, hum, hon, hdt, seval]
            simp only [List.length_append] at hb hL
            refine ⟨by rw [oL_length]; omega, by rw [oL_length]; omega, hn2, Nat.le_refl _, ⟨k, V, tm', r.drop n, L ++ [⟨xk, xc, yq, xN, xB, xL⟩], htm, by omega, by omega, by simp only [List.length_append, List.length_cons, List.length_nil]; omega, e⟩, by simp only; omega, ?_⟩
            (simp only [FdL.st, Sb.cs, Sb.mpv, sb0]; exact Wk.at _ _ _ [(0, 0), (1, 1), (2, 2), (3, 3)] [(50, 180)] [] (by simp) (by simp [wkV, PV.el, PV.weak, PS.get, PS.obj, PS.lv, lkp_hit, lkp_miss, lkp_nil, lko, wkL, wkC, res1, ints]) (by simp [PS.get, PS.obj, PS.lv, lkp_hit, lkp_miss, lkp_nil, lko, wkL, wkC, PV.weak, wkL, wkC, res1, ints]))
      · rw [if_neg (by rw [g1]; exact Bool.false_ne_true)] at e
        exfalso; rw [← e] at he; exact he rfl
  | some m =>
    simp only [Sb.pv, Sb.cs, Sb.mpv, Sb.mm, Option.getD] at hown
    (refine Fsp.ofs (nx := 0) mixed Tryd.func22 rfl (by simp [Tryd.f22]) ?_; simp -implicitDefEqProofs only [push_cast, Tryd.f22, Sb.pv, Sb.cs, Sb.mpv, hc1, seval])
    refine callE_new hown (by rfl) (by rfl) (by rfl) (by first | decide | simp) (by first | decide | simp) (by rfl) (by simp [tokLt1]) (fun _ => by rfl) (by first | rfl | simp [gdOk, newToks]) ?_
    simp -implicitDefEqProofs only [push_cast, upto, zipB, seval]
    refine ⟨by (simp only [List.length_append] at hb; omega), ?_⟩
    refine loopC_of (α := FdL ⟨so, sc, false, sn, sl, st, sout, scame, q, some m⟩ R (scame ++ b).length) FdL.st (fun a => a.r.length) ⟨(scame ++ b).length + 1, Sb.own ⟨so, sc, false, sn, sl, st, sout, scame, q, some m⟩, _, scame ++ b, [], rfl, hq, Nat.lt_succ_self _, by simp, hR⟩ ?_ ?_
    · (simp only [FdL.st, Sb.cs, Sb.mpv, sb0, Sb.own, Sb.mm, Option.getD]; exact Wk.at _ _ _ [(0, 0), (1, 4), (2, 60), (3, 56)] [] [50] (by simp) (by simp [wkV, PV.el, PV.weak, PS.get, PS.obj, PS.lv, lkp_hit, lkp_miss, lkp_nil, lko, wkL, wkC, res1, oL, upto, zipB]) (by simp [PS.get, PS.obj, PS.lv, lkp_hit, lkp_miss, lkp_nil, lko, wkL, wkC, PV.weak, wkL, wkC, res1, oL, upto, zipB]))
    · rintro ⟨k, T, tm, r, L, hm, hTq, hr, hL, e⟩
      have hw := whole_fs T r
      have hgt := tellGet_fs T.o r (by simp only [List.length_append] at hb hL; omega)
      have hwd := sbWide_fs T.l (tellG T.o r).1.Q
      have hn := @tellG_n T.o r
      obtain ⟨k, rfl⟩ : ∃ k', k = k' + 1 := ⟨k - 1, by omega⟩
      rw [feedGo] at e
      simp only [tellGR, Ot.pv] at hgt
      generalize (tellG T.o r).1 = x at *
      generalize (tellG T.o r).2.1 = nn at *
      generalize (tellG T.o r).2.2 = er at *
      obtain ⟨y, hy⟩ : ∃ y, wideO T x = y := ⟨_, rfl⟩
      rw [hy] at e
      have hma := may_fs T y tm hm hTq
      have hmq := mayS_q T y
      have hmm' := mayS_m (x := y) hm
      obtain ⟨U, hU⟩ : ∃ U, mayT T y = U := ⟨_, rfl⟩
      rw [hU] at hma
      obtain ⟨mb, hmb⟩ : ∃ mb, mayB T y = mb := ⟨_, rfl⟩
      rw [hmb] at hma e
      rw [mayT, hmb] at hU
      obtain ⟨V, hV⟩ : ∃ V, mayS T y = V := ⟨_, rfl⟩
      rw [hV] at hU e hmq hmm'
      obtain ⟨xk, xc, xq, xN, xB, xL⟩ := x
      obtain ⟨yk, yc, yq, yN, yB, yL⟩ := y
      simp only [wideO, Ot.mk.injEq] at hy
      obtain ⟨rfl, rfl, hyq, rfl, rfl, rfl⟩ := hy
      simp only at hgt hwd
      rw [hyq] at hwd
      obtain ⟨To, Tc, Td, Tn, Tl, Tt, Tout, Tcame, Tq, Tm⟩ := T
      simp only [Sb.cs, Ot.pv] at hw hgt hwd hma hTq hm e hmq hmm'
      simp -implicitDefEqProofs only [push_cast, FdL.st, Sb.cs, Sb.mpv, sb0, seval]
      refine callE_p hw ?_
      simp -implicitDefEqProofs only [push_cast, seval]
      refine condC_split (fun g1 => ?_) (fun g1 => ?_)
      · rw [if_pos g1] at e
        simp -implicitDefEqProofs only [push_cast, seval]
        refine callE_p hgt ?_
        simp -implicitDefEqProofs only [push_cast, seval]
        refine condC_split (fun g2 => ?_) (fun g2 => ?_)
        · have g3 : ¬ er = 0 := by simpa using g2
          rw [if_neg g3] at e
          have hf := fail_fs ⟨so, sc, false, sn, sl, st, sout, scame, q, some m⟩ er
          simp only [failS, Sb.pv, Sb.cs, Sb.mpv] at hf
          subst e
          simp only [feedF, failS, Sb.pv, Sb.cs, Sb.mpv]
          simp -implicitDefEqProofs only [push_cast, seval]
          refine callE_box hf [0] [] (by rfl) (by rfl) (by rfl) (by rfl) (by rfl) (by rfl) (fun i j cs h1 h2 => by (rcases i with _ | i <;> simp at h1 h2 <;> (subst h1; subst h2; exact ⟨_, rfl, (by (repeat' (first | exact wkL_nil | refine wkL_cons ?_ ?_)); all_goals (first | exact .inl ⟨_, _, _, _, rfl, rfl, rfl⟩ | exact .inr (.inr (.inr (.inr (.inl ⟨_, _, _, rfl, rfl, rfl⟩)))) | exact .inr (.inr (.inr (.inr (.inr (.inl ⟨_, _, _, _, rfl, rfl, rfl⟩))))) | exact .inr (.inr (.inr (.inr (.inr (.inr ⟨_, _, rfl, rfl, rfl⟩))))) | exact .inr (.inl rfl) | exact .inr (.inr (.inl ⟨_, _, _, rfl, rfl, rfl⟩))))⟩))) (by simp [PS.lv, lkp_hit, lkp_miss, lkp_nil]) (by (repeat' (first | exact wkL_nil | refine wkL_cons ?_ ?_)); all_goals (first | exact .inl ⟨_, _, _, rfl, rfl, rfl⟩ | exact .inr (.inl rfl) | exact .inr (.inr (.inl ⟨_, _, _, _, rfl, rfl, rfl⟩)) | exact .inr (.inr (.inr (.inr ⟨_, _, rfl, rfl, rfl⟩))))) (by decide) (by simp) (by rfl) (by simp [tokLt1]) (fun _ => by rfl) (by first | rfl | simp [gdOk, newToks]) ?_
          simp -implicitDefEqProofs only [push_cast, seval]
          exact ⟨_, rfl, by simp [wkL, res2, res1, PV.weak, PV.el]⟩
        · have g3 : er = 0 := by simpa using g2
          subst g3
          rw [if_pos rfl] at e
          obtain ⟨n, rfl, hn1, hn2⟩ := hn rfl
          simp -implicitDefEqProofs only [push_cast, seval]
          refine callE_p hwd ?_
          simp -implicitDefEqProofs only [push_cast, seval]
          refine callE_box hma [2, 3] [] (by rfl) (by rfl) (by rfl) (by rfl) (by rfl) (by rfl) (fun i j cs h1 h2 => by (rcases i with _ | _ | i <;> simp at h1 h2 <;> (subst h1; subst h2; exact ⟨_, rfl, (by (repeat' (first | exact wkL_nil | refine wkL_cons ?_ ?_)); all_goals (first | exact .inl ⟨_, _, _, _, rfl, rfl, rfl⟩ | exact .inr (.inr (.inr (.inr (.inl ⟨_, _, _, rfl, rfl, rfl⟩)))) | exact .inr (.inr (.inr (.inr (.inr (.inl ⟨_, _, _, _, rfl, rfl, rfl⟩))))) | exact .inr (.inr (.inr (.inr (.inr (.inr ⟨_, _, rfl, rfl, rfl⟩))))) | exact .inr (.inl rfl) | exact .inr (.inr (.inl ⟨_, _, _, rfl, rfl, rfl⟩))))⟩))) (by simp [PS.lv, lkp_hit, lkp_miss, lkp_nil]) (by (repeat' (first | exact wkL_nil | refine wkL_cons ?_ ?_)); all_goals (first | exact .inl ⟨_, _, _, rfl, rfl, rfl⟩ | exact .inr (.inl rfl) | exact .inr (.inr (.inl ⟨_, _, _, _, rfl, rfl, rfl⟩)) | exact .inr (.inr (.inr (.inr ⟨_, _, rfl, rfl, rfl⟩))))) (by decide) (by simp) (by rfl) (by simp [tokLt1]) (fun _ => by rfl) (by first | rfl | simp [gdOk, newToks]) ?_
          simp -implicitDefEqProofs only [push_cast, seval]
          refine condC_split (fun g4 => ?_) (fun g4 => ?_)
          · have g5 : mb = false := by simpa using g4
            subst g5
            rw [if_neg Bool.false_ne_true] at e
            have hf := fail_fs ⟨so, sc, false, sn, sl, st, sout, scame, q, some m⟩ 9
            simp only [failS, Sb.pv, Sb.cs, Sb.mpv] at hf
            subst e
            simp only [feedF, failS, Sb.pv, Sb.cs, Sb.mpv]
            simp -implicitDefEqProofs only [push_cast, seval]
            refine callE_box hf [0] [] (by rfl) (by rfl) (by rfl) (by rfl) (by rfl) (by rfl) (fun i j cs h1 h2 => by (rcases i with _ | i <;> simp at h1 h2 <;> (subst h1; subst h2; exact ⟨_, rfl, (by (repeat' (first | exact wkL_nil | refine wkL_cons ?_ ?_)); all_goals (first | exact .inl ⟨_, _, _, _, rfl, rfl, rfl⟩ | exact .inr (.inr (.inr (.inr (.inl ⟨_, _, _, rfl, rfl, rfl⟩)))) | exact .inr (.inr (.inr (.inr (.inr (.inl ⟨_, _, _, _, rfl, rfl, rfl⟩))))) | exact .inr (.inr (.inr (.inr (.inr (.inr ⟨_, _, rfl, rfl, rfl⟩))))) | exact .inr (.inl rfl) | exact .inr (.inr (.inl ⟨_, _, _, rfl, rfl, rfl⟩))))⟩))) (by simp [PS.lv, lkp_hit, lkp_miss, lkp_nil]) (by (repeat' (first | exact wkL_nil | refine wkL_cons ?_ ?_)); all_goals (first | exact .inl ⟨_, _, _, rfl, rfl, rfl⟩ | exact .inr (.inl rfl) | exact .inr (.inr (.inl ⟨_, _, _, _, rfl, rfl, rfl⟩)) | exact .inr (.inr (.inr (.inr ⟨_, _, rfl, rfl, rfl⟩))))) (by decide) (by simp) (by rfl) (by simp [tokLt1]) (fun _ => by rfl) (by first | rfl | simp [gdOk, newToks]) ?_
            simp -implicitDefEqProofs only [push_cast, seval]
            exact ⟨_, rfl, by simp [wkL, res2, res1, PV.weak, PV.el]⟩
          · have g5 : mb = true := by simpa using g4
            subst g5
            rw [if_pos rfl] at e hU
            subst hU
            obtain ⟨tm', htm⟩ := hmm'
            have hmq1 := hmq.1
            have hum : V.mm = tm' := by rw [Sb.mm, htm]; rfl
            have hdl : (r.drop n).length = r.length - n := List.length_drop ..
            have hon := oL_sn L ⟨xk, xc, yq, xN, xB, xL⟩
            simp only [Ot.pv] at hon
            rw [show ((n : Int).toNat) = n from rfl] at e
            have hdt : List.take (r.length - n) (List.drop n r) = List.drop n r := List.take_of_length_le (by omega)
            simp -implicitDefEqProofs only [push_cast, hum, hon, hdt, seval]
            simp only [List.length_append] at hb hL
            refine ⟨by rw [oL_length]; omega, by rw [oL_length]; omega, hn2, Nat.le_refl _, ⟨k, V, tm', r.drop n, L ++ [⟨xk, xc, yq, xN, xB, xL⟩], htm, by omega, by omega, by simp only [List.length_append, List.length_cons, List.length_nil]; omega, e⟩, by simp only; omega, ?_⟩
            (simp only [FdL.st, Sb.cs, Sb.mpv, sb0]; exact Wk.at _ _ _ [(0, 0), (1, 1), (2, 2), (3, 3)] [(50, 180)] [] (by simp) (by simp [wkV, PV.el, PV.weak, PS.get, PS.obj, PS.lv, lkp_hit, lkp_miss, lkp_nil, lko, wkL, wkC, res1, ints]) (by simp [PS.get, PS.obj, PS.lv, lkp_hit, lkp_miss, lkp_nil, lko, wkL, wkC, PV.weak, wkL, wkC, res1, ints]))
      · rw [if_neg (by rw [g1]; exact Bool.false_ne_true)] at e
        exfalso; rw [← e] at he; exact he rfl
theorem feedGo_m (s : Sb) : ∀ (k : Nat) (T : Sb) (r : List UInt8) (L : List Ot) (mm : List (Int × Int)), T.m = some mm → (feedGo (feedF s) k T r L).2.2 = 0 → (∃ m', (feedGo (feedF s) k T r L).1.m = some m') := by
  intro k
  induction k with
  | zero => intro T r L mm hm _; exact ⟨mm, hm⟩
  | succ k ih =>
    intro T r L mm hm h
    rw [feedGo] at h ⊢
    split
    · rename_i h1
      rw [if_pos h1] at h
      split
      · rename_i h2
        rw [if_pos h2] at h
        split
        · rename_i h3
          rw [if_pos h3] at h
          obtain ⟨m', hm'⟩ := mayS_m (x := wideO T (tellG T.o r).1) hm
          exact ih _ _ _ m' hm' h
        · rename_i h3; rw [if_neg h3] at h; exact absurd h (show ¬ (9 : Int) = 0 by decide)
      · rename_i h2; rw [if_neg h2] at h; exact absurd h h2
    · exact ⟨mm, hm⟩
theorem feedGo_bad (s : Sb) : ∀ (k : Nat) (T : Sb) (r : List UInt8) (L : List Ot), ¬ (feedGo (feedF s) k T r L).2.2 = 0 → feedGo (feedF s) k T r L = feedF s (feedGo (feedF s) k T r L).2.2 := by
  intro k
  induction k with
  | zero => intro T r L h; exact absurd rfl h
  | succ k ih =>
    intro T r L h
    rw [feedGo] at h ⊢
    split
    · rename_i h1
      rw [if_pos h1] at h
      split
      · rename_i h2
        rw [if_pos h2] at h
        split
        · rename_i h3
          rw [if_pos h3] at h
          exact ih _ _ _ h
        · rfl
      · rfl
    · rename_i h1; rw [if_neg h1] at h; exact absurd rfl h
/-- Feed. -/
theorem feed_fs (s : Sb) (b : List UInt8) (hq : s.q.length ≤ 1000000) (hb : (s.came ++ b).length ≤ 100000000) : Fsp Tryd.prog 22 [] 0 [s.pv, .str b] [] 0 (feedR s b) := by
  cases hc : (s.c == 0 || s.d)
  · rw [feedR, feedS, if_neg (by rw [hc]; exact Bool.false_ne_true)]
    by_cases he : (feedGo (feedF s) ((s.came ++ b).length + 1) s.own (s.came ++ b) []).2.2 = 0
    · obtain ⟨mm, hmm⟩ := feedGo_m s _ _ _ _ s.mm rfl he
      have h := (feedOk_fs0 s b hc hq hb _ rfl he mm hmm).freezeM (bs' := []) (Nat.le_refl _)
      rw [he]
      generalize feedGo (feedF s) ((s.came ++ b).length + 1) s.own (s.came ++ b) [] = R at *
      obtain ⟨⟨Ro, Rc, Rd, Rn, Rl, Rt, Rout, Rcame, Rq, Rm⟩, RL, Re⟩ := R
      simp only at hmm
      subst hmm
      exact h
    · have h := feedBad_fs s b hc hq hb _ rfl he
      have hb' := feedGo_bad s _ _ _ _ he
      rw [show (feedGo (feedF s) ((s.came ++ b).length + 1) s.own (s.came ++ b) []).1 = failS s by rw [hb']; rfl, show (feedGo (feedF s) ((s.came ++ b).length + 1) s.own (s.came ++ b) []).2.1 = [] by rw [hb']; rfl]
      exact h
  · rw [feedR, feedS, if_pos hc]
    exact feedDead_fs s b hc

end Go.Proofs.Sh

/- Package stub: what is fed in parts comes as what is fed at once. Plain. -/
set_option maxRecDepth 100000
set_option linter.unusedSimpArgs false
set_option linter.unusedVariables false
namespace Go.Proofs.Sh
open Go.Pv

/-- What comes of bytes: the state, the messages, what is wrong. -/
def go : Nat → Sb → List UInt8 → Sb × List Ot × Int
  | 0, T, r => ({ T with came := r }, [], 0)
  | k + 1, T, r =>
    if wholeS T.o r = true then
      if (tellG T.o r).2.2 = 0 then
        if mayB T (wideO T (tellG T.o r).1) = true then
          ((go k (mayS T (wideO T (tellG T.o r).1)) (r.drop (tellG T.o r).2.1.toNat)).1, wideO T (tellG T.o r).1 :: (go k (mayS T (wideO T (tellG T.o r).1)) (r.drop (tellG T.o r).2.1.toNat)).2.1,
            (go k (mayS T (wideO T (tellG T.o r).1)) (r.drop (tellG T.o r).2.1.toNat)).2.2)
        else (T, [], 9)
      else (T, [], (tellG T.o r).2.2)
    else ({ T with came := r }, [], 0)
theorem feedGo_go (s : Sb) : ∀ (k : Nat) (T : Sb) (r : List UInt8) (L : List Ot), feedGo (feedF s) k T r L = if (go k T r).2.2 = 0 then ((go k T r).1, L ++ (go k T r).2.1, 0) else feedF s (go k T r).2.2 := by
  intro k
  induction k with
  | zero => intro T r L; simp [feedGo, go]
  | succ k ih =>
    intro T r L
    rw [feedGo, go]
    split
    · split
      · split
        · rw [ih]
          simp only [List.append_assoc, List.cons_append, List.nil_append]
        · rfl
      · rename_i h
        rfl
    · simp
/-- Bytes behind play no part for a message that is there. -/
theorem getD_app {s t : List UInt8} {i : Nat} (h : i < s.length) : (s ++ t).getD i 0 = s.getD i 0 := by
  rw [List.getD_eq_getElem?_getD, List.getElem?_append_left h, List.getD_eq_getElem?_getD]
theorem tform_app {s t : List UInt8} (h : 8 ≤ s.length) : tform (s ++ t) = tform s ∧ terr (s ++ t) = terr s := by
  unfold tform terr
  rw [getD_app (by omega), getD_app (by omega)]
  exact ⟨rfl, rfl⟩
theorem words_app {o : Int} {s t : List UInt8} (h : 8 ≤ s.length) : words o (s ++ t) = words o s := by
  unfold words
  rw [List.drop_append_of_le_length (by omega), List.take_append_of_le_length (by simp; omega)]
theorem seqOf_app {o : Int} {s t : List UInt8} (h : 8 ≤ s.length) : seqOf o (s ++ t) = seqOf o s := by
  unfold seqOf
  rw [List.drop_append_of_le_length (by omega), List.take_append_of_le_length (by simp; omega)]
theorem tlenR_app {o : Int} {s t : List UInt8} (h : 8 ≤ s.length) : tlenR o (s ++ t) = tlenR o s := by
  unfold tlenR
  split
  · rw [if_neg (by rw [List.length_append]; omega), if_neg (by omega), (tform_app h).1, (tform_app h).2, words_app h]
  · rfl
theorem wholeS_of {o : Int} {s : List UInt8} (h : wholeS o s = true) : 8 ≤ s.length ∧ ((tlenR o s).2 ≠ 0 ∨ (tlenR o s).1 ≤ (s.length : Int)) := by
  unfold wholeS at h
  simp only [Bool.and_eq_true, Bool.or_eq_true, Bool.not_eq_true', decide_eq_false_iff_not, bne_iff_ne, decide_eq_true_eq] at h
  exact ⟨by omega, h.2⟩
theorem wholeS_app {o : Int} {s t : List UInt8} (h : wholeS o s = true) : wholeS o (s ++ t) = true ∧ tellG o (s ++ t) = tellG o s := by
  obtain ⟨h8, h2⟩ := wholeS_of h
  constructor
  · unfold wholeS
    rw [tlenR_app h8]
    simp only [Bool.and_eq_true, Bool.or_eq_true, Bool.not_eq_true', decide_eq_false_iff_not, bne_iff_ne, decide_eq_true_eq, List.length_append]
    refine ⟨by omega, ?_⟩
    rcases h2 with h2 | h2
    · exact .inl h2
    · exact .inr (by omega)
  · unfold tellG
    rw [tlenR_app h8, (tform_app h8).1, (tform_app h8).2, seqOf_app h8, getD_app (by omega), getD_app (by omega)]
    split
    · rename_i h3
      have h4 := h2.resolve_left (fun h => h h3)
      obtain ⟨-, -, -, he, -, -⟩ := tlen_ok h3
      have h5 : (tlenR o s).1.toNat ≤ s.length := by rw [he] at h4 ⊢; simp only at h4 ⊢; omega
      rw [if_neg (by rw [List.length_append]; omega), if_neg (by omega), List.take_append_of_le_length h5]
    · rfl
theorem mayS_came (s : Sb) (x : Ot) : (mayS s x).came = s.came ∧ (mayS s x).c = s.c ∧ (mayS s x).d = s.d := by
  unfold mayS
  split <;> exact ⟨rfl, rfl, rfl⟩
/-- What came before plays no part. -/
theorem mayS_setcame (s : Sb) (x : Ot) (c : List UInt8) : mayS { s with came := c } x = { mayS s x with came := c } ∧ mayB { s with came := c } x = mayB s x := by
  have e : awd { s with came := c } x = awd s x := rfl
  constructor
  · unfold mayS
    rw [e]
    by_cases h : (awd s x && (x.K == 1 || x.K == 0)) = true
    · rw [if_pos h, if_pos h]; rfl
    · rw [if_neg h, if_neg h]
  · rfl
theorem go_setcame (k : Nat) (T : Sb) (r c : List UInt8) : go (k + 1) { T with came := c } r =
    if wholeS T.o r = true then
      if (tellG T.o r).2.2 = 0 then
        if mayB T (wideO T (tellG T.o r).1) = true then
          ((go k { mayS T (wideO T (tellG T.o r).1) with came := c } (r.drop (tellG T.o r).2.1.toNat)).1, wideO T (tellG T.o r).1 :: (go k { mayS T (wideO T (tellG T.o r).1) with came := c } (r.drop (tellG T.o r).2.1.toNat)).2.1,
            (go k { mayS T (wideO T (tellG T.o r).1) with came := c } (r.drop (tellG T.o r).2.1.toNat)).2.2)
        else ({ T with came := c }, [], 9)
      else ({ T with came := c }, [], (tellG T.o r).2.2)
    else ({ T with came := r }, [], 0) := by
  rw [go, ← (mayS_setcame T (wideO T (tellG T.o r).1) c).1]
  rfl
theorem go_came : ∀ (k : Nat) (T : Sb) (r c : List UInt8), (go k T r).2.2 = 0 → go k { T with came := c } r = go k T r := by
  intro k
  induction k with
  | zero => intro T r c _; rfl
  | succ k ih =>
    intro T r c h
    rw [go] at h
    rw [go_setcame, go]
    split
    · rename_i h1
      rw [if_pos h1] at h
      split
      · rename_i h2
        rw [if_pos h2] at h
        split
        · rename_i h3
          rw [if_pos h3] at h
          rw [ih _ _ c h]
        · rename_i h3; rw [if_neg h3] at h; exact absurd h (show ¬ (9 : Int) = 0 by decide)
      · rename_i h2; rw [if_neg h2] at h; exact absurd h h2
    · rfl
theorem go_came_err : ∀ (k : Nat) (T : Sb) (r c : List UInt8), (go k { T with came := c } r).2.2 = (go k T r).2.2 ∧ (go k { T with came := c } r).2.1 = (go k T r).2.1 := by
  intro k
  induction k with
  | zero => intro T r c; exact ⟨rfl, rfl⟩
  | succ k ih =>
    intro T r c
    rw [go_setcame, go]
    split
    · split
      · split
        · have := ih (mayS T (wideO T (tellG T.o r).1)) (r.drop (tellG T.o r).2.1.toNat) c
          exact ⟨this.1, by simp only; rw [this.2]⟩
        · exact ⟨rfl, rfl⟩
      · exact ⟨rfl, rfl⟩
    · exact ⟨rfl, rfl⟩
/-- How much is done at most plays no part, where it is enough. -/
theorem go_fuel : ∀ (k k' : Nat) (T : Sb) (r : List UInt8), r.length < k → r.length < k' → go k T r = go k' T r := by
  intro k
  induction k with
  | zero => intro k' T r h; omega
  | succ k ih =>
    intro k' T r h h'
    obtain ⟨k', rfl⟩ : ∃ j, k' = j + 1 := ⟨k' - 1, by omega⟩
    rw [go, go]
    split
    · split
      · rename_i h2
        obtain ⟨n, hn, hn1, hn2⟩ := tellG_n h2
        have hl : (r.drop (tellG T.o r).2.1.toNat).length = r.length - n := by rw [hn, List.length_drop]; rfl
        rw [ih k' _ _ (by omega) (by omega)]
      · rfl
    · rfl
/-- More bytes behind. -/
theorem go_app : ∀ (k : Nat) (T : Sb) (r t : List UInt8) (k2 k3 : Nat), r.length < k → (r ++ t).length < k2 → (r ++ t).length < k3 →
    ((go k T r).2.2 = 0 → ((go k T r).1.came ++ t).length ≤ (r ++ t).length ∧ go k2 T (r ++ t) = ((go k3 (go k T r).1 ((go k T r).1.came ++ t)).1, (go k T r).2.1 ++ (go k3 (go k T r).1 ((go k T r).1.came ++ t)).2.1, (go k3 (go k T r).1 ((go k T r).1.came ++ t)).2.2) ∨
      (go k2 T (r ++ t)).2.2 ≠ 0 ∧ (go k T r).2.2 = 0 ∧ (go k2 T (r ++ t)).2.2 = (go k3 (go k T r).1 ((go k T r).1.came ++ t)).2.2 ∧ ((go k T r).1.came ++ t).length ≤ (r ++ t).length) ∧
    (¬ (go k T r).2.2 = 0 → (go k2 T (r ++ t)).2.2 = (go k T r).2.2) := by
  intro k
  induction k with
  | zero => intro T r t k2 k3 h; omega
  | succ k ih =>
    intro T r t k2 k3 h h2 h3
    obtain ⟨k2, rfl⟩ : ∃ j, k2 = j + 1 := ⟨k2 - 1, by omega⟩
    by_cases hw : wholeS T.o r = true
    · obtain ⟨hw2, hg⟩ := wholeS_app (t := t) hw
      rw [go, go, if_pos hw, if_pos hw2, hg]
      by_cases he : (tellG T.o r).2.2 = 0
      · rw [if_pos he, if_pos he]
        obtain ⟨n, hn, hn1, hn2⟩ := tellG_n he
        by_cases hm : mayB T (wideO T (tellG T.o r).1) = true
        · rw [if_pos hm, if_pos hm]
          have hd : (r ++ t).drop (tellG T.o r).2.1.toNat = r.drop n ++ t := by rw [hn]; exact List.drop_append_of_le_length hn2
          have hd2 : r.drop (tellG T.o r).2.1.toNat = r.drop n := by rw [hn]; rfl
          rw [hd, hd2]
          have hl : (r.drop n).length = r.length - n := List.length_drop ..
          obtain ⟨i1, i2⟩ := ih (mayS T (wideO T (tellG T.o r).1)) (r.drop n) t k2 k3 (by omega) (by simp only [List.length_append] at *; omega) (by simp only [List.length_append] at *; omega)
          refine ⟨fun h0 => ?_, fun h0 => i2 h0⟩
          rcases i1 h0 with ⟨j0, j⟩ | ⟨j1, j2, j3, j4⟩
          · refine .inl ⟨by simp only [List.length_append] at *; omega, ?_⟩
            rw [j]; rfl
          · exact .inr ⟨j1, j2, j3, by simp only [List.length_append] at *; omega⟩
        · rw [if_neg hm, if_neg hm]
          exact ⟨fun h0 => absurd h0 (show ¬ (9 : Int) = 0 by decide), fun _ => rfl⟩
      · rw [if_neg he, if_neg he]
        exact ⟨fun h0 => absurd h0 he, fun _ => rfl⟩
    · have e1 : go (k + 1) T r = ({ T with came := r }, [], 0) := by rw [go, if_neg hw]
      rw [e1]
      refine ⟨fun _ => ?_, fun h0 => absurd rfl h0⟩
      simp only [List.nil_append]
      have e2 := go_fuel (k2 + 1) k3 T (r ++ t) h2 h3
      rw [e2]
      by_cases h0 : (go k3 T (r ++ t)).2.2 = 0
      · rw [go_came k3 T (r ++ t) r h0]
        exact .inl ⟨Nat.le_refl _, rfl⟩
      · exact .inr ⟨h0, trivial, (go_came_err k3 T (r ++ t) r).1.symm, Nat.le_refl _⟩
theorem go_keep : ∀ (k : Nat) (T : Sb) (r : List UInt8), (go k T r).1.c = T.c ∧ (go k T r).1.d = T.d ∧ (go k T r).1.o = T.o ∧ (go k T r).1.n = T.n ∧ (go k T r).1.t = T.t ∧ (go k T r).1.out = T.out ∧ (go k T r).1.q.length ≤ T.q.length ∧ (go k T r).2.1.length ≤ k ∧ ((∃ m, T.m = some m) → ∃ m, (go k T r).1.m = some m) := by
  intro k
  induction k with
  | zero => intro T r; exact ⟨rfl, rfl, rfl, rfl, rfl, rfl, Nat.le_refl _, Nat.le_refl _, fun h => h⟩
  | succ k ih =>
    intro T r
    rw [go]
    split
    · split
      · split
        · obtain ⟨a, b, c, d, e, f, g, h, i⟩ := ih (mayS T (wideO T (tellG T.o r).1)) (r.drop (tellG T.o r).2.1.toNat)
          obtain ⟨m1, m2, m3⟩ := mayS_came T (wideO T (tellG T.o r).1)
          obtain ⟨q1, q2⟩ := mayS_q T (wideO T (tellG T.o r).1)
          have q3 : (mayS T (wideO T (tellG T.o r).1)).n = T.n ∧ (mayS T (wideO T (tellG T.o r).1)).t = T.t ∧ (mayS T (wideO T (tellG T.o r).1)).out = T.out := by
            unfold mayS; split <;> exact ⟨rfl, rfl, rfl⟩
          refine ⟨a.trans m2, b.trans m3, c.trans q2, d.trans q3.1, e.trans q3.2.1, f.trans q3.2.2, Nat.le_trans g q1, by simp only [List.length_cons]; omega, fun hm => i ?_⟩
          obtain ⟨m, hm⟩ := hm
          exact mayS_m hm
        · exact ⟨rfl, rfl, rfl, rfl, rfl, rfl, Nat.le_refl _, Nat.zero_le _, fun h => h⟩
      · exact ⟨rfl, rfl, rfl, rfl, rfl, rfl, Nat.le_refl _, Nat.zero_le _, fun h => h⟩
    · exact ⟨rfl, rfl, rfl, rfl, rfl, rfl, Nat.le_refl _, Nat.zero_le _, fun h => h⟩
theorem go_rest : ∀ (k : Nat) (T : Sb) (r : List UInt8), r.length < k → (go k T r).2.2 = 0 → wholeS (go k T r).1.o (go k T r).1.came = false ∧ (go k T r).1.came.length + 8 * (go k T r).2.1.length ≤ r.length := by
  intro k
  induction k with
  | zero => intro T r h; omega
  | succ k ih =>
    intro T r h h0
    rw [go] at h0 ⊢
    split
    · rename_i h1
      rw [if_pos h1] at h0
      split
      · rename_i h2
        rw [if_pos h2] at h0
        split
        · rename_i h3
          rw [if_pos h3] at h0
          obtain ⟨n, hn, hn1, hn2⟩ := tellG_n h2
          have hl : (r.drop (tellG T.o r).2.1.toNat).length = r.length - n := by rw [hn, List.length_drop]; rfl
          obtain ⟨i1, i2⟩ := ih (mayS T (wideO T (tellG T.o r).1)) _ (by omega) h0
          exact ⟨i1, by simp only [List.length_cons]; omega⟩
        · rename_i h3; rw [if_neg h3] at h0; exact absurd h0 (show ¬ (9 : Int) = 0 by decide)
      · rename_i h2; rw [if_neg h2] at h0; exact absurd h0 h2
    · rename_i h1
      exact ⟨by simpa using h1, by simp⟩
/-- A stub that lives. -/
def Sb.Live (s : Sb) : Prop := (s.c == 0 || s.d) = false
theorem feedS_go {s : Sb} (h : s.Live) (b : List UInt8) : feedS s b = if (go ((s.came ++ b).length + 1) s.own (s.came ++ b)).2.2 = 0 then ((go ((s.came ++ b).length + 1) s.own (s.came ++ b)).1, (go ((s.came ++ b).length + 1) s.own (s.came ++ b)).2.1, 0) else feedF s (go ((s.came ++ b).length + 1) s.own (s.came ++ b)).2.2 := by
  unfold Sb.Live at h
  rw [feedS, if_neg (by rw [h]; exact Bool.false_ne_true), feedGo_go]
  rfl
theorem own_own {s : Sb} {m : List (Int × Int)} (h : s.m = some m) : s.own = s := by
  obtain ⟨a, b, c, d, e, f, g, i, j, k⟩ := s
  simp only at h; subst h; rfl
theorem feedS_err {s : Sb} (h : s.Live) {b : List UInt8} (he : ¬ (feedS s b).2.2 = 0) : feedS s b = feedF s (feedS s b).2.2 := by
  rw [feedS_go h] at he ⊢
  split
  · rename_i h0; rw [if_pos h0] at he; exact absurd rfl he
  · rfl
/-- Fed in two parts. -/
theorem feedS_app {s : Sb} (h : s.Live) (b t : List UInt8) :
    ((feedS s b).2.2 = 0 → (feedS s b).1.Live ∧ (feedS s (b ++ t)).2.2 = (feedS (feedS s b).1 t).2.2 ∧ ((feedS s (b ++ t)).2.2 = 0 → feedS s (b ++ t) = ((feedS (feedS s b).1 t).1, (feedS s b).2.1 ++ (feedS (feedS s b).1 t).2.1, 0))) ∧
    (¬ (feedS s b).2.2 = 0 → (feedS s (b ++ t)).2.2 = (feedS s b).2.2) := by
  have hcb : s.came ++ (b ++ t) = (s.came ++ b) ++ t := (List.append_assoc ..).symm
  rw [feedS_go h b, feedS_go h (b ++ t), hcb]
  obtain ⟨g1, g2⟩ := go_app ((s.came ++ b).length + 1) s.own (s.came ++ b) t ((s.came ++ b ++ t).length + 1) ((s.came ++ b ++ t).length + 1) (Nat.lt_succ_self _) (Nat.lt_succ_self _) (Nat.lt_succ_self _)
  obtain ⟨k1, k2, k3, k4, k5, k6, k7, k8, k9⟩ := go_keep ((s.came ++ b).length + 1) s.own (s.came ++ b)
  by_cases h0 : (go ((s.came ++ b).length + 1) s.own (s.came ++ b)).2.2 = 0
  · refine ⟨fun _ => ?_, fun hn => ?_⟩
    · rw [if_pos h0]
      have hlv : (go ((s.came ++ b).length + 1) s.own (s.came ++ b)).1.Live := by
        unfold Sb.Live at h ⊢
        rw [k1, k2]; exact h
      obtain ⟨m, hm⟩ := k9 ⟨_, rfl⟩
      refine ⟨hlv, ?_⟩
      rw [feedS_go hlv t, own_own hm]
      generalize go ((s.came ++ b).length + 1) s.own (s.came ++ b) = R1 at *
      have hfu : ∀ h4 : (R1.1.came ++ t).length ≤ (s.came ++ b ++ t).length, go ((R1.1.came ++ t).length + 1) R1.1 (R1.1.came ++ t) = go ((s.came ++ b ++ t).length + 1) R1.1 (R1.1.came ++ t) := fun h4 => go_fuel _ _ _ _ (Nat.lt_succ_self _) (by omega)
      rcases g1 h0 with ⟨j0, j⟩ | ⟨j1, -, j3, j4⟩
      · rw [hfu j0, j]
        simp only
        generalize go ((s.came ++ b ++ t).length + 1) R1.1 (R1.1.came ++ t) = R2 at *
        by_cases h5 : R2.2.2 = 0
        · rw [if_pos h5, if_pos h5]
          exact ⟨rfl, fun _ => rfl⟩
        · rw [if_neg h5, if_neg h5]
          exact ⟨rfl, fun h6 => absurd h6 h5⟩
      · rw [hfu j4, ← j3, if_neg j1, if_neg j1]
        exact ⟨rfl, fun h6 => absurd h6 j1⟩
    · rw [if_pos h0] at hn; exact absurd rfl hn
  · refine ⟨fun hn => ?_, fun _ => ?_⟩
    · rw [if_neg h0] at hn; exact absurd hn h0
    · rw [if_neg h0, if_neg (by rw [g2 h0]; exact h0), g2 h0]
/-- Nothing more. -/
theorem feedS_nil {s : Sb} (h : s.Live) (hw : wholeS s.o s.came = false) : feedS s [] = (s.own, [], 0) := by
  have e : go (s.came.length + 1) s.own s.came = ({ s.own with came := s.came }, [], 0) := by
    rw [go, if_neg (by show ¬ wholeS s.o s.came = true; rw [hw]; exact Bool.false_ne_true)]
  rw [feedS_go h, List.append_nil, e, if_pos rfl]
  rfl
theorem feedS_ok {s : Sb} (h : s.Live) {b : List UInt8} (h0 : (feedS s b).2.2 = 0) : wholeS (feedS s b).1.o (feedS s b).1.came = false ∧ (feedS s b).1.came.length + 8 * (feedS s b).2.1.length ≤ s.came.length + b.length ∧ (feedS s b).1.q.length ≤ s.q.length ∧ (∃ m, (feedS s b).1.m = some m) := by
  rw [feedS_go h] at h0 ⊢
  split
  · rename_i h1
    obtain ⟨g1, g2⟩ := go_rest _ _ _ (Nat.lt_succ_self _) h1
    obtain ⟨-, -, -, -, -, -, k7, -, k9⟩ := go_keep ((s.came ++ b).length + 1) s.own (s.came ++ b)
    exact ⟨g1, by simpa [List.length_append] using g2, k7, k9 ⟨_, rfl⟩⟩
  · rename_i h1; rw [if_neg h1] at h0; exact absurd h0 h1
end Go.Proofs.Sh

/- Package stub: a stub's map, whatever it is. -/
set_option maxRecDepth 100000
set_option linter.unusedSimpArgs false
set_option linter.unusedVariables false
namespace Go.Proofs.Sh
open Go.Pv
theorem mpv_weak (s : Sb) : s.mpv.weak = s.mpv := by unfold Sb.mpv; cases s.m <;> rfl
theorem mpv_cells (s : Sb) : s.mpv.cells = [s.mpv] := by unfold Sb.mpv; cases s.m <;> rfl
theorem mpv_one (s : Sb) : s.mpv.one = true := by unfold Sb.mpv; cases s.m <;> rfl
theorem mpv_un (s : Sb) : s.mpv.un = s.mpv := by unfold Sb.mpv; cases s.m <;> rfl
theorem mpv_cnd (s : Sb) : s.mpv.cnd = true := by unfold Sb.mpv; cases s.m <;> rfl
theorem mpv_back1 (s : Sb) (β : List Nat) (n m : Nat) : PV.back1 β n m s.mpv = s.mpv := by unfold Sb.mpv; cases s.m <;> rfl
theorem mpv_tok1 (s : Sb) (a b c : Nat) : tokLt1 a b c s.mpv = true := by unfold Sb.mpv; cases s.m <;> rfl
theorem mpv_wkC (s : Sb) (β τ : List (Nat × Nat)) (em : List Nat) : wkC β τ em s.mpv s.mpv = True := by
  unfold Sb.mpv
  cases s.m <;> simp [wkC, PV.weak]
theorem mpv_res1 (s : Sb) (τ γ : List Nat) : res1 τ γ s.mpv s.mpv = True := by
  unfold Sb.mpv
  cases s.m <;> simp [res1, PV.weak]
theorem wkC_int (β τ : List (Nat × Nat)) (em : List Nat) (q : PV) (k : IntKind) (n : Int) : wkC β τ em q (.int k n) = (q.weak = .int k n) := rfl
theorem wkC_str (β τ : List (Nat × Nat)) (em : List Nat) (q : PV) (s : List UInt8) : wkC β τ em q (.str s) = (q.weak = .str s) := rfl
theorem wkC_bool (β τ : List (Nat × Nat)) (em : List Nat) (q : PV) (b : Bool) : wkC β τ em q (.bool b) = (q.weak = .bool b) := rfl
theorem wkC_sl (β τ : List (Nat × Nat)) (em : List Nat) (q : PV) (z : Nat) (l : List PV) : wkC β τ em q (.sl z l) = (q.weak = .sl z l) := rfl
theorem wkC_mpure (β τ : List (Nat × Nat)) (em : List Nat) (q : PV) (l : List (PV × PV)) : wkC β τ em q (.mpure l) = (q.weak = .mpure l) := rfl
theorem wkC_any (β τ : List (Nat × Nat)) (em : List Nat) (q : PV) : wkC β τ em q .any = True := rfl
theorem feedM_fs (s : Sb) (b : List UInt8) (hq : s.q.length ≤ 1000000) (hb : (s.came ++ b).length ≤ 100000000) : Fsp Tryd.prog 22 [] 0 [.agg (s.cs (.sl 1 (ints s.q)) s.mpv.weak), .str b] [] 0 (feedR s b) := by
  rw [mpv_weak]
  exact feed_fs s b hq hb
theorem waitingM_fs (s : Sb) (hq : s.q.length ≤ 1000000) : Fsp Tryd.prog 23 [] 0 [.agg (s.cs (.sl 1 (ints s.q)) s.mpv.weak)] [] 0 (.sl 1 (ints s.q)) := by
  rw [mpv_weak]
  exact waiting_fs s hq
theorem askM_fs (s : Sb) (X : List Rq) (hs : SbOk s) (hX : X.length ≤ 1000000000000000) (hf : ∀ x ∈ X, x.Few) : Fsp Tryd.prog 17 [] 0 [.agg (s.cs (.sl 1 (ints s.q)) s.mpv.weak), .sl 4 (rqL X)] [] 0 (askR s X) := by
  rw [mpv_weak]
  exact ask_fs s X hs hX hf
theorem takeM_fs (s : Sb) : Fsp Tryd.prog 19 [] 0 [.agg (s.cs (.sl 1 (ints s.q)) s.mpv.weak)] [] 0 (.tup [{ s with out := [] }.pv, .str s.out]) := by
  rw [mpv_weak]
  exact take_fs s
theorem sentM_fs (s : Sb) : Fsp Tryd.prog 20 [] 0 [.agg (s.cs (.sl 1 (ints s.q)) s.mpv.weak)] [] 0 (.int .i64 s.n) := by
  rw [mpv_weak]
  exact sent_fs s
end Go.Proofs.Sh

/- Package tell: Same. -/
set_option maxRecDepth 100000
set_option linter.unusedSimpArgs false
set_option linter.unusedVariables false
namespace Go.Proofs.Sh
open Go.Pv

structure SmS (a b : List Int) where
  i : Nat
  hi : i ≤ a.length
  h : ∀ j, j < i → a.getD j 0 = b.getD j 0
theorem sameUp_succ {a b : List Int} {i : Nat} (h : ∀ j, j < i → a.getD j 0 = b.getD j 0) (he : a.getD i 0 = b.getD i 0) : ∀ j, j < i + 1 → a.getD j 0 = b.getD j 0 := fun j hj => by
  rcases Nat.lt_succ_iff_lt_or_eq.1 hj with h1 | rfl
  · exact h j h1
  · exact he
theorem sameUp_all {a b : List Int} (hl : a.length = b.length) (h : ∀ j, j < a.length → a.getD j 0 = b.getD j 0) : a = b := by
  apply List.ext_getElem hl
  intro i h1 h2
  have := h i h1
  rw [List.getD_eq_getElem?_getD, List.getD_eq_getElem?_getD, List.getElem?_eq_getElem h1, List.getElem?_eq_getElem h2] at this
  exact this

def eqRow.st {a b : List Int} (s : SmS a b) : PS := { n := 26, env := [(13, .int .i64 s.i), (12, .int .i64 a.length), (4, .bool false), (0, .sl 1 (ints a)), (1, .sl 1 (ints b))], objs := [], live := [], nxt := 4 }
set_option maxHeartbeats 2000000 in
theorem eqRow_fs (a b : List Int) (ha : a.length ≤ 1000000000000000) (hb : b.length ≤ 1000000000000000) : Fsp Tryd.prog 52 [] 0 [.sl 1 (ints a), .sl 1 (ints b)] [] 0 (.bool (a == b)) := by
  (refine Fsp.ofs (nx := 0) mixed Tryd.func52 rfl (by simp [Tryd.f52]) ?_; simp -implicitDefEqProofs only [push_cast, Tryd.f52, ints_length, seval])
  refine condC_split (fun h2 => ?_) (fun h2 => ?_)
  · have hne : (a == b) = false := by
      rw [beq_eq_false_iff_ne]
      rintro rfl
      simp at h2
    simp -implicitDefEqProofs only [push_cast, ints_length, seval]
    rw [hne]
  have hl : a.length = b.length := by simp at h2; omega
  simp -implicitDefEqProofs only [push_cast, ints_length, seval]
  refine loopC_of (α := SmS a b) eqRow.st (fun s => a.length - s.i) ⟨0, by omega, fun j hj => absurd hj (Nat.not_lt_zero j)⟩ ?_ ?_
  · (simp only [eqRow.st]; exact Wk.at _ _ _ [] [] [] (by simp) (by simp [wkV, PV.el, PV.weak, PS.get, PS.obj, PS.lv, lkp_hit, lkp_miss, lkp_nil, lko]) (by simp [PS.get, PS.obj, PS.lv, lkp_hit, lkp_miss, lkp_nil, lko, wkL, wkC, PV.weak]))
  · rintro ⟨i, hi, hf⟩
    simp -implicitDefEqProofs only [push_cast, eqRow.st, ints_length, seval]
    refine condC_split (fun h3 => ?_) (fun h3 => ?_)
    · have hlt : i < a.length := by simp at h3; omega
      have hg := ints_at hlt
      have hg2 := ints_at (l := b) (i := i) (by omega)
      have hwr : IntKind.i64.wrap ((i : Int) + 1) = ((i + 1 : Nat) : Int) := by (rw [wrap_i64_id (by omega) (by omega)]; rfl)
      simp -implicitDefEqProofs only [push_cast, hg, hg2, ints_length, seval]
      (repeat (first | refine ⟨by omega, ?_⟩ | refine ⟨by (unfold drawOk; kernel_rfl), ?_⟩))
      refine condC_split (fun h4 => ?_) (fun h4 => ?_)
      · have hne : (a == b) = false := by
          rw [beq_eq_false_iff_ne]
          rintro rfl
          simp at h4
        simp -implicitDefEqProofs only [push_cast, ints_length, seval]
        rw [hne]
      · have he : a.getD i 0 = b.getD i 0 := by simpa using h4
        simp -implicitDefEqProofs only [push_cast, ints_length, seval]
        rw [hwr]
        refine ⟨⟨i + 1, by omega, sameUp_succ hf he⟩, by simp only; omega, ?_⟩
        (simp only [eqRow.st]; exact Wk.at _ _ _ [] [] [] (by simp) (by simp [wkV, PV.el, PV.weak, PS.get, PS.obj, PS.lv, lkp_hit, lkp_miss, lkp_nil, lko]) (by simp [PS.get, PS.obj, PS.lv, lkp_hit, lkp_miss, lkp_nil, lko, wkL, wkC, PV.weak]))
    · have hi2 : i = a.length := by simp at h3; omega
      have heq : (a == b) = true := by
        rw [beq_iff_eq]
        exact sameUp_all hl (by rw [hi2] at hf; exact hf)
      simp -implicitDefEqProofs only [push_cast, ints_length, seval]
      rw [heq]

theorem stB_len (o : Int) (s : List UInt8) (b : Bool) (c : Cu) : (stB o s b c).2.1.length ≤ s.length := by
  unfold stB
  split
  · split
    · split
      · simp
      · simp only [List.length_take, List.length_drop]; omega
    · simp
  · simp
theorem stL_len {o : Int} (ho : isOrder o) {s : List UInt8} (hs : s.length ≤ 1000000) {z : Int} (hz : z = 0 ∨ isSize z) (c : Cu) : (stL o s z c).1.length ≤ 1000000 := by
  unfold stL
  split
  · simp
  · rename_i h0
    have hw := wid_pos (hz.resolve_left h0)
    split
    · split
      · simp
      · rename_i h2
        have hn := num4 (o := o) (s := s) ho c
        generalize num o s 4 c = q at *
        obtain ⟨q1, q2⟩ := q
        simp only at hn h2
        obtain ⟨n, rfl⟩ := Int.eq_ofNat_of_zero_le hn.1
        simp only [nums_length, List.length_replicate, Int.toNat_natCast]
        have h3 : (n : Int) * (wid z : Int) = ((n * wid z : Nat) : Int) := by rw [Int.natCast_mul]
        rw [h3] at h2
        have h4 : n * 1 ≤ n * wid z := Nat.mul_le_mul_left _ hw.1
        omega
    · simp
theorem getF_few {o : Int} (ho : isOrder o) {f : Fm} (h : f.Ok) {s : List UInt8} (hs : s.length ≤ 1000000) : (getF o f s).1.N.length ≤ 1000000 ∧ (getF o f s).1.B.length ≤ 1000000 ∧ (getF o f s).1.L.length ≤ 1000000 := by
  have hb : (body o s f ⟨0, 0⟩).1.N.length ≤ 1000000 ∧ (body o s f ⟨0, 0⟩).1.B.length ≤ 1000000 ∧ (body o s f ⟨0, 0⟩).1.L.length ≤ 1000000 := by
    have hn := h.n
    unfold body
    split
    · refine ⟨?_, ?_, ?_⟩
      · simp only [nums_length]; omega
      · exact Nat.le_trans (stB_len o s _ _) hs
      · exact stL_len ho hs h.l _
    · refine ⟨?_, ?_, ?_⟩
      · simp only [nums_length]; omega
      · simp
      · simp
  unfold getF
  split
  · simp [fd0]
  · split
    · exact hb
    · simp [fd0]

def sameO (x y : Ot) : Bool := x.K == y.K && x.C == y.C && x.Q == y.Q && x.N == y.N && x.B == y.B && x.L == y.L
theorem sameO_refl (x : Ot) : sameO x x = true := by simp [sameO]

theorem headOf_fs (x : Ot) : Fsp Tryd.prog 51 [] 0 [x.pv] [] 0 (.agg [.int .i64 x.K, .int .i64 x.C, .int .i64 x.Q]) := by
  (refine Fsp.ofs (nx := 0) mixed Tryd.func51 rfl (by simp [Tryd.f51]) ?_; simp -implicitDefEqProofs only [push_cast, Tryd.f51, Ot.pv, seval])
def fldsH (P : Program) (t : TypeId) : Array Field := match P.underlying t with | some (.struct fs) => fs | _ => #[]
theorem hd_key (a b c : Int) (ha : (Lit.int .i64 a).wf = true) (hb : (Lit.int .i64 b).wf = true) (hc : (Lit.int .i64 c).wf = true) : Tryd.prog.keyLits 12 111 [Value.int .i64 a, Value.int .i64 b, Value.int .i64 c] = some [Lit.int .i64 a, Lit.int .i64 b, Lit.int .i64 c] := by
  have hu : Tryd.prog.underlying 111 = some (.struct (fldsH Tryd.prog 111)) := by kernel_rfl
  have hn : Tryd.prog.cellsOf 111 = 3 := by kernel_rfl
  have hall : (fldsH Tryd.prog 111).all (·.name != "_") = true := by kernel_rfl
  have hm : (fldsH Tryd.prog 111).toList.map (fun f => (f.offset, f.type)) = [(0, 3), (1, 3), (2, 3)] := by kernel_rfl
  have hi : Tryd.prog.underlying 3 = some (.int .i64) := by kernel_rfl
  have h1 : Tryd.prog.cellsOf 3 = 1 := by kernel_rfl
  have one : ∀ n : Int, (Lit.int .i64 n).wf = true → Tryd.prog.keyLits 11 3 [Value.int .i64 n] = some [Lit.int .i64 n] := fun n hw => by
    unfold Program.keyLits
    rw [hi]
    simp [hw]
  unfold Program.keyLits
  rw [hu]
  simp only
  rw [if_pos ⟨by rw [hn]; rfl, hall⟩]
  generalize (fldsH Tryd.prog 111).toList = fs at hm
  have hlen : fs.length = 3 := by simpa using congrArg List.length hm
  match fs, hlen, hm with
  | [f0, f1, f2], _, hm =>
    simp only [List.map_cons, List.map_nil, List.cons.injEq, Prod.mk.injEq, and_true] at hm
    obtain ⟨⟨o0, t0⟩, ⟨o1, t1⟩, o2, t2⟩ := hm
    simp [List.mapM_cons, o0, t0, o1, t1, o2, t2, h1, one a ha, one b hb, one c hc]
theorem hd_eq (a b c d e f : Int) (ha : (Lit.int .i64 a).wf = true) (hb : (Lit.int .i64 b).wf = true) (hc : (Lit.int .i64 c).wf = true) (hd : (Lit.int .i64 d).wf = true) (he : (Lit.int .i64 e).wf = true) (hf : (Lit.int .i64 f).wf = true) : aggEq Tryd.prog 111 [.int .i64 a, .int .i64 b, .int .i64 c] [.int .i64 d, .int .i64 e, .int .i64 f] = some (a == d && (b == e && c == f)) := by
  have h : aggEq Tryd.prog 111 [.int .i64 a, .int .i64 b, .int .i64 c] [.int .i64 d, .int .i64 e, .int .i64 f] = some (litsEq [.int .i64 a, .int .i64 b, .int .i64 c] [.int .i64 d, .int .i64 e, .int .i64 f]) := by
    unfold aggEq
    simp only [List.map_cons, List.map_nil, toV, hd_key a b c ha hb hc, hd_key d e f hd he hf]
    rfl
  rw [h]
  simp [litsEq, litEq]
theorem hd_kt : Tryd.prog.keyTypeAt 12 111 = true := by kernel_rfl
theorem hd_eg : Tryd.prog.eqGuardType Tryd.prog.depth 111 = false := by kernel_rfl
structure Ot.Wf (x : Ot) : Prop where
  k : (Lit.int .i64 x.K).wf = true
  c : (Lit.int .i64 x.C).wf = true
  q : (Lit.int .i64 x.Q).wf = true
set_option maxHeartbeats 4000000 in
theorem tellSame_fs (x y : Ot) (hx : x.Few) (hy : y.Few) (wx : x.Wf) (wy : y.Wf) : Fsp Tryd.prog 24 [] 0 [x.pv, y.pv] [] 0 (.bool (sameO x y)) := by
  have hN := eqRow_fs x.N y.N hx.n hy.n
  have hL := eqRow_fs x.L y.L hx.l hy.l
  have hh1 := headOf_fs x
  have hh2 := headOf_fs y
  simp only [Ot.pv] at hh1 hh2
  have hdeq := hd_eq x.K x.C x.Q y.K y.C y.Q wx.k wx.c wx.q wy.k wy.c wy.q
  have hq : (x.K == y.K && (x.C == y.C && x.Q == y.Q)) = (x.K == y.K && x.C == y.C && x.Q == y.Q) := by
    cases (x.K == y.K) <;> cases (x.C == y.C) <;> cases (x.Q == y.Q) <;> rfl
  cases h0 : (x.K == y.K && x.C == y.C && x.Q == y.Q)
  · rw [h0] at hq
    rw [show sameO x y = false by simp only [sameO, h0, Bool.false_and]]
    (refine Fsp.ofs (nx := 0) mixed Tryd.func24 rfl (by simp [Tryd.f24]) ?_; simp -implicitDefEqProofs only [push_cast, Tryd.f24, Ot.pv, seval])
    refine callE_p hh1 ?_
    simp -implicitDefEqProofs only [push_cast, seval]
    refine callE_p hh2 ?_
    simp -implicitDefEqProofs only [push_cast, hdeq, hd_kt, hd_eg, hq, seval]; (repeat (refine callE_no ?_; simp -implicitDefEqProofs only [push_cast, hdeq, hd_kt, hd_eg, hq, seval]))
    (repeat (first | refine ⟨by omega, ?_⟩ | refine ⟨by (unfold drawOk; kernel_rfl), ?_⟩))
    all_goals (unfold drawOk; kernel_rfl)
  · rw [h0] at hq
    cases h3 : (x.N == y.N)
    · rw [show sameO x y = false by simp only [sameO, h0, h3, Bool.false_and, Bool.true_and]]
      rw [h3] at hN
      (refine Fsp.ofs (nx := 0) mixed Tryd.func24 rfl (by simp [Tryd.f24]) ?_; simp -implicitDefEqProofs only [push_cast, Tryd.f24, Ot.pv, seval])
      refine callE_p hh1 ?_
      simp -implicitDefEqProofs only [push_cast, seval]
      refine callE_p hh2 ?_
      simp -implicitDefEqProofs only [push_cast, hdeq, hd_kt, hd_eg, hq, seval]; (repeat (refine callE_no ?_; simp -implicitDefEqProofs only [push_cast, hdeq, hd_kt, hd_eg, hq, seval]))
      refine callE_p hN ?_
      simp -implicitDefEqProofs only [push_cast, seval]; (repeat (refine callE_no ?_; simp -implicitDefEqProofs only [push_cast, seval]))
      (repeat (first | refine ⟨by omega, ?_⟩ | refine ⟨by (unfold drawOk; kernel_rfl), ?_⟩))
      all_goals (unfold drawOk; kernel_rfl)
    · rw [h3] at hN
      cases h4 : (x.B == y.B)
      · rw [show sameO x y = false by simp only [sameO, h0, h3, h4, Bool.false_and, Bool.true_and]]
        (refine Fsp.ofs (nx := 0) mixed Tryd.func24 rfl (by simp [Tryd.f24]) ?_; simp -implicitDefEqProofs only [push_cast, Tryd.f24, Ot.pv, seval])
        refine callE_p hh1 ?_
        simp -implicitDefEqProofs only [push_cast, seval]
        refine callE_p hh2 ?_
        simp -implicitDefEqProofs only [push_cast, hdeq, hd_kt, hd_eg, hq, seval]; (repeat (refine callE_no ?_; simp -implicitDefEqProofs only [push_cast, hdeq, hd_kt, hd_eg, hq, seval]))
        refine callE_p hN ?_
        simp -implicitDefEqProofs only [push_cast, h4, seval]; (repeat (refine callE_no ?_; simp -implicitDefEqProofs only [push_cast, h4, seval]))
        (repeat (first | refine ⟨by omega, ?_⟩ | refine ⟨by (unfold drawOk; kernel_rfl), ?_⟩))
        all_goals (unfold drawOk; kernel_rfl)
      · rw [show sameO x y = (x.L == y.L) by simp only [sameO, h0, h3, h4, Bool.true_and]]
        (refine Fsp.ofs (nx := 0) mixed Tryd.func24 rfl (by simp [Tryd.f24]) ?_; simp -implicitDefEqProofs only [push_cast, Tryd.f24, Ot.pv, seval])
        refine callE_p hh1 ?_
        simp -implicitDefEqProofs only [push_cast, seval]
        refine callE_p hh2 ?_
        simp -implicitDefEqProofs only [push_cast, hdeq, hd_kt, hd_eg, hq, seval]; (repeat (refine callE_no ?_; simp -implicitDefEqProofs only [push_cast, hdeq, hd_kt, hd_eg, hq, seval]))
        refine callE_p hN ?_
        simp -implicitDefEqProofs only [push_cast, h4, seval]; (repeat (refine callE_no ?_; simp -implicitDefEqProofs only [push_cast, h4, seval]))
        refine callE_p hL ?_
        simp -implicitDefEqProofs only [push_cast, seval]; (repeat (refine callE_no ?_; simp -implicitDefEqProofs only [push_cast, seval]))
        (repeat (first | refine ⟨by omega, ?_⟩ | refine ⟨by (unfold drawOk; kernel_rfl), ?_⟩))
        all_goals (unfold drawOk; kernel_rfl)

end Go.Proofs.Sh

/- Package stub: what messages come are like. Plain. -/
set_option maxRecDepth 100000
set_option linter.unusedSimpArgs false
set_option linter.unusedVariables false
namespace Go.Proofs.Sh
open Go.Pv
structure Ot.Good (x : Ot) : Prop where
  n : x.N.length ≤ 1000000
  b : x.B.length ≤ 1000000
  l : x.L.length ≤ 1000000
  wf : x.Wf
theorem Ot.Good.few {x : Ot} (h : x.Good) : x.Few := ⟨by have := h.n; omega, by have := h.b; omega, by have := h.l; omega⟩
theorem i64_wf {n : Int} (h1 : -9223372036854775808 ≤ n) (h2 : n ≤ 9223372036854775807) : (Lit.int .i64 n).wf = true := by
  simp only [Lit.wf]
  have h3 : IntKind.i64.min = -9223372036854775808 := by decide
  have h4 : IntKind.i64.max = 9223372036854775807 := by decide
  simp [h3, h4, h1, h2]
theorem wideS_bd (l w : Int) : -1 ≤ wideS l w ∧ wideS l w ≤ 1099511700000 := by
  unfold wideS
  split
  · omega
  · rename_i h
    have h := wideB_f (by simpa using h)
    have h2 := wideN_at h
    omega
theorem tellG_good {T : Sb} {r : List UInt8} (hr : r.length ≤ 1000000) (h0 : (tellG T.o r).2.2 = 0) : (wideO T (tellG T.o r).1).Good := by
  unfold tellG at h0 ⊢
  split at h0
  · rename_i h1
    rw [if_pos h1]
    obtain ⟨ho, -, ⟨f, hf⟩, -, -, -⟩ := tlen_ok h1
    split at h0
    · exact absurd h0 (by decide)
    · rename_i h2
      rw [if_neg h2, hf]
      rw [hf] at h0
      simp only at h0 ⊢
      split at h0
      · rename_i h3
        rw [if_pos h3]
        obtain ⟨hok, hk1, hk2, hn1, hn2⟩ := mForm_some hf
        obtain ⟨q1, q2, q3⟩ := getF_few (isOrd_of ho) hok (s := (r.take (tlenR T.o r).1.toNat).drop 8) (by rw [List.length_drop, List.length_take]; omega)
        have hw := wideS_bd T.l (seqOf T.o r : Int)
        exact ⟨q1, q2, q3, ⟨i64_wf (by simp only [wideO]; omega) (by simp only [wideO]; omega), i64_wf (by simp only [wideO]; omega) (by simp only [wideO]; omega), i64_wf (by simp only [wideO]; omega) (by simp only [wideO]; omega)⟩⟩
      · rename_i h3; exact absurd h0 h3
  · rename_i h1; exact absurd h0 h1
theorem go_good : ∀ (k : Nat) (T : Sb) (r : List UInt8), r.length ≤ 1000000 → ∀ x ∈ (go k T r).2.1, x.Good := by
  intro k
  induction k with
  | zero => intro T r _ x hx; cases hx
  | succ k ih =>
    intro T r hr x hx
    rw [go] at hx
    split at hx
    · split at hx
      · rename_i h2
        split at hx
        · rcases List.mem_cons.1 hx with rfl | hx
          · exact tellG_good hr h2
          · exact ih _ _ (by rw [List.length_drop]; omega) x hx
        · cases hx
      · cases hx
    · cases hx
theorem feedS_good {s : Sb} (h : s.Live) {b : List UInt8} (hb : (s.came ++ b).length ≤ 1000000) : ∀ x ∈ (feedS s b).2.1, x.Good := by
  rw [feedS_go h]
  split
  · exact go_good _ _ _ hb
  · intro x hx; cases hx
end Go.Proofs.Sh
