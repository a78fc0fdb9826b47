/- Package format: fits. -/
import Derived.Test.YtafleenajffpkaaDoorPkFmt
set_option maxRecDepth 100000
set_option linter.unusedSimpArgs false
set_option linter.unusedVariables false
namespace Go.Proofs.Sh
open Go.Pv


/-- The numbers of a row are of its form's sizes. -/
def allFit (F N : List Int) (k : Nat) : Bool := (List.range k).all fun i => fitsN (F.getD i 0) (N.getD i 0)
def rowFit (s : Int) (L : List Int) (k : Nat) : Bool := (List.range k).all fun i => fitsN s (L.getD i 0)
theorem all_range_succ {p : Nat → Bool} {k : Nat} : (List.range (k + 1)).all p = ((List.range k).all p && p k) := by rw [List.range_succ, List.all_append]; simp
theorem all_range_false {p : Nat → Bool} {k n : Nat} (h : k < n) (hp : p k = false) : (List.range n).all p = false := by
  rw [List.all_eq_false]
  exact ⟨k, List.mem_range.2 h, by rw [hp]; simp⟩
def fitsE (f : Fm) (x : Fd) : Int :=
  if ((x.N.length : Int) != f.F.length) = true then 14
  else if allFit f.F x.N x.N.length = false then 1
  else if (x.B != [] && !f.B) = true then 14
  else if decide ((65536 : Int) < x.B.length) = true then 4
  else if (decide ((0 : Int) < x.L.length) && f.L == 0) = true then 14
  else if decide ((65536 : Int) < x.L.length) = true then 4
  else if rowFit f.L x.L x.L.length = false then 1
  else 0
structure F1S (f : Fm) (x : Fd) where
  i : Nat
  hi : i ≤ x.N.length
  h : allFit f.F x.N i = true
def F1S.st (o : Int) {f : Fm} {x : Fd} (a : F1S f x) : PS := { n := 89, env := [(25, .int .i64 a.i), (24, .int .i64 x.N.length), (23, .sl 1 (ints x.N)), (0, .int .i64 o), (4, .box 0 0), (5, .box 1 0), (6, .int .i64 0)], objs := [(0, some [.sl 1 (ints f.F), .bool f.B, .int .i64 f.L]), (1, some [.sl 1 (ints x.N), .str x.B, .sl 1 (ints x.L)])], live := [], nxt := 60 }
structure F2S (f : Fm) (x : Fd) where
  i : Nat
  hi : i ≤ x.L.length
  h : rowFit f.L x.L i = true
def F2S.st (o : Int) {f : Fm} {x : Fd} (a : F2S f x) : PS := { n := 89, env := [(73, .int .i64 a.i), (72, .int .i64 x.L.length), (71, .sl 1 (ints x.L)), (0, .int .i64 o), (4, .box 0 0), (5, .box 1 0), (6, .int .i64 0)], objs := [(0, some [.sl 1 (ints f.F), .bool f.B, .int .i64 f.L]), (1, some [.sl 1 (ints x.N), .str x.B, .sl 1 (ints x.L)])], live := [], nxt := 60 }
set_option maxHeartbeats 2000000 in
theorem fits_fs {o : Int} (ho : isOrder o) (f : Fm) (h : f.Ok) (x : Fd) (hx : x.N.length ≤ 1000000) (hx2 : x.L.length ≤ 1000000) : Fsp Tryd.prog 67 [] 0 [.int .i64 o, f.pv, x.pv] [] 0 (.int .i64 (fitsE f x)) := by
  (refine Fsp.of (nx := 0) mixed Tryd.func67 rfl (by decide) (by first | exact Nat.le_refl _ | simp) (by simp [Tryd.f67]) ⟨by decide, by decide⟩ ?_; simp -implicitDefEqProofs only [push_cast, Tryd.f67, Fm.pv, Fd.pv, ints_length, Int.reduceBEq, Int.reduceBNe, Int.reduceEq, Int.reduceNe, Int.reducePow, Nat.reduceAdd, Nat.reduceMul, Nat.reduceSub, Nat.reduceLT, Nat.reduceLeDiff, Nat.reduceEqDiff, Nat.reduceBEq, Int.reduceLT, Int.reduceLE, Int.reduceAdd, Int.reduceSub, Int.reduceMul, Int.reduceToNat, Int.reduceNeg, reduceIte, reduceCtorEq, reduceBEq])
  refine condC_split (fun h2 => ?_) (fun h2 => ?_)
  · rw [fitsE, if_pos h2]
    simp -implicitDefEqProofs only [push_cast, Int.reduceBEq, Int.reduceBNe, Int.reduceEq, Int.reduceNe, Int.reducePow, Nat.reduceAdd, Nat.reduceMul, Nat.reduceSub, Nat.reduceLT, Nat.reduceLeDiff, Nat.reduceEqDiff, Nat.reduceBEq, Int.reduceLT, Int.reduceLE, Int.reduceAdd, Int.reduceSub, Int.reduceMul, Int.reduceToNat, Int.reduceNeg, reduceIte, reduceCtorEq, reduceBEq]
  have hl : x.N.length = f.F.length := by simp at h2; omega
  simp -implicitDefEqProofs only [push_cast, ints_length, Int.reduceBEq, Int.reduceBNe, Int.reduceEq, Int.reduceNe, Int.reducePow, Nat.reduceAdd, Nat.reduceMul, Nat.reduceSub, Nat.reduceLT, Nat.reduceLeDiff, Nat.reduceEqDiff, Nat.reduceBEq, Int.reduceLT, Int.reduceLE, Int.reduceAdd, Int.reduceSub, Int.reduceMul, Int.reduceToNat, Int.reduceNeg, reduceIte, reduceCtorEq, reduceBEq]
  refine loopC_of (α := F1S f x) (F1S.st o) (fun a => x.N.length - a.i) ⟨0, by omega, rfl⟩ ?_ ?_
  · (simp only [F1S.st]; exact Wk.by _ _ _ [(0, 0), (1, 4)] [] [] (by simp) (by simp [wkV, PV.el, PV.weak, PS.get, PS.obj, PS.lv, lkp_hit, lkp_miss, lkp_nil, lko]) (by simp [PS.get, PS.obj, PS.lv, lkp_hit, lkp_miss, lkp_nil, lko, wkL, wkC, PV.weak]) (by simp [PS.get, PS.obj, PS.lv, lkp_hit, lkp_miss, lkp_nil, lko]) (by rfl) (by rfl) (by simp [lko]) (by simp) (by simp) (by simp) (fun i hi => absurd hi (Nat.not_lt_zero i)))
  · rintro ⟨i, hi, hf⟩
    simp -implicitDefEqProofs only [push_cast, F1S.st, Int.reduceBEq, Int.reduceBNe, Int.reduceEq, Int.reduceNe, Int.reducePow, Nat.reduceAdd, Nat.reduceMul, Nat.reduceSub, Nat.reduceLT, Nat.reduceLeDiff, Nat.reduceEqDiff, Nat.reduceBEq, Int.reduceLT, Int.reduceLE, Int.reduceAdd, Int.reduceSub, Int.reduceMul, Int.reduceToNat, Int.reduceNeg, reduceIte, reduceCtorEq, reduceBEq]
    refine condC_split (fun h3 => ?_) (fun h3 => ?_)
    · have hlt : i < x.N.length := by simp at h3; omega
      have hg := ints_at hlt
      have hg2 := ints_at (l := f.F) (i := i) (by omega)
      have hsz : isSize (f.F.getD i 0) := by
        rw [List.getD_eq_getElem?_getD, List.getElem?_eq_getElem (by omega), Option.getD_some]
        exact h.s _ (List.getElem_mem _)
      have hp := put_fs ho hsz (x.N.getD i 0)
      have hwr : IntKind.i64.wrap ((i : Int) + 1) = ((i + 1 : Nat) : Int) := by (rw [wrap_i64_id (by omega) (by omega)]; rfl)
      simp -implicitDefEqProofs only [push_cast, hg, hg2, ints_length, Int.reduceBEq, Int.reduceBNe, Int.reduceEq, Int.reduceNe, Int.reducePow, Nat.reduceAdd, Nat.reduceMul, Nat.reduceSub, Nat.reduceLT, Nat.reduceLeDiff, Nat.reduceEqDiff, Nat.reduceBEq, Int.reduceLT, Int.reduceLE, Int.reduceAdd, Int.reduceSub, Int.reduceMul, Int.reduceToNat, Int.reduceNeg, reduceIte, reduceCtorEq, reduceBEq]
      refine ⟨by omega, by omega, ?_⟩
      refine callE_pure hp (by rfl) (by rfl) (by rfl) (by decide) (by rfl) (fun _ => by rfl) (by first | rfl | simp [gdOk, newToks]) ?_
      simp -implicitDefEqProofs only [push_cast, hg, hg2, ints_length, Int.reduceBEq, Int.reduceBNe, Int.reduceEq, Int.reduceNe, Int.reducePow, Nat.reduceAdd, Nat.reduceMul, Nat.reduceSub, Nat.reduceLT, Nat.reduceLeDiff, Nat.reduceEqDiff, Nat.reduceBEq, Int.reduceLT, Int.reduceLE, Int.reduceAdd, Int.reduceSub, Int.reduceMul, Int.reduceToNat, Int.reduceNeg, reduceIte, reduceCtorEq, reduceBEq]
      have hstep : allFit f.F x.N (i + 1) = (allFit f.F x.N i && fitsN (f.F.getD i 0) (x.N.getD i 0)) := all_range_succ
      refine condC_split (fun h4 => ?_) (fun h4 => ?_)
      · simp -implicitDefEqProofs only [push_cast, Int.reduceBEq, Int.reduceBNe, Int.reduceEq, Int.reduceNe, Int.reducePow, Nat.reduceAdd, Nat.reduceMul, Nat.reduceSub, Nat.reduceLT, Nat.reduceLeDiff, Nat.reduceEqDiff, Nat.reduceBEq, Int.reduceLT, Int.reduceLE, Int.reduceAdd, Int.reduceSub, Int.reduceMul, Int.reduceToNat, Int.reduceNeg, reduceIte, reduceCtorEq, reduceBEq]
        have hff : fitsN (f.F.getD i 0) (x.N.getD i 0) = false := by
          cases hh : fitsN (f.F.getD i 0) (x.N.getD i 0) with
          | false => rfl
          | true => rw [putE, if_pos hh] at h4; exact absurd h4 (by decide)
        rw [fitsE, if_neg (by rw [h2]; simp), if_pos (show allFit f.F x.N x.N.length = false from all_range_false (p := fun i => fitsN (f.F.getD i 0) (x.N.getD i 0)) hlt hff), putE, if_neg (by rw [hff]; simp)]
      · have hff : fitsN (f.F.getD i 0) (x.N.getD i 0) = true := by
          cases hh : fitsN (f.F.getD i 0) (x.N.getD i 0) with
          | true => rfl
          | false => rw [putE, if_neg (by rw [hh]; simp)] at h4; exact absurd h4 (by decide)
        simp -implicitDefEqProofs only [push_cast, Int.reduceBEq, Int.reduceBNe, Int.reduceEq, Int.reduceNe, Int.reducePow, Nat.reduceAdd, Nat.reduceMul, Nat.reduceSub, Nat.reduceLT, Nat.reduceLeDiff, Nat.reduceEqDiff, Nat.reduceBEq, Int.reduceLT, Int.reduceLE, Int.reduceAdd, Int.reduceSub, Int.reduceMul, Int.reduceToNat, Int.reduceNeg, reduceIte, reduceCtorEq, reduceBEq]
        rw [hwr]
        refine ⟨⟨i + 1, by omega, by rw [hstep, hf, hff]; rfl⟩, by simp only; omega, ?_⟩
        (simp only [F1S.st]; exact Wk.by _ _ _ [(0, 0), (1, 1)] [] [] (by simp) (by simp [wkV, PV.el, PV.weak, PS.get, PS.obj, PS.lv, lkp_hit, lkp_miss, lkp_nil, lko]) (by simp [PS.get, PS.obj, PS.lv, lkp_hit, lkp_miss, lkp_nil, lko, wkL, wkC, PV.weak]) (by simp [PS.get, PS.obj, PS.lv, lkp_hit, lkp_miss, lkp_nil, lko]) (by rfl) (by rfl) (by simp [lko]) (by simp) (by simp) (by simp) (fun i hi => absurd hi (Nat.not_lt_zero i)))
    · have hi2 : i = x.N.length := by simp at h3; omega
      have hall : ¬ (allFit f.F x.N x.N.length = false) := by rw [← hi2, hf]; simp
      have h2' : ¬ (((x.N.length : Int) != f.F.length) = true) := by rw [h2]; simp
      cases hB : (x.B != [])
      · have hn1 : ¬ ((x.B != [] && !f.B) = true) := by rw [hB]; simp
        simp -implicitDefEqProofs only [push_cast, hB, ints_length, Int.reduceBEq, Int.reduceBNe, Int.reduceEq, Int.reduceNe, Int.reducePow, Nat.reduceAdd, Nat.reduceMul, Nat.reduceSub, Nat.reduceLT, Nat.reduceLeDiff, Nat.reduceEqDiff, Nat.reduceBEq, Int.reduceLT, Int.reduceLE, Int.reduceAdd, Int.reduceSub, Int.reduceMul, Int.reduceToNat, Int.reduceNeg, reduceIte, reduceCtorEq, reduceBEq]
        refine condC_split (fun h5 => ?_) (fun h5 => ?_)
        · simp -implicitDefEqProofs only [push_cast, ints_length, Int.reduceBEq, Int.reduceBNe, Int.reduceEq, Int.reduceNe, Int.reducePow, Nat.reduceAdd, Nat.reduceMul, Nat.reduceSub, Nat.reduceLT, Nat.reduceLeDiff, Nat.reduceEqDiff, Nat.reduceBEq, Int.reduceLT, Int.reduceLE, Int.reduceAdd, Int.reduceSub, Int.reduceMul, Int.reduceToNat, Int.reduceNeg, reduceIte, reduceCtorEq, reduceBEq]
          rw [fitsE, if_neg h2', if_neg hall, if_neg hn1, if_pos h5]
        have h5' : ¬ (decide ((65536 : Int) < x.B.length) = true) := by rw [h5]; simp
        cases hL : decide ((0 : Int) < x.L.length)
        · have hn2 : ¬ ((decide ((0 : Int) < x.L.length) && f.L == 0) = true) := by rw [hL]; simp
          simp -implicitDefEqProofs only [push_cast, hL, ints_length, Int.reduceBEq, Int.reduceBNe, Int.reduceEq, Int.reduceNe, Int.reducePow, Nat.reduceAdd, Nat.reduceMul, Nat.reduceSub, Nat.reduceLT, Nat.reduceLeDiff, Nat.reduceEqDiff, Nat.reduceBEq, Int.reduceLT, Int.reduceLE, Int.reduceAdd, Int.reduceSub, Int.reduceMul, Int.reduceToNat, Int.reduceNeg, reduceIte, reduceCtorEq, reduceBEq]
          refine condC_split (fun h6 => ?_) (fun h6 => ?_)
          · simp -implicitDefEqProofs only [push_cast, ints_length, Int.reduceBEq, Int.reduceBNe, Int.reduceEq, Int.reduceNe, Int.reducePow, Nat.reduceAdd, Nat.reduceMul, Nat.reduceSub, Nat.reduceLT, Nat.reduceLeDiff, Nat.reduceEqDiff, Nat.reduceBEq, Int.reduceLT, Int.reduceLE, Int.reduceAdd, Int.reduceSub, Int.reduceMul, Int.reduceToNat, Int.reduceNeg, reduceIte, reduceCtorEq, reduceBEq]
            rw [fitsE, if_neg h2', if_neg hall, if_neg hn1, if_neg h5', if_neg hn2, if_pos h6]
          have h6' : ¬ (decide ((65536 : Int) < x.L.length) = true) := by rw [h6]; simp
          simp -implicitDefEqProofs only [push_cast, ints_length, Int.reduceBEq, Int.reduceBNe, Int.reduceEq, Int.reduceNe, Int.reducePow, Nat.reduceAdd, Nat.reduceMul, Nat.reduceSub, Nat.reduceLT, Nat.reduceLeDiff, Nat.reduceEqDiff, Nat.reduceBEq, Int.reduceLT, Int.reduceLE, Int.reduceAdd, Int.reduceSub, Int.reduceMul, Int.reduceToNat, Int.reduceNeg, reduceIte, reduceCtorEq, reduceBEq]
          refine loopC_of (α := F2S f x) (F2S.st o) (fun a => x.L.length - a.i) ⟨0, by omega, rfl⟩ ?_ ?_
          · (simp only [F2S.st]; exact Wk.by _ _ _ [(0, 0), (1, 1)] [] [] (by simp) (by simp [wkV, PV.el, PV.weak, PS.get, PS.obj, PS.lv, lkp_hit, lkp_miss, lkp_nil, lko]) (by simp [PS.get, PS.obj, PS.lv, lkp_hit, lkp_miss, lkp_nil, lko, wkL, wkC, PV.weak]) (by simp [PS.get, PS.obj, PS.lv, lkp_hit, lkp_miss, lkp_nil, lko]) (by rfl) (by rfl) (by simp [lko]) (by simp) (by simp) (by simp) (fun i hi => absurd hi (Nat.not_lt_zero i)))
          · rintro ⟨k, hk, hkf⟩
            simp -implicitDefEqProofs only [push_cast, F2S.st, Int.reduceBEq, Int.reduceBNe, Int.reduceEq, Int.reduceNe, Int.reducePow, Nat.reduceAdd, Nat.reduceMul, Nat.reduceSub, Nat.reduceLT, Nat.reduceLeDiff, Nat.reduceEqDiff, Nat.reduceBEq, Int.reduceLT, Int.reduceLE, Int.reduceAdd, Int.reduceSub, Int.reduceMul, Int.reduceToNat, Int.reduceNeg, reduceIte, reduceCtorEq, reduceBEq]
            refine condC_split (fun h7 => ?_) (fun h7 => ?_)
            · have hlt : k < x.L.length := by simp at h7; omega
              have hg := ints_at hlt
              have hsz : isSize f.L := by
                rcases h.l with e | e
                · exact absurd (show (decide ((0 : Int) < x.L.length) && f.L == 0) = true by rw [e]; simp; omega) hn2
                · exact e
              have hp := put_fs ho hsz (x.L.getD k 0)
              have hwr : IntKind.i64.wrap ((k : Int) + 1) = ((k + 1 : Nat) : Int) := by (rw [wrap_i64_id (by omega) (by omega)]; rfl)
              simp -implicitDefEqProofs only [push_cast, hg, ints_length, Int.reduceBEq, Int.reduceBNe, Int.reduceEq, Int.reduceNe, Int.reducePow, Nat.reduceAdd, Nat.reduceMul, Nat.reduceSub, Nat.reduceLT, Nat.reduceLeDiff, Nat.reduceEqDiff, Nat.reduceBEq, Int.reduceLT, Int.reduceLE, Int.reduceAdd, Int.reduceSub, Int.reduceMul, Int.reduceToNat, Int.reduceNeg, reduceIte, reduceCtorEq, reduceBEq]
              refine ⟨by omega, ?_⟩
              refine callE_pure hp (by rfl) (by rfl) (by rfl) (by decide) (by rfl) (fun _ => by rfl) (by first | rfl | simp [gdOk, newToks]) ?_
              simp -implicitDefEqProofs only [push_cast, hg, ints_length, Int.reduceBEq, Int.reduceBNe, Int.reduceEq, Int.reduceNe, Int.reducePow, Nat.reduceAdd, Nat.reduceMul, Nat.reduceSub, Nat.reduceLT, Nat.reduceLeDiff, Nat.reduceEqDiff, Nat.reduceBEq, Int.reduceLT, Int.reduceLE, Int.reduceAdd, Int.reduceSub, Int.reduceMul, Int.reduceToNat, Int.reduceNeg, reduceIte, reduceCtorEq, reduceBEq]
              have hstep : rowFit f.L x.L (k + 1) = (rowFit f.L x.L k && fitsN f.L (x.L.getD k 0)) := all_range_succ
              refine condC_split (fun h8 => ?_) (fun h8 => ?_)
              · simp -implicitDefEqProofs only [push_cast, Int.reduceBEq, Int.reduceBNe, Int.reduceEq, Int.reduceNe, Int.reducePow, Nat.reduceAdd, Nat.reduceMul, Nat.reduceSub, Nat.reduceLT, Nat.reduceLeDiff, Nat.reduceEqDiff, Nat.reduceBEq, Int.reduceLT, Int.reduceLE, Int.reduceAdd, Int.reduceSub, Int.reduceMul, Int.reduceToNat, Int.reduceNeg, reduceIte, reduceCtorEq, reduceBEq]
                have hff : fitsN f.L (x.L.getD k 0) = false := by
                  cases hh : fitsN f.L (x.L.getD k 0) with
                  | false => rfl
                  | true => rw [putE, if_pos hh] at h8; exact absurd h8 (by decide)
                rw [fitsE, if_neg h2', if_neg hall, if_neg hn1, if_neg h5', if_neg hn2, if_neg h6', if_pos (show rowFit f.L x.L x.L.length = false from all_range_false (p := fun i => fitsN f.L (x.L.getD i 0)) hlt hff), putE, if_neg (by rw [hff]; simp)]
              · have hff : fitsN f.L (x.L.getD k 0) = true := by
                  cases hh : fitsN f.L (x.L.getD k 0) with
                  | true => rfl
                  | false => rw [putE, if_neg (by rw [hh]; simp)] at h8; exact absurd h8 (by decide)
                simp -implicitDefEqProofs only [push_cast, Int.reduceBEq, Int.reduceBNe, Int.reduceEq, Int.reduceNe, Int.reducePow, Nat.reduceAdd, Nat.reduceMul, Nat.reduceSub, Nat.reduceLT, Nat.reduceLeDiff, Nat.reduceEqDiff, Nat.reduceBEq, Int.reduceLT, Int.reduceLE, Int.reduceAdd, Int.reduceSub, Int.reduceMul, Int.reduceToNat, Int.reduceNeg, reduceIte, reduceCtorEq, reduceBEq]
                rw [hwr]
                refine ⟨⟨k + 1, by omega, by rw [hstep, hkf, hff]; rfl⟩, by simp only; omega, ?_⟩
                (simp only [F2S.st]; exact Wk.by _ _ _ [(0, 0), (1, 1)] [] [] (by simp) (by simp [wkV, PV.el, PV.weak, PS.get, PS.obj, PS.lv, lkp_hit, lkp_miss, lkp_nil, lko]) (by simp [PS.get, PS.obj, PS.lv, lkp_hit, lkp_miss, lkp_nil, lko, wkL, wkC, PV.weak]) (by simp [PS.get, PS.obj, PS.lv, lkp_hit, lkp_miss, lkp_nil, lko]) (by rfl) (by rfl) (by simp [lko]) (by simp) (by simp) (by simp) (fun i hi => absurd hi (Nat.not_lt_zero i)))
            · have hk2 : k = x.L.length := by simp at h7; omega
              have hall2 : ¬ (rowFit f.L x.L x.L.length = false) := by rw [← hk2, hkf]; simp
              simp -implicitDefEqProofs only [push_cast, Int.reduceBEq, Int.reduceBNe, Int.reduceEq, Int.reduceNe, Int.reducePow, Nat.reduceAdd, Nat.reduceMul, Nat.reduceSub, Nat.reduceLT, Nat.reduceLeDiff, Nat.reduceEqDiff, Nat.reduceBEq, Int.reduceLT, Int.reduceLE, Int.reduceAdd, Int.reduceSub, Int.reduceMul, Int.reduceToNat, Int.reduceNeg, reduceIte, reduceCtorEq, reduceBEq]
              rw [fitsE, if_neg h2', if_neg hall, if_neg hn1, if_neg h5', if_neg hn2, if_neg h6', if_neg hall2]
        · cases hL0 : (f.L == 0)
          · have hn2 : ¬ ((decide ((0 : Int) < x.L.length) && f.L == 0) = true) := by rw [hL0]; simp
            simp -implicitDefEqProofs only [push_cast, hL, hL0, ints_length, Int.reduceBEq, Int.reduceBNe, Int.reduceEq, Int.reduceNe, Int.reducePow, Nat.reduceAdd, Nat.reduceMul, Nat.reduceSub, Nat.reduceLT, Nat.reduceLeDiff, Nat.reduceEqDiff, Nat.reduceBEq, Int.reduceLT, Int.reduceLE, Int.reduceAdd, Int.reduceSub, Int.reduceMul, Int.reduceToNat, Int.reduceNeg, reduceIte, reduceCtorEq, reduceBEq]
            refine condC_split (fun h6 => ?_) (fun h6 => ?_)
            · simp -implicitDefEqProofs only [push_cast, ints_length, Int.reduceBEq, Int.reduceBNe, Int.reduceEq, Int.reduceNe, Int.reducePow, Nat.reduceAdd, Nat.reduceMul, Nat.reduceSub, Nat.reduceLT, Nat.reduceLeDiff, Nat.reduceEqDiff, Nat.reduceBEq, Int.reduceLT, Int.reduceLE, Int.reduceAdd, Int.reduceSub, Int.reduceMul, Int.reduceToNat, Int.reduceNeg, reduceIte, reduceCtorEq, reduceBEq]
              rw [fitsE, if_neg h2', if_neg hall, if_neg hn1, if_neg h5', if_neg hn2, if_pos h6]
            have h6' : ¬ (decide ((65536 : Int) < x.L.length) = true) := by rw [h6]; simp
            simp -implicitDefEqProofs only [push_cast, ints_length, Int.reduceBEq, Int.reduceBNe, Int.reduceEq, Int.reduceNe, Int.reducePow, Nat.reduceAdd, Nat.reduceMul, Nat.reduceSub, Nat.reduceLT, Nat.reduceLeDiff, Nat.reduceEqDiff, Nat.reduceBEq, Int.reduceLT, Int.reduceLE, Int.reduceAdd, Int.reduceSub, Int.reduceMul, Int.reduceToNat, Int.reduceNeg, reduceIte, reduceCtorEq, reduceBEq]
            refine loopC_of (α := F2S f x) (F2S.st o) (fun a => x.L.length - a.i) ⟨0, by omega, rfl⟩ ?_ ?_
            · (simp only [F2S.st]; exact Wk.by _ _ _ [(0, 0), (1, 1)] [] [] (by simp) (by simp [wkV, PV.el, PV.weak, PS.get, PS.obj, PS.lv, lkp_hit, lkp_miss, lkp_nil, lko]) (by simp [PS.get, PS.obj, PS.lv, lkp_hit, lkp_miss, lkp_nil, lko, wkL, wkC, PV.weak]) (by simp [PS.get, PS.obj, PS.lv, lkp_hit, lkp_miss, lkp_nil, lko]) (by rfl) (by rfl) (by simp [lko]) (by simp) (by simp) (by simp) (fun i hi => absurd hi (Nat.not_lt_zero i)))
            · rintro ⟨k, hk, hkf⟩
              simp -implicitDefEqProofs only [push_cast, F2S.st, Int.reduceBEq, Int.reduceBNe, Int.reduceEq, Int.reduceNe, Int.reducePow, Nat.reduceAdd, Nat.reduceMul, Nat.reduceSub, Nat.reduceLT, Nat.reduceLeDiff, Nat.reduceEqDiff, Nat.reduceBEq, Int.reduceLT, Int.reduceLE, Int.reduceAdd, Int.reduceSub, Int.reduceMul, Int.reduceToNat, Int.reduceNeg, reduceIte, reduceCtorEq, reduceBEq]
              refine condC_split (fun h7 => ?_) (fun h7 => ?_)
              · have hlt : k < x.L.length := by simp at h7; omega
                have hg := ints_at hlt
                have hsz : isSize f.L := by
                  rcases h.l with e | e
                  · exact absurd (show (decide ((0 : Int) < x.L.length) && f.L == 0) = true by rw [e]; simp; omega) hn2
                  · exact e
                have hp := put_fs ho hsz (x.L.getD k 0)
                have hwr : IntKind.i64.wrap ((k : Int) + 1) = ((k + 1 : Nat) : Int) := by (rw [wrap_i64_id (by omega) (by omega)]; rfl)
                simp -implicitDefEqProofs only [push_cast, hg, ints_length, Int.reduceBEq, Int.reduceBNe, Int.reduceEq, Int.reduceNe, Int.reducePow, Nat.reduceAdd, Nat.reduceMul, Nat.reduceSub, Nat.reduceLT, Nat.reduceLeDiff, Nat.reduceEqDiff, Nat.reduceBEq, Int.reduceLT, Int.reduceLE, Int.reduceAdd, Int.reduceSub, Int.reduceMul, Int.reduceToNat, Int.reduceNeg, reduceIte, reduceCtorEq, reduceBEq]
                refine ⟨by omega, ?_⟩
                refine callE_pure hp (by rfl) (by rfl) (by rfl) (by decide) (by rfl) (fun _ => by rfl) (by first | rfl | simp [gdOk, newToks]) ?_
                simp -implicitDefEqProofs only [push_cast, hg, ints_length, Int.reduceBEq, Int.reduceBNe, Int.reduceEq, Int.reduceNe, Int.reducePow, Nat.reduceAdd, Nat.reduceMul, Nat.reduceSub, Nat.reduceLT, Nat.reduceLeDiff, Nat.reduceEqDiff, Nat.reduceBEq, Int.reduceLT, Int.reduceLE, Int.reduceAdd, Int.reduceSub, Int.reduceMul, Int.reduceToNat, Int.reduceNeg, reduceIte, reduceCtorEq, reduceBEq]
                have hstep : rowFit f.L x.L (k + 1) = (rowFit f.L x.L k && fitsN f.L (x.L.getD k 0)) := all_range_succ
                refine condC_split (fun h8 => ?_) (fun h8 => ?_)
                · simp -implicitDefEqProofs only [push_cast, Int.reduceBEq, Int.reduceBNe, Int.reduceEq, Int.reduceNe, Int.reducePow, Nat.reduceAdd, Nat.reduceMul, Nat.reduceSub, Nat.reduceLT, Nat.reduceLeDiff, Nat.reduceEqDiff, Nat.reduceBEq, Int.reduceLT, Int.reduceLE, Int.reduceAdd, Int.reduceSub, Int.reduceMul, Int.reduceToNat, Int.reduceNeg, reduceIte, reduceCtorEq, reduceBEq]
                  have hff : fitsN f.L (x.L.getD k 0) = false := by
                    cases hh : fitsN f.L (x.L.getD k 0) with
                    | false => rfl
                    | true => rw [putE, if_pos hh] at h8; exact absurd h8 (by decide)
                  rw [fitsE, if_neg h2', if_neg hall, if_neg hn1, if_neg h5', if_neg hn2, if_neg h6', if_pos (show rowFit f.L x.L x.L.length = false from all_range_false (p := fun i => fitsN f.L (x.L.getD i 0)) hlt hff), putE, if_neg (by rw [hff]; simp)]
                · have hff : fitsN f.L (x.L.getD k 0) = true := by
                    cases hh : fitsN f.L (x.L.getD k 0) with
                    | true => rfl
                    | false => rw [putE, if_neg (by rw [hh]; simp)] at h8; exact absurd h8 (by decide)
                  simp -implicitDefEqProofs only [push_cast, Int.reduceBEq, Int.reduceBNe, Int.reduceEq, Int.reduceNe, Int.reducePow, Nat.reduceAdd, Nat.reduceMul, Nat.reduceSub, Nat.reduceLT, Nat.reduceLeDiff, Nat.reduceEqDiff, Nat.reduceBEq, Int.reduceLT, Int.reduceLE, Int.reduceAdd, Int.reduceSub, Int.reduceMul, Int.reduceToNat, Int.reduceNeg, reduceIte, reduceCtorEq, reduceBEq]
                  rw [hwr]
                  refine ⟨⟨k + 1, by omega, by rw [hstep, hkf, hff]; rfl⟩, by simp only; omega, ?_⟩
                  (simp only [F2S.st]; exact Wk.by _ _ _ [(0, 0), (1, 1)] [] [] (by simp) (by simp [wkV, PV.el, PV.weak, PS.get, PS.obj, PS.lv, lkp_hit, lkp_miss, lkp_nil, lko]) (by simp [PS.get, PS.obj, PS.lv, lkp_hit, lkp_miss, lkp_nil, lko, wkL, wkC, PV.weak]) (by simp [PS.get, PS.obj, PS.lv, lkp_hit, lkp_miss, lkp_nil, lko]) (by rfl) (by rfl) (by simp [lko]) (by simp) (by simp) (by simp) (fun i hi => absurd hi (Nat.not_lt_zero i)))
              · have hk2 : k = x.L.length := by simp at h7; omega
                have hall2 : ¬ (rowFit f.L x.L x.L.length = false) := by rw [← hk2, hkf]; simp
                simp -implicitDefEqProofs only [push_cast, Int.reduceBEq, Int.reduceBNe, Int.reduceEq, Int.reduceNe, Int.reducePow, Nat.reduceAdd, Nat.reduceMul, Nat.reduceSub, Nat.reduceLT, Nat.reduceLeDiff, Nat.reduceEqDiff, Nat.reduceBEq, Int.reduceLT, Int.reduceLE, Int.reduceAdd, Int.reduceSub, Int.reduceMul, Int.reduceToNat, Int.reduceNeg, reduceIte, reduceCtorEq, reduceBEq]
                rw [fitsE, if_neg h2', if_neg hall, if_neg hn1, if_neg h5', if_neg hn2, if_neg h6', if_neg hall2]
          · simp -implicitDefEqProofs only [push_cast, hL, hL0, ints_length, Int.reduceBEq, Int.reduceBNe, Int.reduceEq, Int.reduceNe, Int.reducePow, Nat.reduceAdd, Nat.reduceMul, Nat.reduceSub, Nat.reduceLT, Nat.reduceLeDiff, Nat.reduceEqDiff, Nat.reduceBEq, Int.reduceLT, Int.reduceLE, Int.reduceAdd, Int.reduceSub, Int.reduceMul, Int.reduceToNat, Int.reduceNeg, reduceIte, reduceCtorEq, reduceBEq]
            rw [fitsE, if_neg h2', if_neg hall, if_neg hn1, if_neg h5', if_pos (by rw [hL, hL0]; rfl)]
      · cases hfB : f.B
        · simp -implicitDefEqProofs only [push_cast, hB, hfB, ints_length, Int.reduceBEq, Int.reduceBNe, Int.reduceEq, Int.reduceNe, Int.reducePow, Nat.reduceAdd, Nat.reduceMul, Nat.reduceSub, Nat.reduceLT, Nat.reduceLeDiff, Nat.reduceEqDiff, Nat.reduceBEq, Int.reduceLT, Int.reduceLE, Int.reduceAdd, Int.reduceSub, Int.reduceMul, Int.reduceToNat, Int.reduceNeg, reduceIte, reduceCtorEq, reduceBEq]
          simp [fitsE, h2, hall, hB, hfB]
        · have hn1 : ¬ ((x.B != [] && !f.B) = true) := by rw [hfB]; simp
          simp -implicitDefEqProofs only [push_cast, hB, hfB, ints_length, Int.reduceBEq, Int.reduceBNe, Int.reduceEq, Int.reduceNe, Int.reducePow, Nat.reduceAdd, Nat.reduceMul, Nat.reduceSub, Nat.reduceLT, Nat.reduceLeDiff, Nat.reduceEqDiff, Nat.reduceBEq, Int.reduceLT, Int.reduceLE, Int.reduceAdd, Int.reduceSub, Int.reduceMul, Int.reduceToNat, Int.reduceNeg, reduceIte, reduceCtorEq, reduceBEq]
          refine condC_split (fun h5 => ?_) (fun h5 => ?_)
          · simp -implicitDefEqProofs only [push_cast, ints_length, Int.reduceBEq, Int.reduceBNe, Int.reduceEq, Int.reduceNe, Int.reducePow, Nat.reduceAdd, Nat.reduceMul, Nat.reduceSub, Nat.reduceLT, Nat.reduceLeDiff, Nat.reduceEqDiff, Nat.reduceBEq, Int.reduceLT, Int.reduceLE, Int.reduceAdd, Int.reduceSub, Int.reduceMul, Int.reduceToNat, Int.reduceNeg, reduceIte, reduceCtorEq, reduceBEq]
            rw [fitsE, if_neg h2', if_neg hall, if_neg hn1, if_pos h5]
          have h5' : ¬ (decide ((65536 : Int) < x.B.length) = true) := by rw [h5]; simp
          cases hL : decide ((0 : Int) < x.L.length)
          · have hn2 : ¬ ((decide ((0 : Int) < x.L.length) && f.L == 0) = true) := by rw [hL]; simp
            simp -implicitDefEqProofs only [push_cast, hL, ints_length, Int.reduceBEq, Int.reduceBNe, Int.reduceEq, Int.reduceNe, Int.reducePow, Nat.reduceAdd, Nat.reduceMul, Nat.reduceSub, Nat.reduceLT, Nat.reduceLeDiff, Nat.reduceEqDiff, Nat.reduceBEq, Int.reduceLT, Int.reduceLE, Int.reduceAdd, Int.reduceSub, Int.reduceMul, Int.reduceToNat, Int.reduceNeg, reduceIte, reduceCtorEq, reduceBEq]
            refine condC_split (fun h6 => ?_) (fun h6 => ?_)
            · simp -implicitDefEqProofs only [push_cast, ints_length, Int.reduceBEq, Int.reduceBNe, Int.reduceEq, Int.reduceNe, Int.reducePow, Nat.reduceAdd, Nat.reduceMul, Nat.reduceSub, Nat.reduceLT, Nat.reduceLeDiff, Nat.reduceEqDiff, Nat.reduceBEq, Int.reduceLT, Int.reduceLE, Int.reduceAdd, Int.reduceSub, Int.reduceMul, Int.reduceToNat, Int.reduceNeg, reduceIte, reduceCtorEq, reduceBEq]
              rw [fitsE, if_neg h2', if_neg hall, if_neg hn1, if_neg h5', if_neg hn2, if_pos h6]
            have h6' : ¬ (decide ((65536 : Int) < x.L.length) = true) := by rw [h6]; simp
            simp -implicitDefEqProofs only [push_cast, ints_length, Int.reduceBEq, Int.reduceBNe, Int.reduceEq, Int.reduceNe, Int.reducePow, Nat.reduceAdd, Nat.reduceMul, Nat.reduceSub, Nat.reduceLT, Nat.reduceLeDiff, Nat.reduceEqDiff, Nat.reduceBEq, Int.reduceLT, Int.reduceLE, Int.reduceAdd, Int.reduceSub, Int.reduceMul, Int.reduceToNat, Int.reduceNeg, reduceIte, reduceCtorEq, reduceBEq]
            refine loopC_of (α := F2S f x) (F2S.st o) (fun a => x.L.length - a.i) ⟨0, by omega, rfl⟩ ?_ ?_
            · (simp only [F2S.st]; exact Wk.by _ _ _ [(0, 0), (1, 1)] [] [] (by simp) (by simp [wkV, PV.el, PV.weak, PS.get, PS.obj, PS.lv, lkp_hit, lkp_miss, lkp_nil, lko, hfB]) (by simp [PS.get, PS.obj, PS.lv, lkp_hit, lkp_miss, lkp_nil, lko, wkL, wkC, PV.weak, hfB]) (by simp [PS.get, PS.obj, PS.lv, lkp_hit, lkp_miss, lkp_nil, lko]) (by rfl) (by rfl) (by simp [lko]) (by simp) (by simp) (by simp) (fun i hi => absurd hi (Nat.not_lt_zero i)))
            · rintro ⟨k, hk, hkf⟩
              simp -implicitDefEqProofs only [push_cast, F2S.st, Int.reduceBEq, Int.reduceBNe, Int.reduceEq, Int.reduceNe, Int.reducePow, Nat.reduceAdd, Nat.reduceMul, Nat.reduceSub, Nat.reduceLT, Nat.reduceLeDiff, Nat.reduceEqDiff, Nat.reduceBEq, Int.reduceLT, Int.reduceLE, Int.reduceAdd, Int.reduceSub, Int.reduceMul, Int.reduceToNat, Int.reduceNeg, reduceIte, reduceCtorEq, reduceBEq]
              refine condC_split (fun h7 => ?_) (fun h7 => ?_)
              · have hlt : k < x.L.length := by simp at h7; omega
                have hg := ints_at hlt
                have hsz : isSize f.L := by
                  rcases h.l with e | e
                  · exact absurd (show (decide ((0 : Int) < x.L.length) && f.L == 0) = true by rw [e]; simp; omega) hn2
                  · exact e
                have hp := put_fs ho hsz (x.L.getD k 0)
                have hwr : IntKind.i64.wrap ((k : Int) + 1) = ((k + 1 : Nat) : Int) := by (rw [wrap_i64_id (by omega) (by omega)]; rfl)
                simp -implicitDefEqProofs only [push_cast, hg, ints_length, Int.reduceBEq, Int.reduceBNe, Int.reduceEq, Int.reduceNe, Int.reducePow, Nat.reduceAdd, Nat.reduceMul, Nat.reduceSub, Nat.reduceLT, Nat.reduceLeDiff, Nat.reduceEqDiff, Nat.reduceBEq, Int.reduceLT, Int.reduceLE, Int.reduceAdd, Int.reduceSub, Int.reduceMul, Int.reduceToNat, Int.reduceNeg, reduceIte, reduceCtorEq, reduceBEq]
                refine ⟨by omega, ?_⟩
                refine callE_pure hp (by rfl) (by rfl) (by rfl) (by decide) (by rfl) (fun _ => by rfl) (by first | rfl | simp [gdOk, newToks]) ?_
                simp -implicitDefEqProofs only [push_cast, hg, ints_length, Int.reduceBEq, Int.reduceBNe, Int.reduceEq, Int.reduceNe, Int.reducePow, Nat.reduceAdd, Nat.reduceMul, Nat.reduceSub, Nat.reduceLT, Nat.reduceLeDiff, Nat.reduceEqDiff, Nat.reduceBEq, Int.reduceLT, Int.reduceLE, Int.reduceAdd, Int.reduceSub, Int.reduceMul, Int.reduceToNat, Int.reduceNeg, reduceIte, reduceCtorEq, reduceBEq]
                have hstep : rowFit f.L x.L (k + 1) = (rowFit f.L x.L k && fitsN f.L (x.L.getD k 0)) := all_range_succ
                refine condC_split (fun h8 => ?_) (fun h8 => ?_)
                · simp -implicitDefEqProofs only [push_cast, Int.reduceBEq, Int.reduceBNe, Int.reduceEq, Int.reduceNe, Int.reducePow, Nat.reduceAdd, Nat.reduceMul, Nat.reduceSub, Nat.reduceLT, Nat.reduceLeDiff, Nat.reduceEqDiff, Nat.reduceBEq, Int.reduceLT, Int.reduceLE, Int.reduceAdd, Int.reduceSub, Int.reduceMul, Int.reduceToNat, Int.reduceNeg, reduceIte, reduceCtorEq, reduceBEq]
                  have hff : fitsN f.L (x.L.getD k 0) = false := by
                    cases hh : fitsN f.L (x.L.getD k 0) with
                    | false => rfl
                    | true => rw [putE, if_pos hh] at h8; exact absurd h8 (by decide)
                  rw [fitsE, if_neg h2', if_neg hall, if_neg hn1, if_neg h5', if_neg hn2, if_neg h6', if_pos (show rowFit f.L x.L x.L.length = false from all_range_false (p := fun i => fitsN f.L (x.L.getD i 0)) hlt hff), putE, if_neg (by rw [hff]; simp)]
                · have hff : fitsN f.L (x.L.getD k 0) = true := by
                    cases hh : fitsN f.L (x.L.getD k 0) with
                    | true => rfl
                    | false => rw [putE, if_neg (by rw [hh]; simp)] at h8; exact absurd h8 (by decide)
                  simp -implicitDefEqProofs only [push_cast, Int.reduceBEq, Int.reduceBNe, Int.reduceEq, Int.reduceNe, Int.reducePow, Nat.reduceAdd, Nat.reduceMul, Nat.reduceSub, Nat.reduceLT, Nat.reduceLeDiff, Nat.reduceEqDiff, Nat.reduceBEq, Int.reduceLT, Int.reduceLE, Int.reduceAdd, Int.reduceSub, Int.reduceMul, Int.reduceToNat, Int.reduceNeg, reduceIte, reduceCtorEq, reduceBEq]
                  rw [hwr]
                  refine ⟨⟨k + 1, by omega, by rw [hstep, hkf, hff]; rfl⟩, by simp only; omega, ?_⟩
                  (simp only [F2S.st]; exact Wk.by _ _ _ [(0, 0), (1, 1)] [] [] (by simp) (by simp [wkV, PV.el, PV.weak, PS.get, PS.obj, PS.lv, lkp_hit, lkp_miss, lkp_nil, lko]) (by simp [PS.get, PS.obj, PS.lv, lkp_hit, lkp_miss, lkp_nil, lko, wkL, wkC, PV.weak]) (by simp [PS.get, PS.obj, PS.lv, lkp_hit, lkp_miss, lkp_nil, lko]) (by rfl) (by rfl) (by simp [lko]) (by simp) (by simp) (by simp) (fun i hi => absurd hi (Nat.not_lt_zero i)))
              · have hk2 : k = x.L.length := by simp at h7; omega
                have hall2 : ¬ (rowFit f.L x.L x.L.length = false) := by rw [← hk2, hkf]; simp
                simp -implicitDefEqProofs only [push_cast, Int.reduceBEq, Int.reduceBNe, Int.reduceEq, Int.reduceNe, Int.reducePow, Nat.reduceAdd, Nat.reduceMul, Nat.reduceSub, Nat.reduceLT, Nat.reduceLeDiff, Nat.reduceEqDiff, Nat.reduceBEq, Int.reduceLT, Int.reduceLE, Int.reduceAdd, Int.reduceSub, Int.reduceMul, Int.reduceToNat, Int.reduceNeg, reduceIte, reduceCtorEq, reduceBEq]
                rw [fitsE, if_neg h2', if_neg hall, if_neg hn1, if_neg h5', if_neg hn2, if_neg h6', if_neg hall2]
          · cases hL0 : (f.L == 0)
            · have hn2 : ¬ ((decide ((0 : Int) < x.L.length) && f.L == 0) = true) := by rw [hL0]; simp
              simp -implicitDefEqProofs only [push_cast, hL, hL0, ints_length, Int.reduceBEq, Int.reduceBNe, Int.reduceEq, Int.reduceNe, Int.reducePow, Nat.reduceAdd, Nat.reduceMul, Nat.reduceSub, Nat.reduceLT, Nat.reduceLeDiff, Nat.reduceEqDiff, Nat.reduceBEq, Int.reduceLT, Int.reduceLE, Int.reduceAdd, Int.reduceSub, Int.reduceMul, Int.reduceToNat, Int.reduceNeg, reduceIte, reduceCtorEq, reduceBEq]
              refine condC_split (fun h6 => ?_) (fun h6 => ?_)
              · simp -implicitDefEqProofs only [push_cast, ints_length, Int.reduceBEq, Int.reduceBNe, Int.reduceEq, Int.reduceNe, Int.reducePow, Nat.reduceAdd, Nat.reduceMul, Nat.reduceSub, Nat.reduceLT, Nat.reduceLeDiff, Nat.reduceEqDiff, Nat.reduceBEq, Int.reduceLT, Int.reduceLE, Int.reduceAdd, Int.reduceSub, Int.reduceMul, Int.reduceToNat, Int.reduceNeg, reduceIte, reduceCtorEq, reduceBEq]
                rw [fitsE, if_neg h2', if_neg hall, if_neg hn1, if_neg h5', if_neg hn2, if_pos h6]
              have h6' : ¬ (decide ((65536 : Int) < x.L.length) = true) := by rw [h6]; simp
              simp -implicitDefEqProofs only [push_cast, ints_length, Int.reduceBEq, Int.reduceBNe, Int.reduceEq, Int.reduceNe, Int.reducePow, Nat.reduceAdd, Nat.reduceMul, Nat.reduceSub, Nat.reduceLT, Nat.reduceLeDiff, Nat.reduceEqDiff, Nat.reduceBEq, Int.reduceLT, Int.reduceLE, Int.reduceAdd, Int.reduceSub, Int.reduceMul, Int.reduceToNat, Int.reduceNeg, reduceIte, reduceCtorEq, reduceBEq]
              refine loopC_of (α := F2S f x) (F2S.st o) (fun a => x.L.length - a.i) ⟨0, by omega, rfl⟩ ?_ ?_
              · (simp only [F2S.st]; exact Wk.by _ _ _ [(0, 0), (1, 1)] [] [] (by simp) (by simp [wkV, PV.el, PV.weak, PS.get, PS.obj, PS.lv, lkp_hit, lkp_miss, lkp_nil, lko, hfB]) (by simp [PS.get, PS.obj, PS.lv, lkp_hit, lkp_miss, lkp_nil, lko, wkL, wkC, PV.weak, hfB]) (by simp [PS.get, PS.obj, PS.lv, lkp_hit, lkp_miss, lkp_nil, lko]) (by rfl) (by rfl) (by simp [lko]) (by simp) (by simp) (by simp) (fun i hi => absurd hi (Nat.not_lt_zero i)))
              · rintro ⟨k, hk, hkf⟩
                simp -implicitDefEqProofs only [push_cast, F2S.st, Int.reduceBEq, Int.reduceBNe, Int.reduceEq, Int.reduceNe, Int.reducePow, Nat.reduceAdd, Nat.reduceMul, Nat.reduceSub, Nat.reduceLT, Nat.reduceLeDiff, Nat.reduceEqDiff, Nat.reduceBEq, Int.reduceLT, Int.reduceLE, Int.reduceAdd, Int.reduceSub, Int.reduceMul, Int.reduceToNat, Int.reduceNeg, reduceIte, reduceCtorEq, reduceBEq]
                refine condC_split (fun h7 => ?_) (fun h7 => ?_)
                · have hlt : k < x.L.length := by simp at h7; omega
                  have hg := ints_at hlt
                  have hsz : isSize f.L := by
                    rcases h.l with e | e
                    · exact absurd (show (decide ((0 : Int) < x.L.length) && f.L == 0) = true by rw [e]; simp; omega) hn2
                    · exact e
                  have hp := put_fs ho hsz (x.L.getD k 0)
                  have hwr : IntKind.i64.wrap ((k : Int) + 1) = ((k + 1 : Nat) : Int) := by (rw [wrap_i64_id (by omega) (by omega)]; rfl)
                  simp -implicitDefEqProofs only [push_cast, hg, ints_length, Int.reduceBEq, Int.reduceBNe, Int.reduceEq, Int.reduceNe, Int.reducePow, Nat.reduceAdd, Nat.reduceMul, Nat.reduceSub, Nat.reduceLT, Nat.reduceLeDiff, Nat.reduceEqDiff, Nat.reduceBEq, Int.reduceLT, Int.reduceLE, Int.reduceAdd, Int.reduceSub, Int.reduceMul, Int.reduceToNat, Int.reduceNeg, reduceIte, reduceCtorEq, reduceBEq]
                  refine ⟨by omega, ?_⟩
                  refine callE_pure hp (by rfl) (by rfl) (by rfl) (by decide) (by rfl) (fun _ => by rfl) (by first | rfl | simp [gdOk, newToks]) ?_
                  simp -implicitDefEqProofs only [push_cast, hg, ints_length, Int.reduceBEq, Int.reduceBNe, Int.reduceEq, Int.reduceNe, Int.reducePow, Nat.reduceAdd, Nat.reduceMul, Nat.reduceSub, Nat.reduceLT, Nat.reduceLeDiff, Nat.reduceEqDiff, Nat.reduceBEq, Int.reduceLT, Int.reduceLE, Int.reduceAdd, Int.reduceSub, Int.reduceMul, Int.reduceToNat, Int.reduceNeg, reduceIte, reduceCtorEq, reduceBEq]
                  have hstep : rowFit f.L x.L (k + 1) = (rowFit f.L x.L k && fitsN f.L (x.L.getD k 0)) := all_range_succ
                  refine condC_split (fun h8 => ?_) (fun h8 => ?_)
                  · simp -implicitDefEqProofs only [push_cast, Int.reduceBEq, Int.reduceBNe, Int.reduceEq, Int.reduceNe, Int.reducePow, Nat.reduceAdd, Nat.reduceMul, Nat.reduceSub, Nat.reduceLT, Nat.reduceLeDiff, Nat.reduceEqDiff, Nat.reduceBEq, Int.reduceLT, Int.reduceLE, Int.reduceAdd, Int.reduceSub, Int.reduceMul, Int.reduceToNat, Int.reduceNeg, reduceIte, reduceCtorEq, reduceBEq]
                    have hff : fitsN f.L (x.L.getD k 0) = false := by
                      cases hh : fitsN f.L (x.L.getD k 0) with
                      | false => rfl
                      | true => rw [putE, if_pos hh] at h8; exact absurd h8 (by decide)
                    rw [fitsE, if_neg h2', if_neg hall, if_neg hn1, if_neg h5', if_neg hn2, if_neg h6', if_pos (show rowFit f.L x.L x.L.length = false from all_range_false (p := fun i => fitsN f.L (x.L.getD i 0)) hlt hff), putE, if_neg (by rw [hff]; simp)]
                  · have hff : fitsN f.L (x.L.getD k 0) = true := by
                      cases hh : fitsN f.L (x.L.getD k 0) with
                      | true => rfl
                      | false => rw [putE, if_neg (by rw [hh]; simp)] at h8; exact absurd h8 (by decide)
                    simp -implicitDefEqProofs only [push_cast, Int.reduceBEq, Int.reduceBNe, Int.reduceEq, Int.reduceNe, Int.reducePow, Nat.reduceAdd, Nat.reduceMul, Nat.reduceSub, Nat.reduceLT, Nat.reduceLeDiff, Nat.reduceEqDiff, Nat.reduceBEq, Int.reduceLT, Int.reduceLE, Int.reduceAdd, Int.reduceSub, Int.reduceMul, Int.reduceToNat, Int.reduceNeg, reduceIte, reduceCtorEq, reduceBEq]
                    rw [hwr]
                    refine ⟨⟨k + 1, by omega, by rw [hstep, hkf, hff]; rfl⟩, by simp only; omega, ?_⟩
                    (simp only [F2S.st]; exact Wk.by _ _ _ [(0, 0), (1, 1)] [] [] (by simp) (by simp [wkV, PV.el, PV.weak, PS.get, PS.obj, PS.lv, lkp_hit, lkp_miss, lkp_nil, lko]) (by simp [PS.get, PS.obj, PS.lv, lkp_hit, lkp_miss, lkp_nil, lko, wkL, wkC, PV.weak]) (by simp [PS.get, PS.obj, PS.lv, lkp_hit, lkp_miss, lkp_nil, lko]) (by rfl) (by rfl) (by simp [lko]) (by simp) (by simp) (by simp) (fun i hi => absurd hi (Nat.not_lt_zero i)))
                · have hk2 : k = x.L.length := by simp at h7; omega
                  have hall2 : ¬ (rowFit f.L x.L x.L.length = false) := by rw [← hk2, hkf]; simp
                  simp -implicitDefEqProofs only [push_cast, Int.reduceBEq, Int.reduceBNe, Int.reduceEq, Int.reduceNe, Int.reducePow, Nat.reduceAdd, Nat.reduceMul, Nat.reduceSub, Nat.reduceLT, Nat.reduceLeDiff, Nat.reduceEqDiff, Nat.reduceBEq, Int.reduceLT, Int.reduceLE, Int.reduceAdd, Int.reduceSub, Int.reduceMul, Int.reduceToNat, Int.reduceNeg, reduceIte, reduceCtorEq, reduceBEq]
                  rw [fitsE, if_neg h2', if_neg hall, if_neg hn1, if_neg h5', if_neg hn2, if_neg h6', if_neg hall2]
            · simp -implicitDefEqProofs only [push_cast, hL, hL0, ints_length, Int.reduceBEq, Int.reduceBNe, Int.reduceEq, Int.reduceNe, Int.reducePow, Nat.reduceAdd, Nat.reduceMul, Nat.reduceSub, Nat.reduceLT, Nat.reduceLeDiff, Nat.reduceEqDiff, Nat.reduceBEq, Int.reduceLT, Int.reduceLE, Int.reduceAdd, Int.reduceSub, Int.reduceMul, Int.reduceToNat, Int.reduceNeg, reduceIte, reduceCtorEq, reduceBEq]
              rw [fitsE, if_neg h2', if_neg hall, if_neg hn1, if_neg h5', if_pos (by rw [hL, hL0]; rfl)]

end Go.Proofs.Sh
