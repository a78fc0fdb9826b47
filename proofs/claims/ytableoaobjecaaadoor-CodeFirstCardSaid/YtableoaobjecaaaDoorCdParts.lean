/- parts: a text at a byte. -/
import Derived.Test.YtableoaobjecaaaDoorCdTypes
set_option maxRecDepth 100000
set_option linter.unusedSimpArgs false
set_option linter.unusedVariables false
namespace Go.Proofs.Cd
open Go.Pv


def prt (at' : UInt8) : List UInt8 → List UInt8 → List (List UInt8)
  | cur, [] => [cur]
  | cur, b :: l => if b == at' then cur :: prt at' [] l else prt at' (cur ++ [b]) l
structure PtS (s : List UInt8) (at' : UInt8) where
  i : Nat
  fr : Nat
  out : List (List UInt8)
  h : (i ≤ s.length ∧ fr ≤ i ∧ out ++ prt at' ((s.drop fr).take (i - fr)) (s.drop i) = prt at' [] s) ∨ (i = s.length + 1 ∧ out = prt at' [] s)
  hl : out.length ≤ i
def PtS.st {s : List UInt8} {at' : UInt8} (a : PtS s at') : PS :=
  { n := 35, env := [(7, .int .i64 a.i), (6, .int .i64 a.fr), (5, .slt 1 (a.out.map .str) 50), (1, .int .u8 at'.toNat), (0, .str s)], objs := [], live := [(50, true)], nxt := 60 }
theorem drop_cons {s : List UInt8} {i : Nat} (h : i < s.length) : s.drop i = s.getD i 0 :: s.drop (i + 1) := by
  rw [List.drop_eq_getElem_cons h, List.getD_eq_getElem?_getD, List.getElem?_eq_getElem h]; rfl
theorem parts_fs (s : List UInt8) (at' : UInt8) (hs : s.length ≤ 1000000) : Fsp Tryd.prog 47 [] 0 [.str s, .int .u8 at'.toNat] [] 1 (.slt 1 ((prt at' [] s).map .str) 0) := by
  refine Fsp.of (nx := 0) mixed Tryd.func47 rfl (by decide) (Nat.le_refl _) (by simp [Tryd.f47]) ⟨by decide, by decide⟩ ?_
  simp -implicitDefEqProofs only [push_cast, Tryd.f47, Int.reduceBEq, Int.reduceBNe, Int.reduceEq, Int.reduceNe, Int.reducePow, Nat.reduceAdd, Nat.reduceMul, Nat.reduceSub, Nat.reduceLT, Nat.reduceLeDiff, Nat.reduceEqDiff, Nat.reduceBEq, Int.reduceLT, Int.reduceLE, Int.reduceAdd, Int.reduceSub, Int.reduceMul, Int.reduceToNat, Int.reduceNeg, reduceIte, reduceCtorEq, reduceBEq]
  refine loopC_of (α := PtS s at') PtS.st (fun a => s.length + 2 - a.i) ⟨0, 0, [], .inl ⟨by omega, by omega, by simp⟩, by simp⟩ ?_ ?_
  · (simp only [PtS.st]; exact WkOf.wk (β := []) (τ := []) (em := [50]) ⟨by simp, by simp [wkV, PV.el, PV.weak, PS.get, lkp_hit, lkp_miss, lkp_nil, lko], by simp, by simp, by simp [PS.lv, lko, lkp_hit, lkp_miss, lkp_nil], by rfl, by rfl, by simp [lko], by simp, by simp, by simp, fun i hi => absurd hi (Nat.not_lt_zero i)⟩)
  · rintro ⟨i, fr, out, h, hl⟩
    simp -implicitDefEqProofs only [push_cast, PtS.st, Int.reduceBEq, Int.reduceBNe, Int.reduceEq, Int.reduceNe, Int.reducePow, Nat.reduceAdd, Nat.reduceMul, Nat.reduceSub, Nat.reduceLT, Nat.reduceLeDiff, Nat.reduceEqDiff, Nat.reduceBEq, Int.reduceLT, Int.reduceLE, Int.reduceAdd, Int.reduceSub, Int.reduceMul, Int.reduceToNat, Int.reduceNeg, reduceIte, reduceCtorEq, reduceBEq]
    refine condC_split (fun hc => ?_) (fun hc => ?_)
    · have hi : i ≤ s.length := by simpa using hc
      simp -implicitDefEqProofs only [push_cast, Int.reduceBEq, Int.reduceBNe, Int.reduceEq, Int.reduceNe, Int.reducePow, Nat.reduceAdd, Nat.reduceMul, Nat.reduceSub, Nat.reduceLT, Nat.reduceLeDiff, Nat.reduceEqDiff, Nat.reduceBEq, Int.reduceLT, Int.reduceLE, Int.reduceAdd, Int.reduceSub, Int.reduceMul, Int.reduceToNat, Int.reduceNeg, reduceIte, reduceCtorEq, reduceBEq]
      refine ⟨fun h => ⟨h, by simp at h; omega⟩, ?_⟩
      refine condC_split (fun h2 => ?_) (fun h2 => ?_)
      · simp -implicitDefEqProofs only [push_cast, Int.reduceBEq, Int.reduceBNe, Int.reduceEq, Int.reduceNe, Int.reducePow, Nat.reduceAdd, Nat.reduceMul, Nat.reduceSub, Nat.reduceLT, Nat.reduceLeDiff, Nat.reduceEqDiff, Nat.reduceBEq, Int.reduceLT, Int.reduceLE, Int.reduceAdd, Int.reduceSub, Int.reduceMul, Int.reduceToNat, Int.reduceNeg, reduceIte, reduceCtorEq, reduceBEq]
        obtain ⟨-, hf, he⟩ | ⟨h1, -⟩ := h
        · refine ⟨hf, hi, by simp; omega, by simp; omega, ?_⟩
          rw [show IntKind.i64.wrap ((i : Int) + 1) = ((i + 1 : Nat) : Int) by rw [wrap_i64_id (by omega) (by omega)]; rfl]
          refine ⟨⟨i + 1, i + 1, out ++ [(s.drop fr).take (i - fr)], ?_, by simp; omega⟩, by simp only; omega, ?_⟩
          · rcases Nat.lt_or_eq_of_le hi with hlt | rfl
            · left
              refine ⟨by omega, by omega, ?_⟩
              have h3 : s.getD i 0 = at' := by
                simp only [Bool.or_eq_true, beq_iff_eq] at h2
                rcases h2 with h2 | h2
                · omega
                · exact UInt8.toNat_inj.1 (by omega)
              rw [← he, drop_cons hlt, prt, h3, if_pos (by simp)]
              simp
            · right
              refine ⟨rfl, ?_⟩
              rw [← he]
              simp [prt]
          · (simp only [PtS.st]; exact WkOf.wk (β := []) (τ := [(50, 144)]) (em := []) ⟨by simp, by simp [wkV, PV.el, PV.weak, PS.get, lkp_hit, lkp_miss, lkp_nil, lko], by simp, by simp, by simp [PS.lv, lko, lkp_hit, lkp_miss, lkp_nil], by rfl, by rfl, by simp [lko], by simp, by simp, by simp, fun i hi => absurd hi (Nat.not_lt_zero i)⟩)
        · omega
      · simp -implicitDefEqProofs only [push_cast, Int.reduceBEq, Int.reduceBNe, Int.reduceEq, Int.reduceNe, Int.reducePow, Nat.reduceAdd, Nat.reduceMul, Nat.reduceSub, Nat.reduceLT, Nat.reduceLeDiff, Nat.reduceEqDiff, Nat.reduceBEq, Int.reduceLT, Int.reduceLE, Int.reduceAdd, Int.reduceSub, Int.reduceMul, Int.reduceToNat, Int.reduceNeg, reduceIte, reduceCtorEq, reduceBEq]
        obtain ⟨-, hf, he⟩ | ⟨h1, -⟩ := h
        · rw [show IntKind.i64.wrap ((i : Int) + 1) = ((i + 1 : Nat) : Int) by rw [wrap_i64_id (by omega) (by omega)]; rfl]
          have hlt : i < s.length := by simp at h2; omega
          refine ⟨⟨i + 1, fr, out, .inl ⟨by omega, by omega, ?_⟩, by omega⟩, by simp only; omega, ?_⟩
          · rw [← he, drop_cons hlt, prt, if_neg (by simp at h2 ⊢; exact fun e => h2.2 (by rw [e]))]
            rw [show i + 1 - fr = (i - fr) + 1 by omega, List.take_succ_eq_append_getElem (by simp; omega)]
            congr 2
            simp only [List.getElem_drop, List.getD_eq_getElem?_getD]
            rw [List.getElem?_eq_getElem hlt]
            simp [show fr + (i - fr) = i by omega]
          · (simp only [PtS.st]; exact WkOf.wk (β := []) (τ := [(50, 50)]) (em := []) ⟨by simp, by simp [wkV, PV.el, PV.weak, PS.get, lkp_hit, lkp_miss, lkp_nil, lko], by simp, by simp, by simp [PS.lv, lko, lkp_hit, lkp_miss, lkp_nil], by rfl, by rfl, by simp [lko], by simp, by simp, by simp, fun i hi => absurd hi (Nat.not_lt_zero i)⟩)
        · omega
    · simp -implicitDefEqProofs only [push_cast, Int.reduceBEq, Int.reduceBNe, Int.reduceEq, Int.reduceNe, Int.reducePow, Nat.reduceAdd, Nat.reduceMul, Nat.reduceSub, Nat.reduceLT, Nat.reduceLeDiff, Nat.reduceEqDiff, Nat.reduceBEq, Int.reduceLT, Int.reduceLE, Int.reduceAdd, Int.reduceSub, Int.reduceMul, Int.reduceToNat, Int.reduceNeg, reduceIte, reduceCtorEq, reduceBEq]
      obtain ⟨h1, -⟩ | ⟨-, rfl⟩ := h
      · simp at hc; omega
      · exact endK_toks [50] rfl rfl (by simp [PS.lv, lkp_hit]) ⟨by simp [resOk, PS.ev, PS.get, lkp_hit, PV.cnd], by simp [resPV, PS.get, lkp_hit], by simp [resOf, resPV, one', res3, res2, res1, idx, PS.get, lkp_hit, PV.un]⟩
/-- parts, as an oracle. -/
def prtCl : Cl := fnCl 47 fun args => match args with
  | [.str s, .int .u8 (.ofNat n)] => match Nat.blt n 256 && Nat.ble s.length 1000000 with | true => some (.sl 1 ((prt (UInt8.ofNat n) [] s).map .str)) | false => none
  | _ => none
theorem prtCl_ok : prtCl.Ok Tryd.prog := fnCl_ok fun args r h => by
  split at h
  · rename_i s n
    split at h
    · rename_i hh
      simp only [Bool.and_eq_true, Nat.blt_eq, Nat.ble_eq] at hh
      cases h
      have := parts_fs s (UInt8.ofNat n) hh.2
      rw [show (UInt8.ofNat n).toNat = n by simp [UInt8.toNat_ofNat']; omega] at this
      exact this.untok
    · cases h
  · cases h
end Go.Proofs.Cd
