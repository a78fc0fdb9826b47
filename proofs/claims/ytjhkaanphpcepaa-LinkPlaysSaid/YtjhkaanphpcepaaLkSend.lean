/- Send: bytes are handed over. -/
import Derived.Test.YtjhkaanphpcepaaLkTake
set_option maxRecDepth 100000
set_option linter.unusedSimpArgs false
set_option linter.unusedVariables false
namespace Go.Proofs.Lk
open Go.Pv


structure En.Ok (e : En) : Prop where
  m0 : 0 ≤ e.most
  m1 : e.most ≤ 1000000
  w : e.way.length ≤ 16
  wb : ∀ p ∈ e.way, p.b.length ≤ 1000000
  n0 : 0 ≤ e.next
  n1 : e.next ≤ 1000000000
  r : e.rest.length ≤ 1000000
  e0 : 0 ≤ e.exp
  e1 : e.exp ≤ 1000000000
  a16 : ∀ j, 16 ≤ j → e.aside j = []
  al : ∀ j, (e.aside j).length ≤ 1000000
  rl : e.read.length ≤ 1000000000
/-- How many bytes pieces have. -/
def pcSum : List Pc → Nat
  | [] => 0
  | p :: l => p.b.length + pcSum l
theorem pcSum_le {k : Nat} : ∀ {l : List Pc}, (∀ p ∈ l, p.b.length ≤ k) → pcSum l ≤ l.length * k
  | [], _ => by simp [pcSum]
  | p :: l, h => by
    have h1 := h p (List.mem_cons_self ..)
    have h2 := pcSum_le (l := l) (fun q hq => h q (List.mem_cons_of_mem _ hq))
    simp only [pcSum, List.length_cons, Nat.add_mul]
    omega
def En.sendE (e : En) (b : List UInt8) : En := { e with rest := e.rest ++ b }.number
def sendR (e : En) (b : List UInt8) : PV :=
  if (e.most == 0) = true then .tup [e.pv, .int .i64 9]
  else if decide ((65536 : Int) < ((e.rest.length + b.length + pcSum e.way : Nat) : Int)) = true then .tup [e.pv, .int .i64 12]
  else .tup [(e.sendE b).pv, .int .i64 0]
structure SeS (e : En) (b : List UInt8) where
  i : Nat
  hi : i ≤ e.way.length
  s : Nat
  h : s + pcSum (e.way.drop i) = e.rest.length + b.length + pcSum e.way
def SeS.st {e : En} {b : List UInt8} (a : SeS e b) : PS := { n := 46, env := [(22, .int .i64 a.i), (21, .int .i64 e.way.length), (20, pcs e.way), (6, .int .i64 a.s), (5, .int .i64 0), (4, .box 1 0), (2, .box 0 0), (1, .str b)], objs := [(1, some (End0.cs .nilsl)), (0, some (e.cs (pcs e.way)))], live := [], nxt := 60 }
theorem send_fs (e : En) (b : List UInt8) (he : e.Ok) (hb : b.length ≤ 1000000) : Fsp Try.prog 13 [] 0 [e.pv, .str b] [] 0 (sendR e b) := by
  have hsl : pcSum e.way ≤ 16000000 := by
    have := pcSum_le he.wb
    have := he.w
    have : e.way.length * 1000000 ≤ 16 * 1000000 := Nat.mul_le_mul_right _ this
    omega
  have hrl := he.r
  have hwl := he.w
  (refine Fsp.of (nx := 0) mixed Try.func13 rfl (by decide) (Nat.le_refl _) (by simp [Try.f13]) ⟨by decide, by decide⟩ ?_; simp -implicitDefEqProofs only [push_cast, Try.f13, En.pv, En.cs, pcs, Int.reduceBEq, Int.reduceBNe, Int.reduceEq, Int.reduceNe, Int.reducePow, Nat.reduceAdd, Nat.reduceMul, Nat.reduceSub, Nat.reduceLT, Nat.reduceLeDiff, Nat.reduceEqDiff, Nat.reduceBEq, Int.reduceLT, Int.reduceLE, Int.reduceAdd, Int.reduceSub, Int.reduceMul, Int.reduceToNat, Int.reduceNeg, reduceIte, reduceCtorEq, reduceBEq])
  refine condC_split (fun h => ?_) (fun h => ?_)
  · rw [sendR, if_pos h]
    simp -implicitDefEqProofs only [push_cast, En.pv, En.cs, pcs, Int.reduceBEq, Int.reduceBNe, Int.reduceEq, Int.reduceNe, Int.reducePow, Nat.reduceAdd, Nat.reduceMul, Nat.reduceSub, Nat.reduceLT, Nat.reduceLeDiff, Nat.reduceEqDiff, Nat.reduceBEq, Int.reduceLT, Int.reduceLE, Int.reduceAdd, Int.reduceSub, Int.reduceMul, Int.reduceToNat, Int.reduceNeg, reduceIte, reduceCtorEq, reduceBEq]
    exact ⟨_, rfl, by simp [wkL, res2, res1, PV.weak, PV.el]⟩
  · rw [sendR, if_neg (by rw [h]; exact Bool.false_ne_true)]
    generalize hR : (if decide ((65536 : Int) < ((e.rest.length + b.length + pcSum e.way : Nat) : Int)) = true then PV.tup [e.pv, .int .i64 12] else .tup [(e.sendE b).pv, .int .i64 0]) = R
    simp -implicitDefEqProofs only [push_cast, Int.reduceBEq, Int.reduceBNe, Int.reduceEq, Int.reduceNe, Int.reducePow, Nat.reduceAdd, Nat.reduceMul, Nat.reduceSub, Nat.reduceLT, Nat.reduceLeDiff, Nat.reduceEqDiff, Nat.reduceBEq, Int.reduceLT, Int.reduceLE, Int.reduceAdd, Int.reduceSub, Int.reduceMul, Int.reduceToNat, Int.reduceNeg, reduceIte, reduceCtorEq, reduceBEq]
    rw [wrap_i64_id (n := (e.rest.length : Int) + b.length) (by omega) (by omega), List.length_map]
    refine loopC_of (α := SeS e b) SeS.st (fun a => e.way.length - a.i) ⟨0, by omega, e.rest.length + b.length, rfl⟩ ?_ ?_
    · (simp only [SeS.st, En.cs, pcs, End0]; exact Wk.by _ _ _ [(0, 0), (1, 4)] [] [] (by simp) (by simp [wkV, PV.el, PV.weak, PS.get, PS.obj, PS.lv, lkp_hit, lkp_miss, lkp_nil, lko]) (by simp [PS.get, PS.obj, PS.lv, lkp_hit, lkp_miss, lkp_nil, lko, wkL, wkC, PV.weak]) (by simp [PS.get, PS.obj, PS.lv, lkp_hit, lkp_miss, lkp_nil, lko]) (by rfl) (by rfl) (by simp [lko]) (by simp) (by simp) (by simp) (fun i hi => absurd hi (Nat.not_lt_zero i)))
    · rintro ⟨i, hi, s, hs⟩
      simp -implicitDefEqProofs only [push_cast, SeS.st, En.cs, pcs, End0, Int.reduceBEq, Int.reduceBNe, Int.reduceEq, Int.reduceNe, Int.reducePow, Nat.reduceAdd, Nat.reduceMul, Nat.reduceSub, Nat.reduceLT, Nat.reduceLeDiff, Nat.reduceEqDiff, Nat.reduceBEq, Int.reduceLT, Int.reduceLE, Int.reduceAdd, Int.reduceSub, Int.reduceMul, Int.reduceToNat, Int.reduceNeg, reduceIte, reduceCtorEq, reduceBEq]
      refine condC_split (fun h2 => ?_) (fun h2 => ?_)
      · have hlt : i < e.way.length := by simpa using h2
        have hg := pcs_at hlt
        simp -implicitDefEqProofs only [push_cast, hg, Pc.pv, Int.reduceBEq, Int.reduceBNe, Int.reduceEq, Int.reduceNe, Int.reducePow, Nat.reduceAdd, Nat.reduceMul, Nat.reduceSub, Nat.reduceLT, Nat.reduceLeDiff, Nat.reduceEqDiff, Nat.reduceBEq, Int.reduceLT, Int.reduceLE, Int.reduceAdd, Int.reduceSub, Int.reduceMul, Int.reduceToNat, Int.reduceNeg, reduceIte, reduceCtorEq, reduceBEq]
        refine ⟨by simpa using hlt, ?_⟩
        have hsum := hs
        rw [pcs_drop hlt, pcSum] at hsum
        rw [show IntKind.i64.wrap ((i : Int) + 1) = ((i + 1 : Nat) : Int) by (rw [wrap_i64_id (by omega) (by omega)]; rfl),
          show IntKind.i64.wrap ((s : Int) + ((e.way.getD i pc0).b.length : Int)) = ((s + (e.way.getD i pc0).b.length : Nat) : Int) by (rw [wrap_i64_id (by omega) (by omega)]; rfl)]
        refine ⟨⟨i + 1, by omega, s + (e.way.getD i pc0).b.length, by omega⟩, by simp only; omega, ?_⟩
        (simp only [SeS.st, En.cs, pcs, End0]; exact Wk.by _ _ _ [(0, 0), (1, 1)] [] [] (by simp) (by simp [wkV, PV.el, PV.weak, PS.get, PS.obj, PS.lv, lkp_hit, lkp_miss, lkp_nil, lko]) (by simp [PS.get, PS.obj, PS.lv, lkp_hit, lkp_miss, lkp_nil, lko, wkL, wkC, PV.weak]) (by simp [PS.get, PS.obj, PS.lv, lkp_hit, lkp_miss, lkp_nil, lko]) (by rfl) (by rfl) (by simp [lko]) (by simp) (by simp) (by simp) (fun i hi => absurd hi (Nat.not_lt_zero i)))
      · have hie : i = e.way.length := by simp at h2; omega
        subst hie
        rw [List.drop_length, pcSum, Nat.add_zero] at hs
        rw [← hs] at hR
        simp -implicitDefEqProofs only [push_cast, Int.reduceBEq, Int.reduceBNe, Int.reduceEq, Int.reduceNe, Int.reducePow, Nat.reduceAdd, Nat.reduceMul, Nat.reduceSub, Nat.reduceLT, Nat.reduceLeDiff, Nat.reduceEqDiff, Nat.reduceBEq, Int.reduceLT, Int.reduceLE, Int.reduceAdd, Int.reduceSub, Int.reduceMul, Int.reduceToNat, Int.reduceNeg, reduceIte, reduceCtorEq, reduceBEq]
        refine condC_split (fun h3 => ?_) (fun h3 => ?_)
        · rw [if_pos h3] at hR
          rw [← hR]
          simp -implicitDefEqProofs only [push_cast, En.pv, En.cs, pcs, Int.reduceBEq, Int.reduceBNe, Int.reduceEq, Int.reduceNe, Int.reducePow, Nat.reduceAdd, Nat.reduceMul, Nat.reduceSub, Nat.reduceLT, Nat.reduceLeDiff, Nat.reduceEqDiff, Nat.reduceBEq, Int.reduceLT, Int.reduceLE, Int.reduceAdd, Int.reduceSub, Int.reduceMul, Int.reduceToNat, Int.reduceNeg, reduceIte, reduceCtorEq, reduceBEq]
          exact ⟨_, rfl, by simp [wkL, res2, res1, PV.weak, PV.el]⟩
        · rw [if_neg (by rw [h3]; exact Bool.false_ne_true)] at hR
          rw [← hR]
          simp -implicitDefEqProofs only [push_cast, En.pv, En.cs, pcs, Int.reduceBEq, Int.reduceBNe, Int.reduceEq, Int.reduceNe, Int.reducePow, Nat.reduceAdd, Nat.reduceMul, Nat.reduceSub, Nat.reduceLT, Nat.reduceLeDiff, Nat.reduceEqDiff, Nat.reduceBEq, Int.reduceLT, Int.reduceLE, Int.reduceAdd, Int.reduceSub, Int.reduceMul, Int.reduceToNat, Int.reduceNeg, reduceIte, reduceCtorEq, reduceBEq]
          refine callE_pure (clone_fs e.way (by have := he.w; omega)) (by rfl) (by rfl) (by rfl) (by decide) (by rfl) (fun _ => by rfl) (by first | rfl | simp [gdOk, newToks]) ?_
          simp -implicitDefEqProofs only [push_cast, Int.reduceBEq, Int.reduceBNe, Int.reduceEq, Int.reduceNe, Int.reducePow, Nat.reduceAdd, Nat.reduceMul, Nat.reduceSub, Nat.reduceLT, Nat.reduceLeDiff, Nat.reduceEqDiff, Nat.reduceBEq, Int.reduceLT, Int.reduceLE, Int.reduceAdd, Int.reduceSub, Int.reduceMul, Int.reduceToNat, Int.reduceNeg, reduceIte, reduceCtorEq, reduceBEq]
          refine ⟨by omega, ?_⟩
          have hlen : s ≤ 65536 := by simp at h3; omega
          have hnum := number_fs { e with rest := e.rest ++ b } he.m0 he.m1 (by simp; omega) he.w he.n0 he.n1
          refine callE_box hnum [0] [80] (by rfl) (by rfl) (by rfl) (by rfl) (by rfl) (by rfl) (fun i j cs h1 h2 => by (cases i with | zero => (simp at h1 h2; subst h1; subst h2; exact ⟨_, rfl, by simp [wkL, cellOK, PV.weak, En.own, En.cs]; exact ⟨_, _, _, ⟨rfl, rfl, rfl⟩, _, ⟨rfl, rfl, rfl⟩, rfl⟩⟩) | succ i => simp at h1)) (by simp [PS.lv, lkp_hit, lkp_miss, lkp_nil]) (by simp [wkL, argOK, PS.ev, PS.get, lkp_hit, lkp_miss, lkp_nil, PV.un, PV.el, PV.weak]; exact ⟨_, _, _, ⟨rfl, rfl⟩, ⟨rfl, rfl⟩, rfl⟩) (by decide) (by simp) (by rfl) (by simp [tokLt1, En.own, En.cs]) (fun _ => by rfl) (by first | rfl | simp [gdOk, newToks]) ?_
          simp -implicitDefEqProofs only [push_cast, En.own, En.cs, Int.reduceBEq, Int.reduceBNe, Int.reduceEq, Int.reduceNe, Int.reducePow, Nat.reduceAdd, Nat.reduceMul, Nat.reduceSub, Nat.reduceLT, Nat.reduceLeDiff, Nat.reduceEqDiff, Nat.reduceBEq, Int.reduceLT, Int.reduceLE, Int.reduceAdd, Int.reduceSub, Int.reduceMul, Int.reduceToNat, Int.reduceNeg, reduceIte, reduceCtorEq, reduceBEq]
          exact ⟨_, rfl, by simp [wkL, res2, res1, PV.weak, PV.el, En.sendE, En.pv, En.cs, pcs]⟩
end Go.Proofs.Lk
