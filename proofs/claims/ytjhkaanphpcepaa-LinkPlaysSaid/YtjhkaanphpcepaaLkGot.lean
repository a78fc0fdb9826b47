/- Got: a packet came. -/
import Derived.Test.YtjhkaanphpcepaaLkSend
set_option maxRecDepth 100000
set_option linter.unusedSimpArgs false
set_option linter.unusedVariables false
namespace Go.Proofs.Lk
open Go.Pv


theorem sclone_fs (s : List UInt8) (h : s.length ≤ 1000000) : Fsp Try.prog 40 [] 0 [.str s] [] 0 (.str s) := by
  have h48 : Fsp Try.prog 48 [] 0 [.str s] [] 0 (.str s) := by
    refine clOk 48 [] 0 [.str s] [] 0 (.str s) ?_
    unfold strCl
    rw [show Nat.beq 48 48 = true from rfl]
    simp only
    rw [show Nat.ble s.length 281474976710656 = true by rw [Nat.ble_eq]; omega]
  (refine Fsp.of (nx := 0) mixed Try.func40 rfl (by decide) (Nat.le_refl _) (by simp [Try.f40]) ⟨by decide, by decide⟩ ?_; simp -implicitDefEqProofs only [push_cast, Try.f40, Int.reduceBEq, Int.reduceBNe, Int.reduceEq, Int.reduceNe, Int.reducePow, Nat.reduceAdd, Nat.reduceMul, Nat.reduceSub, Nat.reduceLT, Nat.reduceLeDiff, Nat.reduceEqDiff, Nat.reduceBEq, Int.reduceLT, Int.reduceLE, Int.reduceAdd, Int.reduceSub, Int.reduceMul, Int.reduceToNat, Int.reduceNeg, reduceIte, reduceCtorEq, reduceBEq])
  refine callE_pure h48 (by rfl) (by rfl) (by rfl) (by decide) (by rfl) (fun _ => by rfl) (by first | rfl | simp [gdOk, newToks]) ?_
  simp -implicitDefEqProofs only [push_cast, Int.reduceBEq, Int.reduceBNe, Int.reduceEq, Int.reduceNe, Int.reducePow, Nat.reduceAdd, Nat.reduceMul, Nat.reduceSub, Nat.reduceLT, Nat.reduceLeDiff, Nat.reduceEqDiff, Nat.reduceBEq, Int.reduceLT, Int.reduceLE, Int.reduceAdd, Int.reduceSub, Int.reduceMul, Int.reduceToNat, Int.reduceNeg, reduceIte, reduceCtorEq, reduceBEq]
theorem shL_same : ∀ (k : Nat) (e : En), (shL k e).way = e.way ∧ (shL k e).most = e.most ∧ (shL k e).rest = e.rest ∧ (shL k e).next = e.next
  | 0, e => ⟨rfl, rfl, rfl, rfl⟩
  | k + 1, e => by
    unfold shL
    split
    · exact shL_same k e.shift
    · exact ⟨rfl, rfl, rfl, rfl⟩
theorem took_same (e : En) (n : Int) (b : List UInt8) : (e.took n b).way = e.way ∧ (e.took n b).most = e.most ∧ (e.took n b).rest = e.rest ∧ (e.took n b).next = e.next := by
  unfold En.took
  split
  · exact ⟨rfl, rfl, rfl, rfl⟩
  · split
    · exact ⟨rfl, rfl, rfl, rfl⟩
    · exact shL_same 17 _
def kd (p : List UInt8) : Int := ((p.getD 0 0).toNat : Int)
def bd (p : List UInt8) : List UInt8 := p.drop 11
def nu (p : List UInt8) : Int := (fourN ((p.drop 1).take 4) : Nat)
def to (p : List UInt8) : Int := (fourN ((p.drop 5).take 4) : Nat)
def ln (p : List UInt8) : Int := ((p.getD 9 0).toNat : Int) * 256 + ((p.getD 10 0).toNat : Int)
def En.gotE (e : En) (p : List UInt8) : En := (if (kd p == 0) = true then (e.ackn (to p)).took (nu p) (bd p) else e.ackn (to p)).number
/-- What is told of a packet that came: an error's number, 0: none. -/
def gotN (e : En) (p : List UInt8) : Int :=
  if (e.most == 0) = true then 9
  else if decide ((p.length : Int) < 11) = true then 3
  else if (kd p != 0 && kd p != 1) = true then 10
  else if (((bd p).length : Int) != ln p) = true then 2
  else if (kd p == 0 && (((bd p).length : Int) == 0 || decide ((1024 : Int) < (bd p).length)) || kd p == 1 && (((bd p).length : Int) != 0 || nu p != 0)) = true then 2
  else if (decide (e.next < to p) || kd p == 0 && decide (e.exp + 15 < nu p)) = true then 1
  else 0
def gotR (e : En) (p : List UInt8) : PV := .tup [if (gotN e p == 0) = true then (e.gotE p).pv else e.pv, .int .i64 (gotN e p)]
theorem or_u8 (x y : UInt8) : bitsI .or .i64 (IntKind.i64.wrap (IntKind.i64.wrap (x.toNat : Int) * 256)) (IntKind.i64.wrap (y.toNat : Int)) = ((x.toNat * 256 + y.toNat : Nat) : Int) := by
  have h0 := u8lt x
  have h1 := u8lt y
  generalize x.toNat = a at *
  generalize y.toNat = b at *
  simp only [wrap_i64_id (n := (a : Int)) (by omega) (by omega), wrap_i64_id (n := (b : Int)) (by omega) (by omega), wrap_i64_id (n := (a : Int) * 256) (by omega) (by omega)]
  rw [show (a : Int) * 256 = ((2 ^ 8 * a : Nat) : Int) by omega, or_add 8 (by omega) (by omega), show a * 256 + b = 2 ^ 8 * a + b by omega]
theorem got_fs (e : En) (p : List UInt8) (he : e.Ok) (hp : p.length ≤ 1000000) : Fsp Try.prog 22 [] 0 [e.pv, .str p] [] 0 (gotR e p) := by
  have hres : ∀ k : Int, k ≠ 0 → gotN e p = k → gotR e p = .tup [e.pv, .int .i64 k] := by
    intro k hk h
    unfold gotR
    rw [h, if_neg (by simpa using hk)]
  (refine Fsp.of (nx := 0) mixed Try.func22 rfl (by decide) (Nat.le_refl _) (by simp [Try.f22]) ⟨by decide, by decide⟩ ?_; simp -implicitDefEqProofs only [push_cast, Try.f22, En.pv, En.cs, pcs, Int.reduceBEq, Int.reduceBNe, Int.reduceEq, Int.reduceNe, Int.reducePow, Nat.reduceAdd, Nat.reduceMul, Nat.reduceSub, Nat.reduceLT, Nat.reduceLeDiff, Nat.reduceEqDiff, Nat.reduceBEq, Int.reduceLT, Int.reduceLE, Int.reduceAdd, Int.reduceSub, Int.reduceMul, Int.reduceToNat, Int.reduceNeg, reduceIte, reduceCtorEq, reduceBEq])
  refine condC_split (fun h => ?_) (fun h => ?_)
  · rw [hres 9 (by decide) (by unfold gotN kd bd nu to ln; rw [if_pos h])]
    simp -implicitDefEqProofs only [push_cast, En.pv, En.cs, pcs, Int.reduceBEq, Int.reduceBNe, Int.reduceEq, Int.reduceNe, Int.reducePow, Nat.reduceAdd, Nat.reduceMul, Nat.reduceSub, Nat.reduceLT, Nat.reduceLeDiff, Nat.reduceEqDiff, Nat.reduceBEq, Int.reduceLT, Int.reduceLE, Int.reduceAdd, Int.reduceSub, Int.reduceMul, Int.reduceToNat, Int.reduceNeg, reduceIte, reduceCtorEq, reduceBEq]
    exact ⟨_, rfl, by simp [wkL, res2, res1, PV.weak, PV.el]⟩
  · simp -implicitDefEqProofs only [push_cast, En.pv, En.cs, pcs, Int.reduceBEq, Int.reduceBNe, Int.reduceEq, Int.reduceNe, Int.reducePow, Nat.reduceAdd, Nat.reduceMul, Nat.reduceSub, Nat.reduceLT, Nat.reduceLeDiff, Nat.reduceEqDiff, Nat.reduceBEq, Int.reduceLT, Int.reduceLE, Int.reduceAdd, Int.reduceSub, Int.reduceMul, Int.reduceToNat, Int.reduceNeg, reduceIte, reduceCtorEq, reduceBEq]
    refine condC_split (fun h2 => ?_) (fun h2 => ?_)
    · rw [hres 3 (by decide) (by unfold gotN kd bd nu to ln; rw [if_neg (by rw [h]; exact Bool.false_ne_true), if_pos h2])]
      simp -implicitDefEqProofs only [push_cast, En.pv, En.cs, pcs, Int.reduceBEq, Int.reduceBNe, Int.reduceEq, Int.reduceNe, Int.reducePow, Nat.reduceAdd, Nat.reduceMul, Nat.reduceSub, Nat.reduceLT, Nat.reduceLeDiff, Nat.reduceEqDiff, Nat.reduceBEq, Int.reduceLT, Int.reduceLE, Int.reduceAdd, Int.reduceSub, Int.reduceMul, Int.reduceToNat, Int.reduceNeg, reduceIte, reduceCtorEq, reduceBEq]
      exact ⟨_, rfl, by simp [wkL, res2, res1, PV.weak, PV.el]⟩
    · have hl : 11 ≤ p.length := by simp at h2; omega
      simp -implicitDefEqProofs only [push_cast, Int.reduceBEq, Int.reduceBNe, Int.reduceEq, Int.reduceNe, Int.reducePow, Nat.reduceAdd, Nat.reduceMul, Nat.reduceSub, Nat.reduceLT, Nat.reduceLeDiff, Nat.reduceEqDiff, Nat.reduceBEq, Int.reduceLT, Int.reduceLE, Int.reduceAdd, Int.reduceSub, Int.reduceMul, Int.reduceToNat, Int.reduceNeg, reduceIte, reduceCtorEq, reduceBEq]
      (repeat (first | refine ⟨by omega, ?_⟩ | refine ⟨by (unfold drawOk; kernel_rfl), ?_⟩ | refine ⟨by (simp; done), ?_⟩ | refine ⟨by (simp; omega), ?_⟩))
      have hkw : IntKind.i64.wrap ((p.getD 0 0).toNat : Int) = ((p.getD 0 0).toNat : Int) := by
        have := u8lt (p.getD 0 0)
        rw [wrap_i64_id (by omega) (by omega)]
      have hbd : List.take (p.length - 11) (List.drop 11 p) = p.drop 11 := by rw [List.take_of_length_le (by simp)]
      have hew : IntKind.i64.wrap (e.exp + 15) = e.exp + 15 := by have := he.e0; have := he.e1; rw [wrap_i64_id (by omega) (by omega)]
      have h4a := four_fs ((p.drop 1).take 4) (by simp; omega)
      have h4b := four_fs ((p.drop 5).take 4) (by simp; omega)
      refine callE_pure h4a (by rfl) (by rfl) (by rfl) (by decide) (by rfl) (fun _ => by rfl) (by first | rfl | simp [gdOk, newToks]) ?_
      simp -implicitDefEqProofs only [push_cast, Int.reduceBEq, Int.reduceBNe, Int.reduceEq, Int.reduceNe, Int.reducePow, Nat.reduceAdd, Nat.reduceMul, Nat.reduceSub, Nat.reduceLT, Nat.reduceLeDiff, Nat.reduceEqDiff, Nat.reduceBEq, Int.reduceLT, Int.reduceLE, Int.reduceAdd, Int.reduceSub, Int.reduceMul, Int.reduceToNat, Int.reduceNeg, reduceIte, reduceCtorEq, reduceBEq]
      (repeat (first | refine ⟨by omega, ?_⟩ | refine ⟨by (unfold drawOk; kernel_rfl), ?_⟩ | refine ⟨by (simp; done), ?_⟩ | refine ⟨by (simp; omega), ?_⟩))
      refine callE_pure h4b (by rfl) (by rfl) (by rfl) (by decide) (by rfl) (fun _ => by rfl) (by first | rfl | simp [gdOk, newToks]) ?_
      simp -implicitDefEqProofs only [push_cast, hkw, hbd, Int.reduceBEq, Int.reduceBNe, Int.reduceEq, Int.reduceNe, Int.reducePow, Nat.reduceAdd, Nat.reduceMul, Nat.reduceSub, Nat.reduceLT, Nat.reduceLeDiff, Nat.reduceEqDiff, Nat.reduceBEq, Int.reduceLT, Int.reduceLE, Int.reduceAdd, Int.reduceSub, Int.reduceMul, Int.reduceToNat, Int.reduceNeg, reduceIte, reduceCtorEq, reduceBEq]
      (repeat (first | refine ⟨by omega, ?_⟩ | refine ⟨by (unfold drawOk; kernel_rfl), ?_⟩ | refine ⟨by (simp; done), ?_⟩ | refine ⟨by (simp; omega), ?_⟩))
      refine condC_split (fun h3 => ?_) (fun h3 => ?_)
      · rw [hres 10 (by decide) (by unfold gotN kd bd nu to ln; rw [if_neg (by rw [h]; exact Bool.false_ne_true), if_neg (by rw [h2]; exact Bool.false_ne_true), if_pos h3])]
        simp -implicitDefEqProofs only [push_cast, En.pv, En.cs, pcs, hkw, hbd, Int.reduceBEq, Int.reduceBNe, Int.reduceEq, Int.reduceNe, Int.reducePow, Nat.reduceAdd, Nat.reduceMul, Nat.reduceSub, Nat.reduceLT, Nat.reduceLeDiff, Nat.reduceEqDiff, Nat.reduceBEq, Int.reduceLT, Int.reduceLE, Int.reduceAdd, Int.reduceSub, Int.reduceMul, Int.reduceToNat, Int.reduceNeg, reduceIte, reduceCtorEq, reduceBEq]
        exact ⟨_, rfl, by simp [wkL, res2, res1, PV.weak, PV.el]⟩
      · simp -implicitDefEqProofs only [push_cast, or_u8, hkw, hbd, Int.reduceBEq, Int.reduceBNe, Int.reduceEq, Int.reduceNe, Int.reducePow, Nat.reduceAdd, Nat.reduceMul, Nat.reduceSub, Nat.reduceLT, Nat.reduceLeDiff, Nat.reduceEqDiff, Nat.reduceBEq, Int.reduceLT, Int.reduceLE, Int.reduceAdd, Int.reduceSub, Int.reduceMul, Int.reduceToNat, Int.reduceNeg, reduceIte, reduceCtorEq, reduceBEq]
        (repeat (first | refine ⟨by omega, ?_⟩ | refine ⟨by (unfold drawOk; kernel_rfl), ?_⟩ | refine ⟨by (simp; done), ?_⟩ | refine ⟨by (simp; omega), ?_⟩))
        refine condC_split (fun h4 => ?_) (fun h4 => ?_)
        · rw [hres 2 (by decide) (by unfold gotN kd bd nu to ln; rw [if_neg (by rw [h]; exact Bool.false_ne_true), if_neg (by rw [h2]; exact Bool.false_ne_true), if_neg (by rw [h3]; exact Bool.false_ne_true), if_pos h4])]
          simp -implicitDefEqProofs only [push_cast, En.pv, En.cs, pcs, hkw, hbd, Int.reduceBEq, Int.reduceBNe, Int.reduceEq, Int.reduceNe, Int.reducePow, Nat.reduceAdd, Nat.reduceMul, Nat.reduceSub, Nat.reduceLT, Nat.reduceLeDiff, Nat.reduceEqDiff, Nat.reduceBEq, Int.reduceLT, Int.reduceLE, Int.reduceAdd, Int.reduceSub, Int.reduceMul, Int.reduceToNat, Int.reduceNeg, reduceIte, reduceCtorEq, reduceBEq]
          exact ⟨_, rfl, by simp [wkL, res2, res1, PV.weak, PV.el]⟩
        · simp -implicitDefEqProofs only [push_cast, or_u8, hkw, hbd, Int.reduceBEq, Int.reduceBNe, Int.reduceEq, Int.reduceNe, Int.reducePow, Nat.reduceAdd, Nat.reduceMul, Nat.reduceSub, Nat.reduceLT, Nat.reduceLeDiff, Nat.reduceEqDiff, Nat.reduceBEq, Int.reduceLT, Int.reduceLE, Int.reduceAdd, Int.reduceSub, Int.reduceMul, Int.reduceToNat, Int.reduceNeg, reduceIte, reduceCtorEq, reduceBEq]
          have t1 : ∀ g0 g2 : Bool, g0 = true → g0 = true ∧ (g2 = false → (g0 && !g2) = true) := by decide
          have t2 : ∀ g0 g1 g2 g3 g4 : Bool, (!(g0 && (g2 || g3)) && g1) = true → (!(g0 && (g2 || g3)) && g1) = true ∧ (g4 = false → (!(g0 && (g2 || g3)) && g1 && !g4) = true) := by decide
          have t3 : ∀ g0 g1 g2 g3 : Bool, (g0 && (g2 || g3)) = false → (g0 && (g2 || g3)) = false ∧ (g1 = true → (!(g0 && (g2 || g3)) && g1) = true) := by decide
          have t4 : ∀ a b : Bool, a = false → a = false ∧ (b = true → (!a && b) = true) := by decide
          refine ⟨t1 _ _, t2 _ _ _ _ _, t3 _ _ _ _, ?_⟩
          refine condC_split (fun h5 => ?_) (fun h5 => ?_)
          · rw [hres 2 (by decide) (by unfold gotN kd bd nu to ln; rw [if_neg (by rw [h]; exact Bool.false_ne_true), if_neg (by rw [h2]; exact Bool.false_ne_true), if_neg (by rw [h3]; exact Bool.false_ne_true), if_neg (by rw [h4]; exact Bool.false_ne_true), if_pos h5])]
            simp -implicitDefEqProofs only [push_cast, En.pv, En.cs, pcs, hkw, hbd, Int.reduceBEq, Int.reduceBNe, Int.reduceEq, Int.reduceNe, Int.reducePow, Nat.reduceAdd, Nat.reduceMul, Nat.reduceSub, Nat.reduceLT, Nat.reduceLeDiff, Nat.reduceEqDiff, Nat.reduceBEq, Int.reduceLT, Int.reduceLE, Int.reduceAdd, Int.reduceSub, Int.reduceMul, Int.reduceToNat, Int.reduceNeg, reduceIte, reduceCtorEq, reduceBEq]
            exact ⟨_, rfl, by simp [wkL, res2, res1, PV.weak, PV.el]⟩
          · simp -implicitDefEqProofs only [push_cast, hkw, hbd, hew, Int.reduceBEq, Int.reduceBNe, Int.reduceEq, Int.reduceNe, Int.reducePow, Nat.reduceAdd, Nat.reduceMul, Nat.reduceSub, Nat.reduceLT, Nat.reduceLeDiff, Nat.reduceEqDiff, Nat.reduceBEq, Int.reduceLT, Int.reduceLE, Int.reduceAdd, Int.reduceSub, Int.reduceMul, Int.reduceToNat, Int.reduceNeg, reduceIte, reduceCtorEq, reduceBEq]
            refine ⟨t4 _ _, ?_⟩
            refine condC_split (fun h6 => ?_) (fun h6 => ?_)
            · rw [hres 1 (by decide) (by unfold gotN kd bd nu to ln; rw [if_neg (by rw [h]; exact Bool.false_ne_true), if_neg (by rw [h2]; exact Bool.false_ne_true), if_neg (by rw [h3]; exact Bool.false_ne_true), if_neg (by rw [h4]; exact Bool.false_ne_true), if_neg (by rw [h5]; exact Bool.false_ne_true), if_pos h6])]
              simp -implicitDefEqProofs only [push_cast, En.pv, En.cs, pcs, hkw, hbd, Int.reduceBEq, Int.reduceBNe, Int.reduceEq, Int.reduceNe, Int.reducePow, Nat.reduceAdd, Nat.reduceMul, Nat.reduceSub, Nat.reduceLT, Nat.reduceLeDiff, Nat.reduceEqDiff, Nat.reduceBEq, Int.reduceLT, Int.reduceLE, Int.reduceAdd, Int.reduceSub, Int.reduceMul, Int.reduceToNat, Int.reduceNeg, reduceIte, reduceCtorEq, reduceBEq]
              exact ⟨_, rfl, by simp [wkL, res2, res1, PV.weak, PV.el]⟩
            · simp -implicitDefEqProofs only [push_cast, hkw, hbd, hew, Int.reduceBEq, Int.reduceBNe, Int.reduceEq, Int.reduceNe, Int.reducePow, Nat.reduceAdd, Nat.reduceMul, Nat.reduceSub, Nat.reduceLT, Nat.reduceLeDiff, Nat.reduceEqDiff, Nat.reduceBEq, Int.reduceLT, Int.reduceLE, Int.reduceAdd, Int.reduceSub, Int.reduceMul, Int.reduceToNat, Int.reduceNeg, reduceIte, reduceCtorEq, reduceBEq]
              refine callE_pure (clone_fs e.way (by have := he.w; omega)) (by rfl) (by rfl) (by rfl) (by decide) (by rfl) (fun _ => by rfl) (by first | rfl | simp [gdOk, newToks]) ?_
              simp -implicitDefEqProofs only [push_cast, hkw, hbd, Int.reduceBEq, Int.reduceBNe, Int.reduceEq, Int.reduceNe, Int.reducePow, Nat.reduceAdd, Nat.reduceMul, Nat.reduceSub, Nat.reduceLT, Nat.reduceLeDiff, Nat.reduceEqDiff, Nat.reduceBEq, Int.reduceLT, Int.reduceLE, Int.reduceAdd, Int.reduceSub, Int.reduceMul, Int.reduceToNat, Int.reduceNeg, reduceIte, reduceCtorEq, reduceBEq]
              have hak := ackn_fs e (fourN ((p.drop 5).take 4) : Nat) (by have := he.w; omega)
              refine callE_box hak [0] [332] (by rfl) (by rfl) (by rfl) (by rfl) (by rfl) (by rfl) (fun i j cs h1 h2 => by (cases i with | zero => (simp at h1 h2; subst h1; subst h2; exact ⟨_, rfl, by simp [wkL, cellOK, PV.weak, En.own, En.cs]; exact ⟨_, _, _, ⟨rfl, rfl, rfl⟩, _, ⟨rfl, rfl, rfl⟩, rfl⟩⟩) | succ i => simp at h1)) (by simp [PS.lv, lkp_hit, lkp_miss, lkp_nil]) (by simp [wkL, argOK, PS.ev, PS.get, lkp_hit, lkp_miss, lkp_nil, PV.un, PV.el, PV.weak]; exact ⟨_, _, _, ⟨rfl, rfl⟩, ⟨rfl, rfl⟩, rfl⟩) (by decide) (by simp) (by rfl) (by simp [tokLt1, En.own, En.cs]) (fun _ => by rfl) (by first | rfl | simp [gdOk, newToks]) ?_
              simp -implicitDefEqProofs only [push_cast, hkw, hbd, En.own, En.cs, Int.reduceBEq, Int.reduceBNe, Int.reduceEq, Int.reduceNe, Int.reducePow, Nat.reduceAdd, Nat.reduceMul, Nat.reduceSub, Nat.reduceLT, Nat.reduceLeDiff, Nat.reduceEqDiff, Nat.reduceBEq, Int.reduceLT, Int.reduceLE, Int.reduceAdd, Int.reduceSub, Int.reduceMul, Int.reduceToNat, Int.reduceNeg, reduceIte, reduceCtorEq, reduceBEq]
              have hN : gotN e p = 0 := by
                unfold gotN kd bd nu to ln
                rw [if_neg (by rw [h]; exact Bool.false_ne_true), if_neg (by rw [h2]; exact Bool.false_ne_true), if_neg (by rw [h3]; exact Bool.false_ne_true), if_neg (by rw [h4]; exact Bool.false_ne_true), if_neg (by rw [h5]; exact Bool.false_ne_true), if_neg (by rw [h6]; exact Bool.false_ne_true)]
              have hG : gotR e p = .tup [(e.gotE p).pv, .int .i64 0] := by
                unfold gotR
                rw [hN]
                rfl
              have hwl := he.w
              have hdw : ((e.ackn (to p)).way).length ≤ 16 := Nat.le_trans (List.dropWhile_sublist _).length_le hwl
              refine condC_split (fun h7 => ?_) (fun h7 => ?_)
              · rw [show gotR e p = .tup [((e.ackn (to p)).took (nu p) (bd p)).number.pv, .int .i64 0] by rw [hG, En.gotE, if_pos (show (kd p == 0) = true from h7)]]
                simp -implicitDefEqProofs only [push_cast, hkw, hbd, Int.reduceBEq, Int.reduceBNe, Int.reduceEq, Int.reduceNe, Int.reducePow, Nat.reduceAdd, Nat.reduceMul, Nat.reduceSub, Nat.reduceLT, Nat.reduceLeDiff, Nat.reduceEqDiff, Nat.reduceBEq, Int.reduceLT, Int.reduceLE, Int.reduceAdd, Int.reduceSub, Int.reduceMul, Int.reduceToNat, Int.reduceNeg, reduceIte, reduceCtorEq, reduceBEq]
                refine callE_pure (sclone_fs (p.drop 11) (by simp; omega)) (by rfl) (by rfl) (by rfl) (by decide) (by rfl) (fun _ => by rfl) (by first | rfl | simp [gdOk, newToks]) ?_
                simp -implicitDefEqProofs only [push_cast, hkw, hbd, Int.reduceBEq, Int.reduceBNe, Int.reduceEq, Int.reduceNe, Int.reducePow, Nat.reduceAdd, Nat.reduceMul, Nat.reduceSub, Nat.reduceLT, Nat.reduceLeDiff, Nat.reduceEqDiff, Nat.reduceBEq, Int.reduceLT, Int.reduceLE, Int.reduceAdd, Int.reduceSub, Int.reduceMul, Int.reduceToNat, Int.reduceNeg, reduceIte, reduceCtorEq, reduceBEq]
                have hb0 : (p.drop 11).length ≤ 1000000 := by simp; omega
                have htk := take_fs (e.ackn (to p)) (nu p) (bd p) (Int.natCast_nonneg _) (by
                  have h7' : (((p.getD 0 0).toNat : Int) == 0) = true := h7
                  rw [h7', Bool.true_and, Bool.or_eq_false_iff] at h6
                  exact Int.not_lt.1 (of_decide_eq_false h6.2)) he.e0 he.e1 he.a16 hb0 he.al he.rl
                refine callE_box htk [0] [348] (by rfl) (by rfl) (by rfl) (by rfl) (by rfl) (by rfl) (fun i j cs h1 h2 => by (cases i with | zero => (simp at h1 h2; subst h1; subst h2; exact ⟨_, rfl, by simp [wkL, cellOK, PV.weak, En.own, En.cs, to]; exact ⟨_, _, _, ⟨rfl, rfl, rfl⟩, _, ⟨rfl, rfl, rfl⟩, rfl⟩⟩) | succ i => simp at h1)) (by simp [PS.lv, lkp_hit, lkp_miss, lkp_nil]) (by simp [wkL, argOK, PS.ev, PS.get, lkp_hit, lkp_miss, lkp_nil, PV.un, PV.el, PV.weak, nu, bd]; exact ⟨_, _, _, ⟨rfl, rfl⟩, ⟨rfl, rfl⟩, rfl⟩) (by decide) (by simp) (by rfl) (by simp [tokLt1, En.own, En.cs, to]) (fun _ => by rfl) (by first | rfl | simp [gdOk, newToks]) ?_
                simp -implicitDefEqProofs only [push_cast, En.own, En.cs, Int.reduceBEq, Int.reduceBNe, Int.reduceEq, Int.reduceNe, Int.reducePow, Nat.reduceAdd, Nat.reduceMul, Nat.reduceSub, Nat.reduceLT, Nat.reduceLeDiff, Nat.reduceEqDiff, Nat.reduceBEq, Int.reduceLT, Int.reduceLE, Int.reduceAdd, Int.reduceSub, Int.reduceMul, Int.reduceToNat, Int.reduceNeg, reduceIte, reduceCtorEq, reduceBEq]
                obtain ⟨w1, w2, w3, w4⟩ := took_same (e.ackn (to p)) (nu p) (bd p)
                have hnum := number_fs ((e.ackn (to p)).took (nu p) (bd p)) (by rw [w2]; exact he.m0) (by rw [w2]; exact he.m1) (by rw [w3]; exact he.r) (by rw [w1]; exact hdw) (by rw [w4]; exact he.n0) (by rw [w4]; exact he.n1)
                refine callE_box hnum [0] [372] (by rfl) (by rfl) (by rfl) (by rfl) (by rfl) (by rfl) (fun i j cs h1 h2 => by (cases i with | zero => (simp at h1 h2; subst h1; subst h2; exact ⟨_, rfl, by simp [wkL, cellOK, PV.weak, En.own, En.cs]; exact ⟨_, _, _, ⟨rfl, rfl, rfl⟩, _, ⟨rfl, rfl, rfl⟩, rfl⟩⟩) | succ i => simp at h1)) (by simp [PS.lv, lkp_hit, lkp_miss, lkp_nil]) (by simp [wkL, argOK, PS.ev, PS.get, lkp_hit, lkp_miss, lkp_nil, PV.un, PV.el, PV.weak]; exact ⟨_, _, _, ⟨rfl, rfl⟩, ⟨rfl, rfl⟩, rfl⟩) (by decide) (by simp) (by rfl) (by simp [tokLt1, En.own, En.cs]) (fun _ => by rfl) (by first | rfl | simp [gdOk, newToks]) ?_
                simp -implicitDefEqProofs only [push_cast, En.own, En.cs, Int.reduceBEq, Int.reduceBNe, Int.reduceEq, Int.reduceNe, Int.reducePow, Nat.reduceAdd, Nat.reduceMul, Nat.reduceSub, Nat.reduceLT, Nat.reduceLeDiff, Nat.reduceEqDiff, Nat.reduceBEq, Int.reduceLT, Int.reduceLE, Int.reduceAdd, Int.reduceSub, Int.reduceMul, Int.reduceToNat, Int.reduceNeg, reduceIte, reduceCtorEq, reduceBEq]
                exact ⟨_, rfl, by simp [wkL, res2, res1, PV.weak, PV.el, En.pv, En.cs, pcs]⟩
              · rw [show gotR e p = .tup [(e.ackn (to p)).number.pv, .int .i64 0] by rw [hG, En.gotE, if_neg (by rw [show (kd p == 0) = false from h7]; exact Bool.false_ne_true)]]
                have hnum := number_fs (e.ackn (to p)) he.m0 he.m1 he.r hdw he.n0 he.n1
                simp -implicitDefEqProofs only [push_cast, Int.reduceBEq, Int.reduceBNe, Int.reduceEq, Int.reduceNe, Int.reducePow, Nat.reduceAdd, Nat.reduceMul, Nat.reduceSub, Nat.reduceLT, Nat.reduceLeDiff, Nat.reduceEqDiff, Nat.reduceBEq, Int.reduceLT, Int.reduceLE, Int.reduceAdd, Int.reduceSub, Int.reduceMul, Int.reduceToNat, Int.reduceNeg, reduceIte, reduceCtorEq, reduceBEq]
                refine callE_box hnum [0] [348] (by rfl) (by rfl) (by rfl) (by rfl) (by rfl) (by rfl) (fun i j cs h1 h2 => by (cases i with | zero => (simp at h1 h2; subst h1; subst h2; exact ⟨_, rfl, by simp [wkL, cellOK, PV.weak, En.own, En.cs, to]; exact ⟨_, _, _, ⟨rfl, rfl, rfl⟩, _, ⟨rfl, rfl, rfl⟩, rfl⟩⟩) | succ i => simp at h1)) (by simp [PS.lv, lkp_hit, lkp_miss, lkp_nil]) (by simp [wkL, argOK, PS.ev, PS.get, lkp_hit, lkp_miss, lkp_nil, PV.un, PV.el, PV.weak]; exact ⟨_, _, _, ⟨rfl, rfl⟩, ⟨rfl, rfl⟩, rfl⟩) (by decide) (by simp) (by rfl) (by simp [tokLt1, En.own, En.cs, to]) (fun _ => by rfl) (by first | rfl | simp [gdOk, newToks]) ?_
                simp -implicitDefEqProofs only [push_cast, En.own, En.cs, Int.reduceBEq, Int.reduceBNe, Int.reduceEq, Int.reduceNe, Int.reducePow, Nat.reduceAdd, Nat.reduceMul, Nat.reduceSub, Nat.reduceLT, Nat.reduceLeDiff, Nat.reduceEqDiff, Nat.reduceBEq, Int.reduceLT, Int.reduceLE, Int.reduceAdd, Int.reduceSub, Int.reduceMul, Int.reduceToNat, Int.reduceNeg, reduceIte, reduceCtorEq, reduceBEq]
                exact ⟨_, rfl, by simp [wkL, res2, res1, PV.weak, PV.el, En.pv, En.cs, pcs]⟩
end Go.Proofs.Lk
