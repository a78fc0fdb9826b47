/- slices.Clone of pieces; small functions of an end. -/
import Derived.Test.YtjhkaanphpcepaaLkModel
import Derived.Test.YtjhkaanphpcepaaPvZ
set_option maxRecDepth 100000
set_option linter.unusedSimpArgs false
set_option linter.unusedVariables false
namespace Go.Proofs.Lk
open Go.Pv


theorem pcs_one (l : List Pc) : ∀ p ∈ l.map Pc.pv, p.cells.length = 3 := by
  intro p hp
  obtain ⟨x, _, rfl⟩ := List.mem_map.1 hp
  rfl
theorem clone_nil : Fsp Try.prog 33 [] 0 [.nilsl] [] 0 .nilsl := by
  (refine Fsp.of (nx := 0) mixed Try.func33 rfl (by decide) (Nat.le_refl _) (by simp [Try.f33]) ⟨by decide, by decide⟩ ?_; simp -implicitDefEqProofs only [push_cast, Try.f33, Int.reduceBEq, Int.reduceBNe, Int.reduceEq, Int.reduceNe, Int.reducePow, Nat.reduceAdd, Nat.reduceMul, Nat.reduceSub, Nat.reduceLT, Nat.reduceLeDiff, Nat.reduceEqDiff, Nat.reduceBEq, Int.reduceLT, Int.reduceLE, Int.reduceAdd, Int.reduceSub, Int.reduceMul, Int.reduceToNat, Int.reduceNeg, reduceIte, reduceCtorEq, reduceBEq])
theorem clone_sln (l : List Pc) (hl : l.length ≤ 1000000) : Fsp Try.prog 33 [] 0 [.sln 3 (l.map Pc.pv)] [] 1 (.slt 3 (l.map Pc.pv) 0) := by
  (refine Fsp.of (nx := 0) mixed Try.func33 rfl (by decide) (Nat.le_refl _) (by simp [Try.f33]) ⟨by decide, by decide⟩ ?_; simp -implicitDefEqProofs only [push_cast, Try.f33, Int.reduceBEq, Int.reduceBNe, Int.reduceEq, Int.reduceNe, Int.reducePow, Nat.reduceAdd, Nat.reduceMul, Nat.reduceSub, Nat.reduceLT, Nat.reduceLeDiff, Nat.reduceEqDiff, Nat.reduceBEq, Int.reduceLT, Int.reduceLE, Int.reduceAdd, Int.reduceSub, Int.reduceMul, Int.reduceToNat, Int.reduceNeg, reduceIte, reduceCtorEq, reduceBEq])
  refine callE_bs ?_
  simp -implicitDefEqProofs only [push_cast, Int.reduceBEq, Int.reduceBNe, Int.reduceEq, Int.reduceNe, Int.reducePow, Nat.reduceAdd, Nat.reduceMul, Nat.reduceSub, Nat.reduceLT, Nat.reduceLeDiff, Nat.reduceEqDiff, Nat.reduceBEq, Int.reduceLT, Int.reduceLE, Int.reduceAdd, Int.reduceSub, Int.reduceMul, Int.reduceToNat, Int.reduceNeg, reduceIte, reduceCtorEq, reduceBEq]
  refine ⟨by simp; omega, by simp; omega, ?_⟩
  exact endK_toks [20] rfl rfl (by simp [PS.lv, lkp_hit, lkp_miss, lkp_nil]) ⟨by simp [resOk, PS.ev, PS.get, lkp_hit, PV.cnd], by simp [resPV, PS.get, lkp_hit], by simp [resOf, resPV, one', res3, res2, res1, idx, PS.get, lkp_hit, PV.un]⟩
theorem clone_fs (l : List Pc) (hl : l.length ≤ 1000000) : Fsp Try.prog 33 [] 0 [.sl 3 (l.map Pc.pv)] [] 1 (.slt 3 (l.map Pc.pv) 0) := by
  refine of_sl (fun h => ?_) (clone_sln l hl)
  rw [h]
  exact clone_nil.nilTok
theorem read_fs (e : En) : Fsp Try.prog 24 [] 0 [e.pv] [] 0 (.tup [({ e with read := [] } : En).pv, .str e.read]) := by
  (refine Fsp.of (nx := 0) mixed Try.func24 rfl (by decide) (Nat.le_refl _) (by simp [Try.f24]) ⟨by decide, by decide⟩ ?_; simp -implicitDefEqProofs only [push_cast, Try.f24, En.pv, En.cs, pcs, Int.reduceBEq, Int.reduceBNe, Int.reduceEq, Int.reduceNe, Int.reducePow, Nat.reduceAdd, Nat.reduceMul, Nat.reduceSub, Nat.reduceLT, Nat.reduceLeDiff, Nat.reduceEqDiff, Nat.reduceBEq, Int.reduceLT, Int.reduceLE, Int.reduceAdd, Int.reduceSub, Int.reduceMul, Int.reduceToNat, Int.reduceNeg, reduceIte, reduceCtorEq, reduceBEq])
  exact ⟨_, rfl, by simp [wkL, res2, res1, PV.weak, PV.el]⟩
theorem quiet_fs (e : En) : Fsp Try.prog 29 [] 0 [e.pv] [] 0 (.bool (decide (e.way.length = 0) && !e.ack)) := by
  (refine Fsp.of (nx := 0) mixed Try.func29 rfl (by decide) (Nat.le_refl _) (by simp [Try.f29]) ⟨by decide, by decide⟩ ?_; simp -implicitDefEqProofs only [push_cast, Try.f29, En.pv, En.cs, pcs, Int.reduceBEq, Int.reduceBNe, Int.reduceEq, Int.reduceNe, Int.reducePow, Nat.reduceAdd, Nat.reduceMul, Nat.reduceSub, Nat.reduceLT, Nat.reduceLeDiff, Nat.reduceEqDiff, Nat.reduceBEq, Int.reduceLT, Int.reduceLE, Int.reduceAdd, Int.reduceSub, Int.reduceMul, Int.reduceToNat, Int.reduceNeg, reduceIte, reduceCtorEq, reduceBEq])
  by_cases h : e.way.length = 0 <;> simp [h]
def newR (most : Int) : PV := if (decide (most < 1) || decide (1024 < most)) = true then .tup [End0.pv, .int .i64 17] else .tup [({ End0 with most := most } : En).pv, .int .i64 0]
theorem new_fs (most : Int) : Fsp Try.prog 12 [] 0 [.int .i64 most] [] 0 (newR most) := by
  (refine Fsp.of (nx := 0) mixed Try.func12 rfl (by decide) (Nat.le_refl _) (by simp [Try.f12]) ⟨by decide, by decide⟩ ?_; simp -implicitDefEqProofs only [push_cast, Try.f12, En.pv, En.cs, pcs, Int.reduceBEq, Int.reduceBNe, Int.reduceEq, Int.reduceNe, Int.reducePow, Nat.reduceAdd, Nat.reduceMul, Nat.reduceSub, Nat.reduceLT, Nat.reduceLeDiff, Nat.reduceEqDiff, Nat.reduceBEq, Int.reduceLT, Int.reduceLE, Int.reduceAdd, Int.reduceSub, Int.reduceMul, Int.reduceToNat, Int.reduceNeg, reduceIte, reduceCtorEq, reduceBEq])
  refine condC_split (fun h => ?_) (fun h => ?_)
  · rw [newR, if_pos h]
    simp -implicitDefEqProofs only [push_cast, En.pv, En.cs, pcs, Int.reduceBEq, Int.reduceBNe, Int.reduceEq, Int.reduceNe, Int.reducePow, Nat.reduceAdd, Nat.reduceMul, Nat.reduceSub, Nat.reduceLT, Nat.reduceLeDiff, Nat.reduceEqDiff, Nat.reduceBEq, Int.reduceLT, Int.reduceLE, Int.reduceAdd, Int.reduceSub, Int.reduceMul, Int.reduceToNat, Int.reduceNeg, reduceIte, reduceCtorEq, reduceBEq]
    exact ⟨_, rfl, by simp [wkL, res2, res1, PV.weak, PV.el, End0]⟩
  · rw [newR, if_neg (by rw [h]; exact Bool.false_ne_true)]
    simp -implicitDefEqProofs only [push_cast, En.pv, En.cs, pcs, Int.reduceBEq, Int.reduceBNe, Int.reduceEq, Int.reduceNe, Int.reducePow, Nat.reduceAdd, Nat.reduceMul, Nat.reduceSub, Nat.reduceLT, Nat.reduceLeDiff, Nat.reduceEqDiff, Nat.reduceBEq, Int.reduceLT, Int.reduceLE, Int.reduceAdd, Int.reduceSub, Int.reduceMul, Int.reduceToNat, Int.reduceNeg, reduceIte, reduceCtorEq, reduceBEq]
    exact ⟨_, rfl, by simp [wkL, res2, res1, PV.weak, PV.el, End0]⟩
theorem or_add (k : Nat) {a b : Nat} (hb : b < 2 ^ k) (h : 2 ^ k * a + b < 9223372036854775808) : bitsI .or .i64 ((2 ^ k * a : Nat) : Int) (b : Int) = ((2 ^ k * a + b : Nat) : Int) := by
  show IntKind.i64.wrap ((BitVec.ofInt 64 ((2 ^ k * a : Nat) : Int) ||| BitVec.ofInt 64 (b : Int)).toNat : Nat) = _
  simp only [BitVec.ofInt_natCast, BitVec.toNat_or, BitVec.toNat_ofNat]
  rw [Nat.mod_eq_of_lt (by omega), Nat.mod_eq_of_lt (by omega), ← Nat.two_pow_add_eq_or_of_lt hb, wrap_i64_id (by omega) (by omega)]
/-- The number that four bytes are. -/
def fourN (b : List UInt8) : Nat := (b.getD 0 0).toNat * 16777216 + (b.getD 1 0).toNat * 65536 + (b.getD 2 0).toNat * 256 + (b.getD 3 0).toNat
theorem u8lt (x : UInt8) : x.toNat < 256 := x.toNat_lt
theorem four_fs (b : List UInt8) (h : 4 ≤ b.length) : Fsp Try.prog 37 [] 0 [.str b] [] 0 (.int .i64 (fourN b : Nat)) := by
  (refine Fsp.of (nx := 0) mixed Try.func37 rfl (by decide) (Nat.le_refl _) (by simp [Try.f37]) ⟨by decide, by decide⟩ ?_; simp -implicitDefEqProofs only [push_cast, Try.f37, Int.reduceBEq, Int.reduceBNe, Int.reduceEq, Int.reduceNe, Int.reducePow, Nat.reduceAdd, Nat.reduceMul, Nat.reduceSub, Nat.reduceLT, Nat.reduceLeDiff, Nat.reduceEqDiff, Nat.reduceBEq, Int.reduceLT, Int.reduceLE, Int.reduceAdd, Int.reduceSub, Int.reduceMul, Int.reduceToNat, Int.reduceNeg, reduceIte, reduceCtorEq, reduceBEq])
  refine ⟨by omega, by omega, by omega, by omega, by unfold drawOk; kernel_rfl, ?_⟩
  have h0 := u8lt (b.getD 0 0)
  have h1 := u8lt (b.getD 1 0)
  have h2 := u8lt (b.getD 2 0)
  have h3 := u8lt (b.getD 3 0)
  unfold fourN
  generalize (b.getD 0 0).toNat = x0 at *
  generalize (b.getD 1 0).toNat = x1 at *
  generalize (b.getD 2 0).toNat = x2 at *
  generalize (b.getD 3 0).toNat = x3 at *
  simp only [wrap_i64_id (n := (x0 : Int)) (by omega) (by omega), wrap_i64_id (n := (x1 : Int)) (by omega) (by omega), wrap_i64_id (n := (x2 : Int)) (by omega) (by omega), wrap_i64_id (n := (x3 : Int)) (by omega) (by omega),
    wrap_i64_id (n := (x0 : Int) * 16777216) (by omega) (by omega), wrap_i64_id (n := (x1 : Int) * 65536) (by omega) (by omega), wrap_i64_id (n := (x2 : Int) * 256) (by omega) (by omega)]
  rw [show (x0 : Int) * 16777216 = ((2 ^ 24 * x0 : Nat) : Int) by omega, show (x1 : Int) * 65536 = ((x1 * 65536 : Nat) : Int) by omega, or_add 24 (by omega) (by omega),
    show 2 ^ 24 * x0 + x1 * 65536 = 2 ^ 16 * (256 * x0 + x1) by omega, show (x2 : Int) * 256 = ((x2 * 256 : Nat) : Int) by omega, or_add 16 (by omega) (by omega),
    show 2 ^ 16 * (256 * x0 + x1) + x2 * 256 = 2 ^ 8 * (65536 * x0 + 256 * x1 + x2) by omega, or_add 8 (by omega) (by omega)]
  congr 1
  omega
end Go.Proofs.Lk
