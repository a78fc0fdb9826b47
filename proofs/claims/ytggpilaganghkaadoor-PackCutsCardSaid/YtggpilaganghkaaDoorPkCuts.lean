/- Requests' bytes: the head. Plain. -/
import Derived.Test.YtggpilaganghkaaDoorPkPGet
set_option maxRecDepth 100000
namespace Go.Proofs.Sh
open Go.Pv
theorem fmt_mod (o : Int) (f : Fm) (x : Fd) : (fmt o f x).length % 4 = 0 := by
  have hp : ∀ l : List UInt8, (p1 l).length % 4 = 0 := fun l => by
    simp only [p1, zeros, List.length_append, List.length_replicate, padN]; omega
  unfold fmt
  split
  · exact hp _
  · unfold fmt2
    split
    · exact hp _
    · exact hp _
theorem byteAt_of {n k : Nat} : (byteAt (n : Int) k).toNat = n / 256 ^ k % 256 := by
  have := byteAt_toNat (n : Int) k
  have h : ((256 : Int) ^ k) = ((256 ^ k : Nat) : Int) := by rw [Int.natCast_pow]; rfl
  rw [h, ← Int.natCast_ediv] at this
  omega
theorem enc2_0 (n : Int) : encB 0 2 n = [byteAt n 0, byteAt n 1] := rfl
theorem enc2_1 (n : Int) : encB 1 2 n = [byteAt n 1, byteAt n 0] := rfl
/-- A request's bytes, if they are. -/
theorem packS_shape {o : Int} {r : Rq} (h : (packS o r).2 = 0) : ∃ (f : Fm) (c x y : UInt8) (X : List UInt8), isOrd o = true ∧ formOf r.C = some f ∧ (packS o r).1 = c :: 0 :: x :: y :: X ∧ (c.toNat : Int) = r.C ∧
    4 * decU o [x, y] = X.length + 4 ∧ X.length + 4 ≤ 65536 ∧ X = fmt o f r.fd ∧ fitsE f r.fd = 0 := by
  cases ho : isOrd o
  · rw [packS, if_neg (by rw [ho]; simp)] at h; cases h
  · cases hf : formOf r.C with
    | none => rw [packS, if_pos ho, hf] at h; cases h
    | some f =>
      cases hE : (fitsE f r.fd != 0)
      · rcases Nat.lt_or_ge 65536 ((fmt o f r.fd).length + 4) with h1 | h1
        · rw [packS_big ho hf hE (by omega)] at h; cases h
        · obtain ⟨-, hc1, hc2⟩ := formOf_some hf
          rw [packS_ok ho hf hE h1]
          have hm := fmt_mod o f r.fd
          generalize hX : fmt o f r.fd = X at *
          obtain ⟨C, hC⟩ := Int.eq_ofNat_of_zero_le (show 0 ≤ r.C by omega)
          have hc : ((byteAt r.C 0).toNat : Int) = r.C := by
            rw [hC, byteAt_of]; omega
          have hz : byteAt 0 0 = 0 := by decide
          have hd2 : ∀ n : Nat, n < 65536 → (byteAt (n : Int) 0).toNat + 256 * (byteAt (n : Int) 1).toNat = n := fun n hn => by
            rw [byteAt_of, byteAt_of]; omega
          have hdd := hd2 (X.length / 4 + 1) (by omega)
          rcases isOrd_of ho with rfl | rfl
          · refine ⟨f, byteAt r.C 0, byteAt ((X.length / 4 + 1 : Nat) : Int) 0, byteAt ((X.length / 4 + 1 : Nat) : Int) 1, X, rfl, rfl, ?_, hc, ?_, h1, hX.symm, by simpa using hE⟩
            · rw [hd, enc1, enc1, enc2_0, hz]; rfl
            · simp [decU, little] at hdd ⊢; omega
          · refine ⟨f, byteAt r.C 0, byteAt ((X.length / 4 + 1 : Nat) : Int) 1, byteAt ((X.length / 4 + 1 : Nat) : Int) 0, X, rfl, rfl, ?_, hc, ?_, h1, hX.symm, by simpa using hE⟩
            · rw [hd, enc1, enc1, enc2_1, hz]; rfl
            · simp [decU, little] at hdd ⊢; omega
      · rw [packS_err ho hf hE] at h
        simp at hE
        exact absurd h hE
theorem packS_none {o : Int} {r : Rq} (h : ¬ (packS o r).2 = 0) : (packS o r).1 = [] := by
  cases ho : isOrd o
  · rw [packS, if_neg (by rw [ho]; simp)]
  · cases hf : formOf r.C with
    | none => rw [packS, if_pos ho, hf]
    | some f =>
      cases hE : (fitsE f r.fd != 0)
      · rcases Nat.lt_or_ge 65536 ((fmt o f r.fd).length + 4) with h1 | h1
        · rw [packS_big ho hf hE (by omega)]
        · rw [packS_ok ho hf hE h1] at h; exact absurd rfl h
      · rw [packS_err ho hf hE]
/-- What is told of bytes that have a request's head. -/
theorem lenR_head {o : Int} (ho : isOrd o = true) {t : List UInt8} {x y : UInt8} {m : Nat} (h4 : 4 ≤ t.length) (h2 : t.getD 2 0 = x) (h3 : t.getD 3 0 = y) (hm : 4 * decU o [x, y] = m) (h0 : 0 < m) (h1 : m ≤ 65536) : lenR o t = ((m : Int), 0) := by
  have hn : lenN o t = decU o [x, y] := by rw [lenN, two_of h4, h2, h3]
  rw [lenR, if_pos ho, if_neg (by omega), if_neg (by omega), if_neg (by omega), hn, hm]
theorem getP_head {o : Int} (ho : isOrd o = true) {t : List UInt8} {c : UInt8} {f : Fm} (h4 : 4 ≤ t.length) (hc : t.getD 0 0 = c) (hf : formOf (c.toNat : Int) = some f) : getP o t = getQ o t f :=
  getP_some ho (by omega) (by rw [hc]; exact hf)
/-- Cut short: none. -/
theorem cut_none {o : Int} (ho : isOrd o = true) {c x y : UInt8} {X : List UInt8} {f : Fm} (hf : formOf (c.toNat : Int) = some f) (hm : 4 * decU o [x, y] = X.length + 4) (h1 : X.length + 4 ≤ 65536) {k : Nat} (hk : k < X.length + 4) :
    ¬ (getP o ((c :: 0 :: x :: y :: X).take k)).2 = 0 := by
  rcases Nat.lt_or_ge k 4 with h4 | h4
  · rw [getP, if_pos ho, if_pos (by simp; omega)]; simp
  · obtain ⟨k, rfl⟩ := Nat.exists_eq_add_of_le' h4
    have ht : (c :: 0 :: x :: y :: X).take (k + 4) = c :: 0 :: x :: y :: X.take k := rfl
    rw [ht, getP_head (t := c :: 0 :: x :: y :: X.take k) (c := c) ho (by simp) rfl hf, getQ, lenR_head (t := c :: 0 :: x :: y :: X.take k) (x := x) (y := y) ho (m := X.length + 4) (by simp) rfl rfl hm (by omega) h1, if_pos rfl, if_neg (by simp; omega)]
    simp
/-- One more: none. -/
theorem more_none {o : Int} (ho : isOrd o = true) {c x y z : UInt8} {X : List UInt8} {f : Fm} (hf : formOf (c.toNat : Int) = some f) (hm : 4 * decU o [x, y] = X.length + 4) (h1 : X.length + 4 ≤ 65536) :
    (getP o (c :: 0 :: x :: y :: (X ++ [z]))).2 = 17 := by
  rw [getP_head (t := c :: 0 :: x :: y :: (X ++ [z])) (c := c) ho (by simp) rfl hf, getQ, lenR_head (t := c :: 0 :: x :: y :: (X ++ [z])) (x := x) (y := y) ho (m := X.length + 4) (by simp) rfl rfl hm (by omega) h1, if_pos rfl, if_neg (by simp; omega)]
/-- Another second byte: none. -/
theorem form_none {o : Int} (ho : isOrd o = true) {c x y z : UInt8} {X : List UInt8} {f : Fm} (hf : formOf (c.toNat : Int) = some f) (hm : 4 * decU o [x, y] = X.length + 4) (h1 : X.length + 4 ≤ 65536) (hz : z ≠ 0) :
    (getP o (c :: z :: x :: y :: X)).2 = 2 := by
  rw [getP_head (t := c :: z :: x :: y :: X) (c := c) ho (by simp) rfl hf, getQ, lenR_head (t := c :: z :: x :: y :: X) (x := x) (y := y) ho (m := X.length + 4) (by simp) rfl rfl hm (by omega) h1, if_pos rfl, if_pos (by simp; omega), if_neg (by simpa using hz)]
end Go.Proofs.Sh

/- PackCuts. -/
set_option maxRecDepth 100000
set_option linter.unusedSimpArgs false
set_option linter.unusedVariables false
namespace Go.Proofs.Sh
open Go.Pv

theorem or1 : ∀ z : Nat, z < 256 → UInt8.ofNat (bitsI .or .u8 (z : Int) 1).toNat ≠ 0 := by
  decide +kernel
set_option maxHeartbeats 4000000 in
theorem packCuts_fs (r : Rq) (a k z : Nat) (ha : a < 256) (hk : k < 65536) (hz : z < 256) : Fsp Tryd.prog 6 [] 0 [r.pv, .int .u8 a, .int .u16 k, .int .u8 z] [] 0 (.bool true) := by
  have hfw := few_fs r
  simp only [Rq.pv] at hfw
  cases hb : isFew r
  · rw [hb] at hfw
    (refine Fsp.of (nx := 0) mixed Tryd.func6 rfl (by decide) (by first | exact Nat.le_refl _ | simp) (by simp [Tryd.f6]) ⟨by decide, by decide⟩ ?_; simp -implicitDefEqProofs only [push_cast, Tryd.f6, Rq.pv, Int.reduceBEq, Int.reduceBNe, Int.reduceEq, Int.reduceNe, Int.reducePow, Nat.reduceAdd, Nat.reduceMul, Nat.reduceSub, Nat.reduceLT, Nat.reduceLeDiff, Nat.reduceEqDiff, Nat.reduceBEq, Int.reduceLT, Int.reduceLE, Int.reduceAdd, Int.reduceSub, Int.reduceMul, Int.reduceToNat, Int.reduceNeg, reduceIte, reduceCtorEq, reduceBEq])
    refine callE_pure hfw (by rfl) (by rfl) (by rfl) (by decide) (by rfl) (fun _ => by rfl) (by first | rfl | simp [gdOk, newToks]) ?_
    simp -implicitDefEqProofs only [push_cast, Int.reduceBEq, Int.reduceBNe, Int.reduceEq, Int.reduceNe, Int.reducePow, Nat.reduceAdd, Nat.reduceMul, Nat.reduceSub, Nat.reduceLT, Nat.reduceLeDiff, Nat.reduceEqDiff, Nat.reduceBEq, Int.reduceLT, Int.reduceLE, Int.reduceAdd, Int.reduceSub, Int.reduceMul, Int.reduceToNat, Int.reduceNeg, reduceIte, reduceCtorEq, reduceBEq]
    refine callE_pure awake_fs (by rfl) (by rfl) (by rfl) (by decide) (by rfl) (fun _ => by rfl) (by first | rfl | simp [gdOk, newToks]) ?_
    simp -implicitDefEqProofs only [push_cast, Int.reduceBEq, Int.reduceBNe, Int.reduceEq, Int.reduceNe, Int.reducePow, Nat.reduceAdd, Nat.reduceMul, Nat.reduceSub, Nat.reduceLT, Nat.reduceLeDiff, Nat.reduceEqDiff, Nat.reduceBEq, Int.reduceLT, Int.reduceLE, Int.reduceAdd, Int.reduceSub, Int.reduceMul, Int.reduceToNat, Int.reduceNeg, reduceIte, reduceCtorEq, reduceBEq]
  · rw [hb] at hfw
    obtain ⟨m, hm⟩ : ∃ m, m = a % 2 := ⟨_, rfl⟩
    have w1 : Int.tmod (a : Int) 2 = (m : Int) := by rw [Int.tmod_eq_emod_of_nonneg (by omega)]; omega
    have w2 : IntKind.i64.wrap (m : Int) = (m : Int) := by rw [wrap_i64_id (by omega) (by omega)]
    have w3 : IntKind.i64.wrap (k : Int) = (k : Int) := by rw [wrap_i64_id (by omega) (by omega)]
    have hp := packPut_fs (m : Int) r (isFew_of hb)
    have hsh := @packS_shape (m : Int) r
    have hno := @packS_none (m : Int) r
    simp only [Rq.pv, packR] at hp
    generalize packS (m : Int) r = p at *
    obtain ⟨s, e⟩ := p
    simp only at hp hsh hno
    (refine Fsp.of (nx := 0) mixed Tryd.func6 rfl (by decide) (by first | exact Nat.le_refl _ | simp) (by simp [Tryd.f6]) ⟨by decide, by decide⟩ ?_; simp -implicitDefEqProofs only [push_cast, Tryd.f6, Rq.pv, Int.reduceBEq, Int.reduceBNe, Int.reduceEq, Int.reduceNe, Int.reducePow, Nat.reduceAdd, Nat.reduceMul, Nat.reduceSub, Nat.reduceLT, Nat.reduceLeDiff, Nat.reduceEqDiff, Nat.reduceBEq, Int.reduceLT, Int.reduceLE, Int.reduceAdd, Int.reduceSub, Int.reduceMul, Int.reduceToNat, Int.reduceNeg, reduceIte, reduceCtorEq, reduceBEq])
    refine callE_pure hfw (by rfl) (by rfl) (by rfl) (by decide) (by rfl) (fun _ => by rfl) (by first | rfl | simp [gdOk, newToks]) ?_
    simp -implicitDefEqProofs only [push_cast, w1, w2, Int.reduceBEq, Int.reduceBNe, Int.reduceEq, Int.reduceNe, Int.reducePow, Nat.reduceAdd, Nat.reduceMul, Nat.reduceSub, Nat.reduceLT, Nat.reduceLeDiff, Nat.reduceEqDiff, Nat.reduceBEq, Int.reduceLT, Int.reduceLE, Int.reduceAdd, Int.reduceSub, Int.reduceMul, Int.reduceToNat, Int.reduceNeg, reduceIte, reduceCtorEq, reduceBEq]
    refine callE_pure hp (by rfl) (by rfl) (by rfl) (by decide) (by rfl) (fun _ => by rfl) (by first | rfl | simp [gdOk, newToks]) ?_
    cases h2 : (e != 0)
    · obtain rfl : e = 0 := by simpa using h2
      obtain ⟨f, c, x, y, X, ho, hf, hs, hc, h4, hl, -, -⟩ := hsh rfl
      have hsl : s.length = X.length + 4 := by rw [hs]; rfl
      have h3 : decide ((s.length : Int) < 4) = false := by simp; omega
      obtain ⟨j, hj⟩ : ∃ j, j = k % s.length := ⟨_, rfl⟩
      have hjl : j < s.length := by rw [hj]; exact Nat.mod_lt _ (by omega)
      have w4 : Int.tmod (k : Int) (s.length : Int) = (j : Int) := by rw [Int.tmod_eq_emod_of_nonneg (Int.natCast_nonneg _), hj]; exact (Int.natCast_emod _ _).symm
      have w5 : IntKind.i64.wrap (j : Int) = (j : Int) := by rw [wrap_i64_id (by omega) (by omega)]
      simp -implicitDefEqProofs only [push_cast, h3, w3, w4, w5, Int.reduceBEq, Int.reduceBNe, Int.reduceEq, Int.reduceNe, Int.reducePow, Nat.reduceAdd, Nat.reduceMul, Nat.reduceSub, Nat.reduceLT, Nat.reduceLeDiff, Nat.reduceEqDiff, Nat.reduceBEq, Int.reduceLT, Int.reduceLE, Int.reduceAdd, Int.reduceSub, Int.reduceMul, Int.reduceToNat, Int.reduceNeg, reduceIte, reduceCtorEq, reduceBEq]
      obtain ⟨q, hq⟩ : ∃ q, q = UInt8.ofNat (bitsI .or .u8 (z : Int) 1).toNat := ⟨_, rfl⟩
      have hq0 : q ≠ 0 := by rw [hq]; exact or1 z hz
      have hA := packGet_fs (m : Int) (s.take j) (by simp; omega)
      have hB := packGet_fs (m : Int) (s ++ [UInt8.ofNat z]) (by simp; omega)
      have hC := packGet_fs (m : Int) (s.take 1 ++ q :: s.drop 2) (by simp; omega)
      have htk : List.take (s.length - 2) (List.drop 2 s) = List.drop 2 s := List.take_of_length_le (by simp)
      have eA : ¬ (getP (m : Int) (s.take j)).2 = 0 := by rw [hs]; exact cut_none ho (by rw [hc]; exact hf) h4 hl (by omega)
      have eB : (getP (m : Int) (s ++ [UInt8.ofNat z])).2 = 17 := by rw [hs]; exact more_none ho (by rw [hc]; exact hf) h4 hl
      have eC : (getP (m : Int) (s.take 1 ++ q :: s.drop 2)).2 = 2 := by rw [hs]; exact form_none ho (by rw [hc]; exact hf) h4 hl hq0
      simp only [getPR] at hA hB hC
      generalize hgA : getP (m : Int) (s.take j) = GA at *
      generalize hgB : getP (m : Int) (s ++ [UInt8.ofNat z]) = GB at *
      generalize hgC : getP (m : Int) (s.take 1 ++ q :: s.drop 2) = GC at *
      obtain ⟨⟨c1, N1, B1, L1⟩, e1⟩ := GA
      obtain ⟨⟨c2, N2, B2, L2⟩, e2⟩ := GB
      obtain ⟨⟨c3, N3, B3, L3⟩, e3⟩ := GC
      simp only at eA eB eC
      subst eB
      subst eC
      have hn1 : (e1 != 0) = true := by simp [eA]
      simp only [Rq.pv] at hA hB hC
      refine ⟨by omega, by omega, ?_⟩
      have hqs := hq.symm
      refine callE_pure hA (by rfl) (by rfl) (by rfl) (by decide) (by rfl) (fun _ => by rfl) (by first | rfl | simp [gdOk, newToks]) ?_
      simp -implicitDefEqProofs only [push_cast, Int.reduceBEq, Int.reduceBNe, Int.reduceEq, Int.reduceNe, Int.reducePow, Nat.reduceAdd, Nat.reduceMul, Nat.reduceSub, Nat.reduceLT, Nat.reduceLeDiff, Nat.reduceEqDiff, Nat.reduceBEq, Int.reduceLT, Int.reduceLE, Int.reduceAdd, Int.reduceSub, Int.reduceMul, Int.reduceToNat, Int.reduceNeg, reduceIte, reduceCtorEq, reduceBEq]
      refine ⟨by omega, ?_⟩
      refine callE_pure hB (by rfl) (by rfl) (by rfl) (by decide) (by rfl) (fun _ => by rfl) (by first | rfl | simp [gdOk, newToks]) ?_
      simp -implicitDefEqProofs only [push_cast, hqs, htk, Int.reduceBEq, Int.reduceBNe, Int.reduceEq, Int.reduceNe, Int.reducePow, Nat.reduceAdd, Nat.reduceMul, Nat.reduceSub, Nat.reduceLT, Nat.reduceLeDiff, Nat.reduceEqDiff, Nat.reduceBEq, Int.reduceLT, Int.reduceLE, Int.reduceAdd, Int.reduceSub, Int.reduceMul, Int.reduceToNat, Int.reduceNeg, reduceIte, reduceCtorEq, reduceBEq]
      (repeat (first | refine ⟨by omega, ?_⟩ | refine ⟨by (unfold drawOk; kernel_rfl), ?_⟩))
      refine ⟨by simp only [List.length_take]; omega, by omega, by omega, by simp only [List.length_append, List.length_take, List.length_drop, List.length_cons, List.length_nil]; omega, ?_⟩
      refine callE_pure hC (by rfl) (by rfl) (by rfl) (by decide) (by rfl) (fun _ => by rfl) (by first | rfl | simp [gdOk, newToks]) ?_
      simp -implicitDefEqProofs only [push_cast, hn1, Int.reduceBEq, Int.reduceBNe, Int.reduceEq, Int.reduceNe, Int.reducePow, Nat.reduceAdd, Nat.reduceMul, Nat.reduceSub, Nat.reduceLT, Nat.reduceLeDiff, Nat.reduceEqDiff, Nat.reduceBEq, Int.reduceLT, Int.reduceLE, Int.reduceAdd, Int.reduceSub, Int.reduceMul, Int.reduceToNat, Int.reduceNeg, reduceIte, reduceCtorEq, reduceBEq]
      (repeat (first | refine ⟨by omega, ?_⟩ | refine ⟨by (unfold drawOk; kernel_rfl), ?_⟩))
      refine callE_pure awake_fs (by rfl) (by rfl) (by rfl) (by decide) (by rfl) (fun _ => by rfl) (by first | rfl | simp [gdOk, newToks]) ?_
      simp -implicitDefEqProofs only [push_cast, Int.reduceBEq, Int.reduceBNe, Int.reduceEq, Int.reduceNe, Int.reducePow, Nat.reduceAdd, Nat.reduceMul, Nat.reduceSub, Nat.reduceLT, Nat.reduceLeDiff, Nat.reduceEqDiff, Nat.reduceBEq, Int.reduceLT, Int.reduceLE, Int.reduceAdd, Int.reduceSub, Int.reduceMul, Int.reduceToNat, Int.reduceNeg, reduceIte, reduceCtorEq, reduceBEq]
    · have he : ¬ e = 0 := by simpa using h2
      obtain rfl := hno he
      simp -implicitDefEqProofs only [push_cast, h2, Int.reduceBEq, Int.reduceBNe, Int.reduceEq, Int.reduceNe, Int.reducePow, Nat.reduceAdd, Nat.reduceMul, Nat.reduceSub, Nat.reduceLT, Nat.reduceLeDiff, Nat.reduceEqDiff, Nat.reduceBEq, Int.reduceLT, Int.reduceLE, Int.reduceAdd, Int.reduceSub, Int.reduceMul, Int.reduceToNat, Int.reduceNeg, reduceIte, reduceCtorEq, reduceBEq]
      refine callE_pure awake_fs (by rfl) (by rfl) (by rfl) (by decide) (by rfl) (fun _ => by rfl) (by first | rfl | simp [gdOk, newToks]) ?_
      simp -implicitDefEqProofs only [push_cast, Int.reduceBEq, Int.reduceBNe, Int.reduceEq, Int.reduceNe, Int.reducePow, Nat.reduceAdd, Nat.reduceMul, Nat.reduceSub, Nat.reduceLT, Nat.reduceLeDiff, Nat.reduceEqDiff, Nat.reduceBEq, Int.reduceLT, Int.reduceLE, Int.reduceAdd, Int.reduceSub, Int.reduceMul, Int.reduceToNat, Int.reduceNeg, reduceIte, reduceCtorEq, reduceBEq]

end Go.Proofs.Sh
