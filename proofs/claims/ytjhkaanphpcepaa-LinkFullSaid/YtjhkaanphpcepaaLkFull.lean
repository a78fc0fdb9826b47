/- LinkFull. -/
import Derived.Test.YtjhkaanphpcepaaLkNumd
import Derived.Test.YtjhkaanphpcepaaLkAwake
set_option maxRecDepth 100000
set_option linter.unusedSimpArgs false
set_option linter.unusedVariables false
namespace Go.Proofs.Lk
open Go.Pv


theorem sendR_ok {e : En} {b : List UInt8} (hm : e.most ≠ 0) (h : e.tot + b.length ≤ 65536) : sendR e b = .tup [(e.sendE b).pv, .int .i64 0] := by
  have h2 : ¬ ((65536 : Int) < ((e.rest.length + b.length + pcSum e.way : Nat) : Int)) := by unfold En.tot at h; omega
  rw [sendR, if_neg (by simpa using hm), if_neg (by simpa using h2)]
theorem sendR_full {e : En} {b : List UInt8} (hm : e.most ≠ 0) (h : 65536 < e.tot + b.length) : sendR e b = .tup [e.pv, .int .i64 12] := by
  have h2 : ((65536 : Int) < ((e.rest.length + b.length + pcSum e.way : Nat) : Int)) := by unfold En.tot at h; omega
  rw [sendR, if_neg (by simpa using hm), if_pos (by simpa using h2)]
theorem sendE_ok {e : En} (b : List UInt8) (he : e.Ok) (hb : e.rest.length + b.length ≤ 1000000) (hn : e.next + 17 ≤ 1000000000) : (e.sendE b).Ok ∧ Numd { e with rest := e.rest ++ b } (e.sendE b) 17 := by
  have i := numL_numd 17 { e with rest := e.rest ++ b } he.m0 he.w
  have im := i.most; have ie := i.exp; have ia := i.aside; have ir := i.read; have iw := i.way; have il := i.le; have inx := i.next; have irs := i.rest
  refine ⟨⟨by rw [En.sendE, En.number, im]; exact he.m0, by rw [En.sendE, En.number, im]; exact he.m1, iw, i.bs 1000000 he.wb he.m1, Int.le_trans he.n0 il, Int.le_trans inx hn, ?_, ?_, ?_, ?_, ?_, ?_⟩, i⟩
  · refine Nat.le_trans irs ?_
    simp only [List.length_append]; exact hb
  · rw [En.sendE, En.number, ie]; exact he.e0
  · rw [En.sendE, En.number, ie]; exact he.e1
  · rw [En.sendE, En.number, ia]; exact he.a16
  · rw [En.sendE, En.number, ia]; exact he.al
  · rw [En.sendE, En.number, ir]; exact he.rl
theorem sendE_way {e : En} (b : List UInt8) (h : e.way.length = 16) : (e.sendE b).way = e.way := by
  show (if _ then _ else _ : En).way = _
  rw [if_neg]
  simp only [Bool.and_eq_true, decide_eq_true_eq]
  omega
theorem dueStr_all (e : En) {l : List Pc} (h : ∀ p ∈ l, p.due = true) : (dueStr e l).length = l.length := by
  rw [dueStr, List.length_map, List.filter_eq_self.2 h]
/-- Behind all that LinkFull sends. -/
theorem full_plain (x : Int) (x0 : 1 ≤ x) (x1 : x ≤ 200) (e : En) (he : e = { End0 with most := x }) (z1 z2 : List UInt8) (n0 : 64500 ≤ z1.length) (n1 : z1.length ≤ 65499) (hz : z1.length + z2.length = 65536) :
    e.Ok ∧ e.most = x ∧ e.tot = 0 ∧ (e.sendE z1).Ok ∧ (e.sendE z1).most = x ∧ (e.sendE z1).tot = z1.length ∧ ((e.sendE z1).sendE z2).Ok ∧ ((e.sendE z1).sendE z2).most = x ∧ ((e.sendE z1).sendE z2).tot = 65536 ∧
      ((e.sendE z1).sendE z2).dueP.length = 16 := by
  have hok : e.Ok := by
    subst he
    exact ⟨by simp only [End0]; omega, by simp only [End0]; omega, Nat.zero_le _, (fun p hp => by cases hp), Int.le_refl _, by simp [End0], Nat.zero_le _, Int.le_refl _, by simp [End0], fun j _ => rfl, fun j => Nat.zero_le _, Nat.zero_le _⟩
  have hm : e.most = x := by rw [he]
  have ht : e.tot = 0 := by rw [he]; rfl
  have hr : e.rest = [] := by rw [he]; rfl
  have hw : e.way = [] := by rw [he]; rfl
  have hnx : e.next = 0 := by rw [he]; rfl
  obtain ⟨k1, i1⟩ := sendE_ok z1 hok (by rw [hr]; simp; omega) (by rw [hnx]; omega)
  have m1 : (e.sendE z1).most = x := by rw [i1.most]; exact hm
  have t1 : (e.sendE z1).tot = z1.length := by rw [i1.tot]; simp [En.tot, hr, hw, pcSum]
  have nx1 : (e.sendE z1).next ≤ 17 := by have := i1.next; simp only [hnx] at this; omega
  have rl1 : (e.sendE z1).rest.length ≤ z1.length := by have := i1.rest; simpa [hr] using this
  have w1 : (e.sendE z1).way.length = 16 := by
    refine numL_full 17 _ (by rw [hm]; exact x0) (by simp [hw]) (by simp [hw]) ?_
    simp only [hw, hr, hm, List.length_nil, List.nil_append]
    omega
  have d1 : ∀ p ∈ (e.sendE z1).way, p.due = true := i1.due (fun p hp => by simp [hw] at hp)
  obtain ⟨k2, i2⟩ := sendE_ok z2 k1 (by omega) (by omega)
  have w2 : ((e.sendE z1).sendE z2).way = (e.sendE z1).way := sendE_way z2 w1
  have d2 : (dueStr ((e.sendE z1).sendE z2) ((e.sendE z1).sendE z2).way).length = 16 := by
    rw [dueStr_all _ (by rw [w2]; exact d1), w2, w1]
  refine ⟨hok, hm, ht, k1, m1, t1, k2, by rw [i2.most]; exact m1, ?_, ?_⟩
  · rw [i2.tot, En.tot]
    have : (e.sendE z1).tot = _ := t1
    unfold En.tot at this
    simp only [List.length_append]
    omega
  · rw [En.dueP, if_neg]
    · exact d2
    · rintro ⟨h, _⟩
      rw [h] at d2
      simp at d2
def zs (n : Nat) : List UInt8 := (List.replicate n (PV.int .u8 0)).map Pv.byteOf
theorem zs_len (n : Nat) : (zs n).length = n := by simp [zs]
theorem linkFull_fs (m r : Int) (h0 : 0 ≤ m) (h1 : m ≤ 255) (r0 : 0 ≤ r) (r1 : r ≤ 65535) : Fsp Try.prog 4 [] 0 [.int .u8 m, .int .u16 r] [] 0 (.bool true) := by
  obtain ⟨x, hx, x0, x1⟩ : ∃ x : Int, IntKind.i64.wrap (1 + IntKind.i64.wrap (m.tmod 200)) = x ∧ 1 ≤ x ∧ x ≤ 200 := by
    rw [Int.tmod_eq_emod_of_nonneg h0, wrap_i64_id (n := m % 200) (by omega) (by omega), wrap_i64_id (by omega) (by omega)]
    exact ⟨1 + m % 200, rfl, by omega, by omega⟩
  obtain ⟨n, hn, n0, n1⟩ : ∃ n : Nat, IntKind.i64.wrap (64500 + IntKind.i64.wrap (r.tmod 1000)) = (n : Int) ∧ 64500 ≤ n ∧ n ≤ 65499 := by
    rw [Int.tmod_eq_emod_of_nonneg r0, wrap_i64_id (n := r % 1000) (by omega) (by omega), wrap_i64_id (by omega) (by omega)]
    exact ⟨(64500 + r % 1000).toNat, by omega, by omega, by omega⟩
  have hn2 : IntKind.i64.wrap (65536 - (n : Int)) = ((65536 - n : Nat) : Int) := by rw [wrap_i64_id (by omega) (by omega)]; omega
  have hn3 : IntKind.i64.wrap (65537 - (n : Int)) = ((65537 - n : Nat) : Int) := by rw [wrap_i64_id (by omega) (by omega)]; omega
  have hnew := new_fs x
  rw [newR, if_neg (by simp; omega)] at hnew
  obtain ⟨e, he⟩ : ∃ e : En, e = { End0 with most := x } := ⟨_, rfl⟩
  rw [← he] at hnew
  obtain ⟨k0, m0, t0, k1, m1, t1, k2, m2, t2, hd⟩ := full_plain x x0 x1 e he (zs n) (zs (65536 - n)) (by rw [zs_len]; omega) (by rw [zs_len]; omega) (by rw [zs_len, zs_len]; omega)
  rw [zs_len] at t1
  have hs1 := send_fs e (zs n) k0 (by rw [zs_len]; omega)
  rw [sendR_ok (by omega) (by rw [zs_len]; omega)] at hs1
  generalize e.sendE (zs n) = e1 at *
  have hs2 := send_fs e1 (zs (65536 - n)) k1 (by rw [zs_len]; omega)
  rw [sendR_ok (by omega) (by rw [zs_len]; omega)] at hs2
  generalize e1.sendE (zs (65536 - n)) = e2 at *
  have hs3 := send_fs e2 [97] k2 (by simp)
  rw [sendR_full (by omega) (by rw [t2]; simp)] at hs3
  have hs4 := send_fs e1 (zs (65537 - n)) k1 (by rw [zs_len]; omega)
  rw [sendR_full (by omega) (by rw [zs_len]; omega)] at hs4
  have hdue := due_fs e2 (by have := k2.w; omega) k2.wb
  simp only [En.pv, En.cs, pcs] at hs1 hs2 hs3 hs4 hdue
  (refine Fsp.of (nx := 0) mixed Try.func4 rfl (by decide) (by first | exact Nat.le_refl _ | simp) (by simp [Try.f4]) ⟨by decide, by decide⟩ ?_; simp -implicitDefEqProofs only [push_cast, Try.f4, Int.reduceBEq, Int.reduceBNe, Int.reduceEq, Int.reduceNe, Int.reducePow, Nat.reduceAdd, Nat.reduceMul, Nat.reduceSub, Nat.reduceLT, Nat.reduceLeDiff, Nat.reduceEqDiff, Nat.reduceBEq, Int.reduceLT, Int.reduceLE, Int.reduceAdd, Int.reduceSub, Int.reduceMul, Int.reduceToNat, Int.reduceNeg, reduceIte, reduceCtorEq, reduceBEq])
  rw [hx]
  refine callE_pure hnew (by rfl) (by rfl) (by rfl) (by decide) (by rfl) (fun _ => by rfl) (by first | rfl | simp [gdOk, newToks]) ?_
  simp -implicitDefEqProofs only [push_cast, hn, En.pv, En.cs, pcs, Int.reduceBEq, Int.reduceBNe, Int.reduceEq, Int.reduceNe, Int.reducePow, Nat.reduceAdd, Nat.reduceMul, Nat.reduceSub, Nat.reduceLT, Nat.reduceLeDiff, Nat.reduceEqDiff, Nat.reduceBEq, Int.reduceLT, Int.reduceLE, Int.reduceAdd, Int.reduceSub, Int.reduceMul, Int.reduceToNat, Int.reduceNeg, reduceIte, reduceCtorEq, reduceBEq]
  refine ⟨Int.le_refl _, by omega, by omega, by simp [isByte], ?_⟩
  refine callE_pure hs1 (by rfl) (by rfl) (by rfl) (by decide) (by rfl) (fun _ => by rfl) (by first | rfl | simp [gdOk, newToks]) ?_
  simp -implicitDefEqProofs only [push_cast, hn2, Int.reduceBEq, Int.reduceBNe, Int.reduceEq, Int.reduceNe, Int.reducePow, Nat.reduceAdd, Nat.reduceMul, Nat.reduceSub, Nat.reduceLT, Nat.reduceLeDiff, Nat.reduceEqDiff, Nat.reduceBEq, Int.reduceLT, Int.reduceLE, Int.reduceAdd, Int.reduceSub, Int.reduceMul, Int.reduceToNat, Int.reduceNeg, reduceIte, reduceCtorEq, reduceBEq]
  refine ⟨by (unfold drawOk; kernel_rfl), ?_⟩
  refine ⟨Int.le_refl _, by omega, by omega, by simp [isByte], ?_⟩
  refine callE_pure hs2 (by rfl) (by rfl) (by rfl) (by decide) (by rfl) (fun _ => by rfl) (by first | rfl | simp [gdOk, newToks]) ?_
  simp -implicitDefEqProofs only [push_cast, Int.reduceBEq, Int.reduceBNe, Int.reduceEq, Int.reduceNe, Int.reducePow, Nat.reduceAdd, Nat.reduceMul, Nat.reduceSub, Nat.reduceLT, Nat.reduceLeDiff, Nat.reduceEqDiff, Nat.reduceBEq, Int.reduceLT, Int.reduceLE, Int.reduceAdd, Int.reduceSub, Int.reduceMul, Int.reduceToNat, Int.reduceNeg, reduceIte, reduceCtorEq, reduceBEq]
  refine ⟨by (unfold drawOk; kernel_rfl), ?_⟩
  refine callE_pure hs3 (by rfl) (by rfl) (by rfl) (by decide) (by rfl) (fun _ => by rfl) (by first | rfl | simp [gdOk, newToks]) ?_
  simp -implicitDefEqProofs only [push_cast, Int.reduceBEq, Int.reduceBNe, Int.reduceEq, Int.reduceNe, Int.reducePow, Nat.reduceAdd, Nat.reduceMul, Nat.reduceSub, Nat.reduceLT, Nat.reduceLeDiff, Nat.reduceEqDiff, Nat.reduceBEq, Int.reduceLT, Int.reduceLE, Int.reduceAdd, Int.reduceSub, Int.reduceMul, Int.reduceToNat, Int.reduceNeg, reduceIte, reduceCtorEq, reduceBEq]
  refine callE_pure hdue (by rfl) (by rfl) (by rfl) (by decide) (by rfl) (fun _ => by rfl) (by first | rfl | simp [gdOk, newToks]) ?_
  simp -implicitDefEqProofs only [push_cast, hn3, Int.reduceBEq, Int.reduceBNe, Int.reduceEq, Int.reduceNe, Int.reducePow, Nat.reduceAdd, Nat.reduceMul, Nat.reduceSub, Nat.reduceLT, Nat.reduceLeDiff, Nat.reduceEqDiff, Nat.reduceBEq, Int.reduceLT, Int.reduceLE, Int.reduceAdd, Int.reduceSub, Int.reduceMul, Int.reduceToNat, Int.reduceNeg, reduceIte, reduceCtorEq, reduceBEq]
  refine ⟨Int.le_refl _, by omega, by omega, by simp [isByte], ?_⟩
  refine callE_pure hs4 (by rfl) (by rfl) (by rfl) (by decide) (by rfl) (fun _ => by rfl) (by first | rfl | simp [gdOk, newToks]) ?_
  simp -implicitDefEqProofs only [push_cast, hd, List.length_map, Int.reduceBEq, Int.reduceBNe, Int.reduceEq, Int.reduceNe, Int.reducePow, Nat.reduceAdd, Nat.reduceMul, Nat.reduceSub, Nat.reduceLT, Nat.reduceLeDiff, Nat.reduceEqDiff, Nat.reduceBEq, Int.reduceLT, Int.reduceLE, Int.reduceAdd, Int.reduceSub, Int.reduceMul, Int.reduceToNat, Int.reduceNeg, reduceIte, reduceCtorEq, reduceBEq]
  refine ⟨by (unfold drawOk; kernel_rfl), ?_⟩
  refine callE_pure awake_fs (by rfl) (by rfl) (by rfl) (by decide) (by rfl) (fun _ => by rfl) (by first | rfl | simp [gdOk, newToks]) ?_
  simp -implicitDefEqProofs only [push_cast, Int.reduceBEq, Int.reduceBNe, Int.reduceEq, Int.reduceNe, Int.reducePow, Nat.reduceAdd, Nat.reduceMul, Nat.reduceSub, Nat.reduceLT, Nat.reduceLeDiff, Nat.reduceEqDiff, Nat.reduceBEq, Int.reduceLT, Int.reduceLE, Int.reduceAdd, Int.reduceSub, Int.reduceMul, Int.reduceToNat, Int.reduceNeg, reduceIte, reduceCtorEq, reduceBEq]
end Go.Proofs.Lk
