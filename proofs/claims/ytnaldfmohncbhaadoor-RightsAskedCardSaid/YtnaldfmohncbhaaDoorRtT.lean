/- The law Asked. -/
import Derived.Test.YtnaldfmohncbhaaDoorRtJ
set_option maxRecDepth 100000
set_option linter.unusedSimpArgs false
set_option linter.unusedVariables false
namespace Go.Proofs.Sh
open Go.Pv
theorem new_fs' : Fsp Tryd.prog 21 [] 0 [] [] 0 (.agg [.nilm, .nilm]) := new_fs
/-- What is said to a client. -/
def sdP (c k : Int) (n : List Int) : PV := .agg [.int .i64 c, .int .i64 2, .int .i64 k, .int .i64 0, .sl 1 (n.map (PV.int .i64 ·)), .str [], .nilsl]
theorem mset_nil (k v : PV) : mset [] k v = [(k, v)] := rfl
def w64 (n : Int) : Int := IntKind.i64.wrap n
theorem event_fs (c k : Int) (n : List Int) : Fsp Tryd.prog 37 [] 0 [.int .i64 c, .int .i64 k, .sl 1 (n.map (PV.int .i64 ·))] [] 0 (sdP c k n) := by
  unfold sdP
  (refine Fsp.ofs (nx := 0) mixed Tryd.func37 rfl (by simp [Tryd.f37]) ?_; simp -implicitDefEqProofs only [push_cast, Tryd.f37, seval])
  all_goals (first | done | rfl | exact ⟨_, rfl, by simp [wkL, res2, res1, PV.weak, PV.el]⟩ | (simp [wkL, res2, res1, PV.weak, PV.el]; done))
theorem refusal_fs (k r s t p i : Int) : Fsp Tryd.prog 40 [] 0 [.agg [.int .i64 k, .int .u32 r, .int .u32 s, .int .u32 t, .int .u32 p, .int .u32 i]] [] 0 (sdP k 24 [w64 r, w64 s, w64 t, 0, w64 i]) := by
  have he := event_fs k 24 [w64 r, w64 s, w64 t, 0, w64 i]
  unfold sdP at *
  unfold w64 at *
  simp only [List.map_cons, List.map_nil] at *
  (refine Fsp.ofs (nx := 0) mixed Tryd.func40 rfl (by simp [Tryd.f40]) ?_; simp -implicitDefEqProofs only [push_cast, Tryd.f40, seval])
  refine callE_p he ?_
  simp -implicitDefEqProofs only [push_cast, seval]
  all_goals (first | done | rfl | exact ⟨_, rfl, by simp [wkL, res2, res1, PV.weak, PV.el]⟩ | (simp [wkL, res2, res1, PV.weak, PV.el]; done))
/-- A selection that somebody has. -/
def stP (c w t : Int) : PV := .agg [.int .i64 c, .int .u32 w, .int .u32 t, .bool true, .int .u32 t]
theorem with_fs (a c w t : Int) : Fsp Tryd.prog 38 [] 0 [.agg [.nilm, .nilsl], .int .u32 a, stP c w t] [[.mobj [(.int .u32 a, stP c w t)]]] 0 (.agg [.mref 0, .nilsl]) := by
  have hc := copyA_nil
  unfold stP
  (refine Fsp.ofs (nx := 0) mixed Tryd.func38 rfl (by simp [Tryd.f38]) ?_; simp -implicitDefEqProofs only [push_cast, Tryd.f38, seval])
  refine callE_box hc [28] [] (by rfl) (by rfl) (by rfl) (by rfl) (by rfl) (by rfl) (fun i j cs h1 h2 => by (rcases i with _ | _ | _ | i <;> simp at h1 h2 <;> (subst h1; subst h2; exact ⟨_, rfl, (by (repeat' (first | exact wkL_nil | refine wkL_cons ?_ ?_)); all_goals (first | exact .inl ⟨_, _, _, _, rfl, rfl, rfl⟩ | exact .inr (.inr (.inr (.inr (.inl ⟨_, _, _, rfl, rfl, rfl⟩)))) | exact .inr (.inr (.inr (.inr (.inr (.inl ⟨_, _, _, _, rfl, rfl, rfl⟩))))) | exact .inr (.inr (.inr (.inr (.inr (.inr ⟨_, _, rfl, rfl, rfl⟩))))) | exact .inr (.inl rfl) | exact .inr (.inr (.inl ⟨_, _, _, rfl, rfl, rfl⟩))))⟩))) (by simp [PS.lv, lkp_hit, lkp_miss, lkp_nil]) (by (repeat' (first | exact wkL_nil | refine wkL_cons ?_ ?_)); all_goals (first | exact .inl ⟨_, _, _, rfl, rfl, rfl⟩ | exact .inr (.inl rfl) | exact .inr (.inr (.inl ⟨_, _, _, _, rfl, rfl, rfl⟩)) | exact .inr (.inr (.inr (.inl ⟨_, _, _, rfl, rfl, rfl, (wkL_get (by (repeat' (first | exact wkL_nil | refine wkL_cons ?_ ?_)); all_goals (first | exact .inl ⟨_, _, _, rfl, rfl, rfl⟩ | exact .inr rfl))).2⟩))) | exact .inr (.inr (.inr (.inr (.inl ⟨_, _, rfl, rfl, rfl⟩)))) | exact .inr (.inr (.inr (.inr (.inr ⟨_, _, rfl, rfl, wkL_get (by (repeat' (first | exact wkL_nil | refine wkL_cons ?_ ?_)); all_goals (first | exact .inr rfl | exact .inl ⟨_, _, rfl, rfl, rfl⟩))⟩)))))) (by decide) (by simp) (by rfl) (by simp [tokLt1]) (fun _ => by rfl) (by first | rfl | simp [gdOk, newToks]) ?_
  simp -implicitDefEqProofs only [push_cast, mset_nil, seval]
  exact endK_box [] [28] rfl rfl (by simp [PS.lv, lkp_hit, lkp_miss, lkp_nil]) rfl rfl (by rfl) (fun i j ps h1 h2 => by (rcases i with _ | i <;> simp at h1 h2 <;> (subst h1; subst h2; exact ⟨_, rfl, (by (repeat' (first | exact wkL_nil | refine wkL_cons ?_ ?_)); all_goals (first | rfl | exact ⟨rfl, rfl⟩ | exact ⟨rfl, rfl, rfl⟩ | exact .inl rfl))⟩))) ⟨by simp [resOk, PS.get, PS.obj, lkp_hit, lkp_miss, lkp_nil, PS.ev, ldPV, ldOk, ofC, ofC1, TK.isAgg, tk_44, tsz_44], by simp [resPV, PS.get, PS.obj, lkp_hit, lkp_miss, lkp_nil, PS.ev, ldPV, ldOk, ofC, ofC1, TK.isAgg, tk_44, tsz_44], by simp [resOf, resPV, one', res3, res2, res1, PV.weak, PV.el, wkL, idx, PV.un, PS.get, PS.obj, lkp_hit, lkp_miss, lkp_nil, PS.ev, ldPV, ldOk, ofC, ofC1, TK.isAgg, tk_44, tsz_44]⟩
theorem owner_nil (a : Int) : Fsp Tryd.prog 39 [] 0 [.agg [.nilm, .nilsl], .int .u32 a] [] 0 (.tup [.agg [.int .i64 0, .int .u32 0, .int .u32 0], .bool false]) := by
  (refine Fsp.ofs (nx := 0) mixed Tryd.func39 rfl (by simp [Tryd.f39]) ?_; simp -implicitDefEqProofs only [push_cast, Tryd.f39, mgetD_nil, seval])
  refine ⟨by (unfold drawOk; kernel_rfl), ?_⟩
  all_goals (first | done | rfl | exact ⟨_, rfl, by simp [wkL, res2, res1, PV.weak, PV.el]⟩ | (simp [wkL, res2, res1, PV.weak, PV.el]; done))
theorem owner_fs (a c w t : Int) : Fsp Tryd.prog 39 [] 0 [.agg [.mpure [(.int .u32 a, stP c w t)], .nilsl], .int .u32 a] [] 0 (.tup [.agg [.int .i64 c, .int .u32 w, .int .u32 t], .bool true]) := by
  have hk : kAll Tryd.prog 60 [(.int .u32 a, stP c w t)] = true := by simp [kAll, kOk, tk_60]
  have hg : ∀ z, mgetD [(.int .u32 a, stP c w t)] (.int .u32 a) z = stP c w t := by intro z; simp [mgetD, mget, keyIs_u]
  unfold stP at *
  (refine Fsp.ofs (nx := 0) mixed Tryd.func39 rfl (by simp [Tryd.f39]) ?_; simp -implicitDefEqProofs only [push_cast, Tryd.f39, hk, hg, seval])
  refine ⟨by (unfold drawOk; kernel_rfl), ?_⟩
  all_goals (first | done | rfl | exact ⟨_, rfl, by simp [wkL, res2, res1, PV.weak, PV.el]⟩ | (simp [wkL, res2, res1, PV.weak, PV.el]; done))
theorem with_fr (a c w t : Int) : Fsp Tryd.prog 38 [] 0 [.agg [.nilm, .nilsl], .int .u32 a, stP c w t] [] 0 (.agg [.mpure [(.int .u32 a, stP c w t)], .nilsl]) :=
  (with_fs a c w t).freezeM (bs' := []) (Nat.zero_le _)
def tab0 : PV := .agg [.nilm, .nilsl]
def tab1 (a c w t : Int) : PV := .agg [.mpure [(.int .u32 a, stP c w t)], .nilsl]
theorem set0_fs (a c w t : Int) (hw : 0 < w) (ht : 0 ≤ t) : Fsp Tryd.prog 23 [] 0 [tab0, .int .u32 a, .agg [.int .i64 c, .int .u32 w, .int .u32 t], .int .u32 t] [] 0
    (if a = 0 then .tup [tab0, .nilsl, .bool false] else .tup [tab1 a c w t, .nilsl, .bool true]) := by
  have hwi := with_fr a c w t
  have k1 : decide (t < t) = false := by simp
  have k2 : decide (t < 0) = false := by simp; omega
  have k3 : (w != 0) = true := by simp; omega
  unfold tab0 tab1
  unfold stP at *
  (refine Fsp.ofs (nx := 0) mixed Tryd.func23 rfl (by simp [Tryd.f23]) ?_; simp -implicitDefEqProofs only [push_cast, Tryd.f23, seval])
  refine condC_split (fun g1 => ?_) (fun g1 => ?_)
  all_goals
    simp -implicitDefEqProofs only [push_cast, mgetD_nil, seval]
    cases k4 : (a == 0)
    · have k5 : ¬ a = 0 := by simpa using k4
      rw [if_neg k5]
      simp -implicitDefEqProofs only [push_cast, k1, k2, k3, seval]
      refine callE_p hwi ?_
      simp -implicitDefEqProofs only [push_cast, seval]
      all_goals (first | done | rfl | exact ⟨_, rfl, by simp [wkL, res2, res1, PV.weak, PV.el]⟩ | (simp [wkL, res2, res1, PV.weak, PV.el]; done))
    · have k5 : a = 0 := by simpa using k4
      rw [if_pos k5]
      simp -implicitDefEqProofs only [push_cast, k1, k2, k3, seval]
      all_goals (first | done | rfl | exact ⟨_, rfl, by simp [wkL, res2, res1, PV.weak, PV.el]⟩ | (simp [wkL, res2, res1, PV.weak, PV.el]; done))
theorem conv_nil0 (a k r t : Int) : Fsp Tryd.prog 24 [] 0 [tab0, .agg [.int .i64 k, .int .u32 r, .int .u32 a, .int .u32 4, .int .u32 9, .int .u32 t]] [] 1 (.tup [tab0, .slt 7 [sdP k 24 [w64 r, w64 a, w64 4, 0, w64 t]] 0]) := by
  have ho := owner_nil a
  have hr := refusal_fs k r a 4 9 t
  unfold tab0
  unfold sdP at *
  simp only [List.map_cons, List.map_nil] at *
  (refine Fsp.ofs (nx := 0) mixed Tryd.func24 rfl (by simp [Tryd.f24]) ?_; simp -implicitDefEqProofs only [push_cast, Tryd.f24, seval])
  refine callE_p ho ?_
  simp -implicitDefEqProofs only [push_cast, seval]
  refine callE_p hr ?_
  simp -implicitDefEqProofs only [push_cast, seval]
  refine ⟨by (unfold drawOk; kernel_rfl), ?_⟩
  exact endK_toks [100] rfl rfl (by simp [PS.lv, lkp_hit, lkp_miss, lkp_nil]) ⟨by simp [resOk, PS.get, PS.obj, lkp_hit, lkp_miss, lkp_nil, PS.ev, ldPV, ldOk, ofC, ofC1, TK.isAgg, PV.cnd, tk_44, tsz_44], by simp [resPV, PS.get, PS.obj, lkp_hit, lkp_miss, lkp_nil, PS.ev, ldPV, ldOk, ofC, ofC1, TK.isAgg, PV.cnd, tk_44, tsz_44], by simp [resOf, resPV, one', res3, res2, res1, PV.weak, PV.el, wkL, idx, PV.un, PS.get, PS.obj, lkp_hit, lkp_miss, lkp_nil, PS.ev, ldPV, ldOk, ofC, ofC1, TK.isAgg, PV.cnd, tk_44, tsz_44]⟩
theorem conv_one0 (a k r t c w : Int) : Fsp Tryd.prog 24 [] 0 [tab1 a c w t, .agg [.int .i64 k, .int .u32 r, .int .u32 a, .int .u32 4, .int .u32 9, .int .u32 t]] [] 2
    (.tup [.agg [.mpure [(.int .u32 a, stP c w t)], .slt 8 (pdL [⟨k, r, a, 4, 9, t, c, w⟩]) 0], .slt 7 [sdP c 23 [w64 w, w64 r, w64 a, w64 4, w64 9, w64 t]] 1]) := by
  have ho := owner_fs a c w t
  have he := event_fs c 23 [w64 w, w64 r, w64 a, w64 4, w64 9, w64 t]
  unfold tab1
  unfold stP at *
  unfold sdP at *
  unfold w64 at *
  simp only [List.map_cons, List.map_nil, pdL, Pd.pv] at *
  (refine Fsp.ofs (nx := 0) mixed Tryd.func24 rfl (by simp [Tryd.f24]) ?_; simp -implicitDefEqProofs only [push_cast, Tryd.f24, seval])
  refine callE_p ho ?_
  simp -implicitDefEqProofs only [push_cast, seval]
  refine callE_bs ?_
  simp -implicitDefEqProofs only [push_cast, List.replicate_zero, List.length_nil, seval]
  refine callE_p he ?_
  simp -implicitDefEqProofs only [push_cast, seval]
  refine ⟨by (unfold drawOk; kernel_rfl), ?_⟩
  exact endK_toks [172, 284] rfl rfl (by simp [PS.lv, lkp_hit, lkp_miss, lkp_nil]) ⟨by simp [resOk, PS.get, PS.obj, lkp_hit, lkp_miss, lkp_nil, PS.ev, ldPV, ldOk, ofC, ofC1, TK.isAgg, PV.cnd, tk_44, tsz_44], by simp [resPV, PS.get, PS.obj, lkp_hit, lkp_miss, lkp_nil, PS.ev, ldPV, ldOk, ofC, ofC1, TK.isAgg, PV.cnd, tk_44, tsz_44], by simp [resOf, resPV, one', res3, res2, res1, PV.weak, PV.el, wkL, idx, PV.un, PS.get, PS.obj, lkp_hit, lkp_miss, lkp_nil, PS.ev, ldPV, ldOk, ofC, ofC1, TK.isAgg, PV.cnd, tk_44, tsz_44]⟩
theorem two_say {g : Gh} {v : Value} {p q : PV} (r : Rel g v (.tup [p, q])) : PRel g.h v (.tup [p.el, .any]) := by
  obtain ⟨vs, rfl, hn, hp⟩ := r.tup_inv
  refine .tup vs _ (by rw [hn]; rfl) (fun i u x hu hx => ?_)
  match i, hx with
  | 0, hx => cases hx; exact (hp 0 u p hu rfl).el
  | 1, hx => cases hx; exact .any _
theorem conv_nil (a k r t : Int) : Fsp Tryd.prog 24 [] 0 [tab0, .agg [.int .i64 k, .int .u32 r, .int .u32 a, .int .u32 4, .int .u32 9, .int .u32 t]] [] 0 (.tup [tab0, .any]) :=
  (conv_nil0 a k r t).say fun _ _ r => two_say r
theorem conv_one (a k r t c w : Int) : Fsp Tryd.prog 24 [] 0 [tab1 a c w t, .agg [.int .i64 k, .int .u32 r, .int .u32 a, .int .u32 4, .int .u32 9, .int .u32 t]] [] 0
    (.tup [.agg [.mpure [(.int .u32 a, stP c w t)], .sl 8 (pdL [⟨k, r, a, 4, 9, t, c, w⟩])], .any]) :=
  (conv_one0 a k r t c w).say fun _ _ r => two_say r
def aid (n : Nat) (m : Int) : Int := ((n : Int) % 8 + 1) * 1048576 + m
theorem ask_facts (n : Nat) (hn : n < 256) (m : Int) (hm : m = 1 ∨ m = 2) : Int.tmod (n : Int) 8 = (n : Int) % 8 ∧ IntKind.i64.wrap ((n : Int) % 8) = (n : Int) % 8 ∧ IntKind.i64.wrap ((n : Int) % 8 + 1) = (n : Int) % 8 + 1 ∧
    IntKind.i64.wrap (((n : Int) % 8 + 1) * 1048576) = ((n : Int) % 8 + 1) * 1048576 ∧ IntKind.i64.wrap (((n : Int) % 8 + 1) * 1048576 + m) = ((n : Int) % 8 + 1) * 1048576 + m ∧ IntKind.u32.wrap (((n : Int) % 8 + 1) * 1048576 + m) = aid n m := by
  have a0 : Int.tmod (n : Int) 8 = (n : Int) % 8 := Int.tmod_eq_emod_of_nonneg (by omega)
  refine ⟨a0, ?_⟩
  unfold aid
  have k0 : 0 ≤ (n : Int) % 8 := by omega
  have k3 : (n : Int) % 8 < 8 := by omega
  clear a0
  generalize (n : Int) % 8 = k at *
  exact ⟨wrap_i64_id (by omega) (by omega), wrap_i64_id (by omega) (by omega), wrap_i64_id (by omega) (by omega), wrap_i64_id (by omega) (by omega), wrap_u32_id (by omega) (by omega)⟩
theorem aid_at (n : Nat) (m : Int) (hm : m = 1 ∨ m = 2) : 0 < aid n m ∧ aid n m < 4294967296 ∧ (clS (aid n m)).2 = true ∧ aid n m % 1048576 = m ∧ aid n m ≠ 1 := by
  have k0 : 0 ≤ (n : Int) % 8 := by omega
  have k3 : (n : Int) % 8 < 8 := by omega
  unfold aid
  generalize (n : Int) % 8 = k at *
  have h4 : ((k + 1) * 1048576 + m) / 1048576 = k + 1 := by omega
  have h5 : ((k + 1) * 1048576 + m) % 1048576 = m := by omega
  refine ⟨by omega, by omega, ?_, h5, by omega⟩
  rw [clS, if_neg (by omega), if_neg]
  rw [h4, h5]
  rintro (h | h)
  · omega
  · simp [isCl] at h; omega
structure Aq where
  k : Nat
  h : k ≤ 10
def Aq.st (t : Tm) (q0 q1 : PV) (r : Int) (a : Aq) : PS := { n := 93, env := [(76, .int .i64 a.k), (16, .box 16 0), (13, .box 13 0), (12, .int .u32 r), (8, .bool false)], objs := [(13, some [t.kc, t.uc]), (16, some [q0, q1])], live := [], nxt := 60 }
theorem cm0 : CmOk .nil := ⟨by simp [Cm.ms], by simp [Cm.ms], by simp [Cm.ms]⟩
set_option maxHeartbeats 8000000 in
theorem asked_fs (o k : UInt8) (a t : Int) (ha : 0 ≤ a ∧ a < 4294967296) (ht : 0 ≤ t ∧ t < 4294967296) : Fsp Tryd.prog 7 [] 0 [.int .u8 o.toNat, .int .u8 k.toNat, .int .u32 a, .int .u32 t] [] 0 (.bool true) := by
  have hn := new_fs'
  have haw := awake_fs
  obtain ⟨a0, a1, a2, a3, a4, a5⟩ := ask_facts o.toNat o.toNat_lt 1 (.inl rfl)
  obtain ⟨b0, b1, b2, b3, b4, b5⟩ := ask_facts k.toNat k.toNat_lt 2 (.inr rfl)
  obtain ⟨w1, w2, w3, w4, w5⟩ := aid_at o.toNat 1 (.inl rfl)
  obtain ⟨r1, r2, r3, r4, r5⟩ := aid_at k.toNat 2 (.inr rfl)
  have hne : aid k.toNat 2 ≠ aid o.toNat 1 := by intro e; rw [e, w4] at r4; omega
  generalize aid o.toNat 1 = w at *
  generalize aid k.toNat 2 = r at *
  have hadd1 := add_fs .nil w 1 ⟨by simp [Tm.kds], by simp [Tm.ups], by simp [Tm.kds]⟩ w1 w2 w3 (by simp [Tm.has, Tm.ups, getU, w5]) (by simp [Tm.has]) (by simp [Tm.ups])
  have e1 : Tm.nil.add w 1 = .mk [(1, 0)] [(w, 1)] := rfl
  rw [e1] at hadd1
  have hadd2 := add_fs (.mk [(1, 0)] [(w, 1)]) r 1 ⟨by simp [Tm.kds], by simp [Tm.ups], by simp [Tm.kds]⟩ r1 r2 r3 (by simp [Tm.has, Tm.ups, getU, r5, hne]) (by simp [Tm.has]) (by simp [Tm.ups])
  have hg : getU ((Tm.mk [(1, 0)] [(w, 1)]).add r 1).ups r = some 1 := by
    show getU (setU _ r 1) r = _
    rw [getU_set, if_pos rfl]
  obtain ⟨K, U, hKU⟩ : ∃ K U, (Tm.mk [(1, 0)] [(w, 1)]).add r 1 = .mk K U := ⟨_, _, rfl⟩
  rw [hKU] at hadd2 hg
  clear hKU
  have hof := fun (q0 q1 : PV) (hq : q0 = .nilm ∧ q1 = .nilsl ∨ ∃ es l, q0 = .mpure es ∧ q1 = .sl 8 (pdL l)) (b : Bool) (n : Nat) (hn : n < 10) (hb : Fsp Tryd.prog 15 [] 0 [.agg [q0, q1], .int .i64 n, .int .u32 r] [] 0 (.bool b)) =>
    of_fs q0 q1 hq (.mk K U) .nil cm0 b n r hb (wf_i (by omega)) (by omega) r2 (fun p hp => by rw [hg] at hp; cases hp; decide)
  have hfa : ∀ (b : Bool) (n : Int), (ofS (.mk K U) .nil b n r).a = b := by
    intro b n; unfold ofS; split <;> rfl
  have hset := set0_fs a ((o.toNat : Int) % 8 + 1) w t w1 ht.1
  simp only [Tm.pv, Tm.kc, Tm.uc, Cm.pv, Cm.mc, Cm.sc] at hadd1 hadd2 hof
  (refine Fsp.ofs (nx := 0) mixed Tryd.func7 rfl (by simp [Tryd.f7]) ?_; simp -implicitDefEqProofs only [push_cast, Tryd.f7, a0, a1, a2, a3, a4, a5, b0, b1, b2, b3, b4, b5, seval])
  refine callE_p hn ?_
  simp -implicitDefEqProofs only [push_cast, seval]
  refine callE_p hadd1 ?_
  simp -implicitDefEqProofs only [push_cast, seval]
  refine callE_p hadd2 ?_
  simp -implicitDefEqProofs only [push_cast, seval]
  unfold tab0 tab1 at hset
  by_cases hz : a = 0
  · rw [if_pos hz] at hset
    have hcv := conv_nil a ((k.toNat : Int) % 8 + 1) r t
    unfold tab0 at hcv
    refine callE_p hset ?_
    simp -implicitDefEqProofs only [push_cast, seval]
    refine callE_p hcv ?_
    simp -implicitDefEqProofs only [push_cast, seval]
    refine loopC_of (α := Aq) (Aq.st (.mk K U) .nilm .nilsl r) (fun a => 10 - a.k) ⟨0, by decide⟩ ?_ ?_
    · (simp only [Aq.st, Tm.kc, Tm.uc]; exact Wk.at _ _ _ [(13, 108), (16, 224)] [] [] (by simp) (by simp [wkV, PV.el, PV.weak, PS.get, PS.obj, PS.lv, lkp_hit, lkp_miss, lkp_nil, lko, wkL, wkC, res1, Tm.kc, Tm.uc]) (by simp [PS.get, PS.obj, PS.lv, lkp_hit, lkp_miss, lkp_nil, lko, wkL, wkC, PV.weak, wkL, wkC, res1, Tm.kc, Tm.uc]))
    · rintro ⟨n, hk⟩
      simp only [Aq.st, Tm.kc, Tm.uc]
      simp -implicitDefEqProofs only [push_cast, seval]
      refine condC_split (fun g1 => ?_) (fun g1 => ?_)
      · have hlt : n < 10 := by simp at g1; omega
        have hwi : IntKind.i64.wrap ((n : Int) + 1) = ((n + 1 : Nat) : Int) := by (rw [wrap_i64_id (by omega) (by omega)]; rfl)
        have hm := mayT_nil n r
        have ho := hof .nilm .nilsl (.inl ⟨rfl, rfl⟩) false n hlt hm
        have hfn := hfa false n
        generalize ofS (.mk K U) .nil false n r = f at *
        obtain ⟨f1, f2, f3, f4, f5⟩ := f
        simp only at hfn
        subst hfn
        simp only [Fa.pv] at ho
        simp -implicitDefEqProofs only [push_cast, seval]
        refine callE_p ho ?_
        simp -implicitDefEqProofs only [push_cast, seval]
        refine callE_p hm ?_
        simp -implicitDefEqProofs only [push_cast, bne_self_eq_false, hwi, seval]
        refine ⟨by (unfold drawOk; kernel_rfl), ?_⟩
        refine ⟨⟨n + 1, hlt⟩, Nat.sub_lt_sub_left hlt (Nat.lt_succ_self n), ?_⟩
        (simp only [Aq.st, Tm.kc, Tm.uc]; exact Wk.at _ _ _ [(13, 13), (16, 16)] [] [] (by simp) (by simp [wkV, PV.el, PV.weak, PS.get, PS.obj, PS.lv, lkp_hit, lkp_miss, lkp_nil, lko, wkL, wkC, res1, Tm.kc, Tm.uc]) (by simp [PS.get, PS.obj, PS.lv, lkp_hit, lkp_miss, lkp_nil, lko, wkL, wkC, PV.weak, wkL, wkC, res1, Tm.kc, Tm.uc]))
      · have hke : n = 10 := by simp at g1; omega
        subst hke
        simp -implicitDefEqProofs only [push_cast, seval]
        refine callE_p haw ?_
        simp -implicitDefEqProofs only [push_cast, seval]
        all_goals (first | done | rfl | exact ⟨_, rfl, by simp [wkL, res2, res1, PV.weak, PV.el]⟩ | (simp [wkL, res2, res1, PV.weak, PV.el]; done))
  · rw [if_neg hz] at hset
    have hcv := conv_one a ((k.toNat : Int) % 8 + 1) r t ((o.toNat : Int) % 8 + 1) w
    unfold tab1 at hcv
    refine callE_p hset ?_
    simp -implicitDefEqProofs only [push_cast, seval]
    refine callE_p hcv ?_
    simp -implicitDefEqProofs only [push_cast, seval]
    refine loopC_of (α := Aq) (Aq.st (.mk K U) (.mpure [(.int .u32 a, stP ((o.toNat : Int) % 8 + 1) w t)]) (.sl 8 (pdL [⟨(k.toNat : Int) % 8 + 1, r, a, 4, 9, t, (o.toNat : Int) % 8 + 1, w⟩])) r) (fun a => 10 - a.k) ⟨0, by decide⟩ ?_ ?_
    · (simp only [Aq.st, Tm.kc, Tm.uc]; exact Wk.at _ _ _ [(13, 108), (16, 224)] [] [] (by simp) (by simp [wkV, PV.el, PV.weak, PS.get, PS.obj, PS.lv, lkp_hit, lkp_miss, lkp_nil, lko, wkL, wkC, res1, Tm.kc, Tm.uc]) (by simp [PS.get, PS.obj, PS.lv, lkp_hit, lkp_miss, lkp_nil, lko, wkL, wkC, PV.weak, wkL, wkC, res1, Tm.kc, Tm.uc]))
    · rintro ⟨n, hk⟩
      simp only [Aq.st, Tm.kc, Tm.uc]
      simp -implicitDefEqProofs only [push_cast, seval]
      refine condC_split (fun g1 => ?_) (fun g1 => ?_)
      · have hlt : n < 10 := by simp at g1; omega
        have hwi : IntKind.i64.wrap ((n : Int) + 1) = ((n + 1 : Nat) : Int) := by (rw [wrap_i64_id (by omega) (by omega)]; rfl)
        have hm := mayT_fs [⟨(k.toNat : Int) % 8 + 1, r, a, 4, 9, t, (o.toNat : Int) % 8 + 1, w⟩] (by simp) n r [(.int .u32 a, stP ((o.toNat : Int) % 8 + 1) w t)]
        generalize ([⟨(k.toNat : Int) % 8 + 1, r, a, 4, 9, t, (o.toNat : Int) % 8 + 1, w⟩] : List Pd).any (Pd.is n r) = bb at *
        have ho := hof _ _ (.inr ⟨_, _, rfl, rfl⟩) bb n hlt hm
        have hfn := hfa bb n
        generalize ofS (.mk K U) .nil bb n r = f at *
        obtain ⟨f1, f2, f3, f4, f5⟩ := f
        simp only at hfn
        subst hfn
        simp only [Fa.pv] at ho
        simp -implicitDefEqProofs only [push_cast, seval]
        refine callE_p ho ?_
        simp -implicitDefEqProofs only [push_cast, seval]
        refine callE_p hm ?_
        simp -implicitDefEqProofs only [push_cast, bne_self_eq_false, hwi, seval]
        refine ⟨by (unfold drawOk; kernel_rfl), ?_⟩
        refine ⟨⟨n + 1, hlt⟩, Nat.sub_lt_sub_left hlt (Nat.lt_succ_self n), ?_⟩
        (simp only [Aq.st, Tm.kc, Tm.uc]; exact Wk.at _ _ _ [(13, 13), (16, 16)] [] [] (by simp) (by simp [wkV, PV.el, PV.weak, PS.get, PS.obj, PS.lv, lkp_hit, lkp_miss, lkp_nil, lko, wkL, wkC, res1, Tm.kc, Tm.uc]) (by simp [PS.get, PS.obj, PS.lv, lkp_hit, lkp_miss, lkp_nil, lko, wkL, wkC, PV.weak, wkL, wkC, res1, Tm.kc, Tm.uc]))
      · have hke : n = 10 := by simp at g1; omega
        subst hke
        simp -implicitDefEqProofs only [push_cast, seval]
        refine callE_p haw ?_
        simp -implicitDefEqProofs only [push_cast, seval]
        all_goals (first | done | rfl | exact ⟨_, rfl, by simp [wkL, res2, res1, PV.weak, PV.el]⟩ | (simp [wkL, res2, res1, PV.weak, PV.el]; done))
end Go.Proofs.Sh
