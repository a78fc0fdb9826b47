/- Package rights: the tables. -/
import Derived.Test.YtnaldfmohncbhaaDoorRtD
import Derived.Test.YtnaldfmohncbhaaDoorPvYb
import Derived.Test.YtnaldfmohncbhaaDoorPvZ
set_option maxRecDepth 100000
set_option linter.unusedSimpArgs false
set_option linter.unusedVariables false
namespace Go.Proofs.Sh
open Go.Pv
/-- The rights of a client. -/
structure Fa where
  o : Bool
  r : Bool
  m : Bool
  f : Bool
  a : Bool
def Fa.pv (f : Fa) : PV := .agg [.bool f.o, .bool f.r, .bool f.m, .bool f.f, .bool f.a]
set_option maxHeartbeats 4000000 in
open Go in
theorem fa_lits (a b c d e : Bool) : (Tryd.prog).keyLits 12 39 [.bool a, .bool b, .bool c, .bool d, .bool e] = some [.bool a, .bool b, .bool c, .bool d, .bool e] := by
  have h2 : (Tryd.prog).cellsOf 39 = 5 := by kernel_rfl
  have h3 : (Tryd.prog).cellsOf 4 = 1 := by kernel_rfl
  have u1 := Tryd.underlying39
  have u2 := Tryd.underlying4
  have one : ∀ x, (Tryd.prog).keyLits 11 4 [.bool x] = some [.bool x] := by
    intro x
    simp [Program.keyLits, u2]
  show (Tryd.prog).keyLits (11 + 1) 39 _ = _
  unfold Program.keyLits
  simp [u1, h2, h3, one]
open Go in
theorem fa_eq (a b c d e a' b' c' d' e' : Bool) : aggEq Tryd.prog 39 [.bool a, .bool b, .bool c, .bool d, .bool e] [.bool a', .bool b', .bool c', .bool d', .bool e'] = some (a == a' && (b == b' && (c == c' && (d == d' && e == e')))) := by
  have h : aggEq Tryd.prog 39 [.bool a, .bool b, .bool c, .bool d, .bool e] [.bool a', .bool b', .bool c', .bool d', .bool e'] = some (litsEq [.bool a, .bool b, .bool c, .bool d, .bool e] [.bool a', .bool b', .bool c', .bool d', .bool e']) := by
    unfold aggEq
    simp only [List.map_cons, List.map_nil, toV, fa_lits]
    rfl
  rw [h]
  simp [litsEq, litEq]
theorem fa_kt : (Tryd.prog).keyTypeAt 12 39 = true := by kernel_rfl
theorem fa_eg : (Tryd.prog).eqGuardType (Tryd.prog).depth 39 = false := by kernel_rfl
def ruT : List Int := [5, 3, 2, 4, 4, 4, 4, 2, 2, 1, 1, 1, 1, 6, 6, 6, 6, 1, 1, 1, 1, 1, 1, 1, 1, 1, 2, 2, 2, 2, 2, 2, 2, 2, 2, 2, 2, 4, 1, 4, 1, 4, 1, 4, 1, 4, 1, 1, 1, 4, 2, 1, 2, 6, 7, 7, 8, 1, 1]
def ruS (c : Int) : Int := if 0 ≤ c ∧ c ≤ 58 then ruT.getD c.toNat 0 else 0
theorem ru_ran : ranAllF Tryd.prog anyCl (fun _ => true) 400 60 33 (ruT.map (PV.int .i64 ·)) 0 = true := by kernel_rfl
theorem ruleOf_fs (c : Int) : Fsp Tryd.prog 33 [] 0 [.int .i64 c] [] 0 (.int .i64 (ruS c)) := by
  unfold ruS
  split
  · rename_i h
    have hk : (ruT.map (PV.int .i64 ·))[c.toNat]? = some (.int .i64 (ruT.getD c.toNat 0)) := by
      have hl : c.toNat < ruT.length := by show c.toNat < 59; omega
      rw [List.getElem?_map, List.getElem?_eq_getElem hl, List.getD_eq_getElem?_getD, List.getElem?_eq_getElem hl]; rfl
    have := ranAllF_at mixed anyCl_ok ru_ran hk
    rw [show ((0 + c.toNat : Nat) : Int) = c by omega] at this
    exact this
  · rename_i h
    cases k1 : decide (c < 0)
    · have k2 : decide ((58 : Int) < c) = true := by (simp at k1; simp; omega)
      (refine Fsp.ofs (nx := 0) mixed Tryd.func33 rfl (by simp [Tryd.f33]) ?_; simp -implicitDefEqProofs only [push_cast, Tryd.f33, k1, k2, seval])
      all_goals (first | done | rfl | exact ⟨_, rfl, by simp [wkL, res2, res1, PV.weak, PV.el]⟩ | (simp [wkL, res2, res1, PV.weak, PV.el]; done))
    · (refine Fsp.ofs (nx := 0) mixed Tryd.func33 rfl (by simp [Tryd.f33]) ?_; simp -implicitDefEqProofs only [push_cast, Tryd.f33, k1, seval])
      all_goals (first | done | rfl | exact ⟨_, rfl, by simp [wkL, res2, res1, PV.weak, PV.el]⟩ | (simp [wkL, res2, res1, PV.weak, PV.el]; done))
def mayS (r : Int) (f : Fa) : Bool :=
  if (!f.o && !f.r && !f.m && !f.f && !f.a) = true then decide (r = 1) else
  if r = 1 then true else if r = 2 then f.o else if r = 3 then f.o || f.r else if r = 4 then f.o || (f.m || f.f) else if r = 5 then f.o || f.r || (f.m || f.f) else
  if r = 6 then f.o || f.r || (f.m || f.f) || f.a else if r = 7 then f.m || f.f else if r = 8 then f.m else false
theorem may_fs (c : Int) (f : Fa) : Fsp Tryd.prog 17 [] 0 [.int .i64 c, f.pv] [] 0 (.bool (mayS (ruS c) f)) := by
  have hr := ruleOf_fs c
  generalize ruS c = r at *
  obtain ⟨o, ro, m, fr, a⟩ := f
  have key : r = 1 ∨ r = 2 ∨ r = 3 ∨ r = 4 ∨ r = 5 ∨ r = 6 ∨ r = 7 ∨ r = 8 ∨ (r ≠ 1 ∧ r ≠ 2 ∧ r ≠ 3 ∧ r ≠ 4 ∧ r ≠ 5 ∧ r ≠ 6 ∧ r ≠ 7 ∧ r ≠ 8) := by omega
  rcases key with rfl | rfl | rfl | rfl | rfl | rfl | rfl | rfl | ⟨n1, n2, n3, n4, n5, n6, n7, n8⟩
  · (refine Fsp.ofs (nx := 0) mixed Tryd.func17 rfl (by simp [Tryd.f17]) ?_; simp -implicitDefEqProofs only [push_cast, Tryd.f17, Fa.pv, seval])
    refine callE_p hr ?_
    simp -implicitDefEqProofs only [push_cast, fa_eq, fa_kt, fa_eg, seval]
    refine condC_split (fun g1 => ?_) (fun g1 => ?_)
    · simp -implicitDefEqProofs only [push_cast, seval]
      revert g1; cases o <;> cases ro <;> cases m <;> cases fr <;> cases a <;> intro g1 <;> first | rfl | cases g1
    · simp -implicitDefEqProofs only [push_cast, seval]
      all_goals (revert g1; cases o <;> cases ro <;> cases m <;> cases fr <;> cases a <;> intro g1 <;> first | rfl | cases g1)
  · (refine Fsp.ofs (nx := 0) mixed Tryd.func17 rfl (by simp [Tryd.f17]) ?_; simp -implicitDefEqProofs only [push_cast, Tryd.f17, Fa.pv, seval])
    refine callE_p hr ?_
    simp -implicitDefEqProofs only [push_cast, fa_eq, fa_kt, fa_eg, seval]
    refine condC_split (fun g1 => ?_) (fun g1 => ?_)
    · simp -implicitDefEqProofs only [push_cast, seval]
      revert g1; cases o <;> cases ro <;> cases m <;> cases fr <;> cases a <;> intro g1 <;> first | rfl | cases g1
    · simp -implicitDefEqProofs only [push_cast, seval]
      all_goals (revert g1; cases o <;> cases ro <;> cases m <;> cases fr <;> cases a <;> intro g1 <;> first | rfl | cases g1)
  · (refine Fsp.ofs (nx := 0) mixed Tryd.func17 rfl (by simp [Tryd.f17]) ?_; simp -implicitDefEqProofs only [push_cast, Tryd.f17, Fa.pv, seval])
    refine callE_p hr ?_
    simp -implicitDefEqProofs only [push_cast, fa_eq, fa_kt, fa_eg, seval]
    refine condC_split (fun g1 => ?_) (fun g1 => ?_)
    · simp -implicitDefEqProofs only [push_cast, seval]
      revert g1; cases o <;> cases ro <;> cases m <;> cases fr <;> cases a <;> intro g1 <;> first | rfl | cases g1
    · simp -implicitDefEqProofs only [push_cast, seval]
      all_goals (revert g1; cases o <;> cases ro <;> cases m <;> cases fr <;> cases a <;> intro g1 <;> first | rfl | cases g1)
  · (refine Fsp.ofs (nx := 0) mixed Tryd.func17 rfl (by simp [Tryd.f17]) ?_; simp -implicitDefEqProofs only [push_cast, Tryd.f17, Fa.pv, seval])
    refine callE_p hr ?_
    simp -implicitDefEqProofs only [push_cast, fa_eq, fa_kt, fa_eg, seval]
    refine condC_split (fun g1 => ?_) (fun g1 => ?_)
    · simp -implicitDefEqProofs only [push_cast, seval]
      revert g1; cases o <;> cases ro <;> cases m <;> cases fr <;> cases a <;> intro g1 <;> first | rfl | cases g1
    · simp -implicitDefEqProofs only [push_cast, seval]
      all_goals (revert g1; cases o <;> cases ro <;> cases m <;> cases fr <;> cases a <;> intro g1 <;> first | rfl | cases g1)
  · (refine Fsp.ofs (nx := 0) mixed Tryd.func17 rfl (by simp [Tryd.f17]) ?_; simp -implicitDefEqProofs only [push_cast, Tryd.f17, Fa.pv, seval])
    refine callE_p hr ?_
    simp -implicitDefEqProofs only [push_cast, fa_eq, fa_kt, fa_eg, seval]
    refine condC_split (fun g1 => ?_) (fun g1 => ?_)
    · simp -implicitDefEqProofs only [push_cast, seval]
      revert g1; cases o <;> cases ro <;> cases m <;> cases fr <;> cases a <;> intro g1 <;> first | rfl | cases g1
    · simp -implicitDefEqProofs only [push_cast, seval]
      all_goals (revert g1; cases o <;> cases ro <;> cases m <;> cases fr <;> cases a <;> intro g1 <;> first | rfl | cases g1)
  · (refine Fsp.ofs (nx := 0) mixed Tryd.func17 rfl (by simp [Tryd.f17]) ?_; simp -implicitDefEqProofs only [push_cast, Tryd.f17, Fa.pv, seval])
    refine callE_p hr ?_
    simp -implicitDefEqProofs only [push_cast, fa_eq, fa_kt, fa_eg, seval]
    refine condC_split (fun g1 => ?_) (fun g1 => ?_)
    · simp -implicitDefEqProofs only [push_cast, seval]
      revert g1; cases o <;> cases ro <;> cases m <;> cases fr <;> cases a <;> intro g1 <;> first | rfl | cases g1
    · simp -implicitDefEqProofs only [push_cast, seval]
      all_goals (revert g1; cases o <;> cases ro <;> cases m <;> cases fr <;> cases a <;> intro g1 <;> first | rfl | cases g1)
  · (refine Fsp.ofs (nx := 0) mixed Tryd.func17 rfl (by simp [Tryd.f17]) ?_; simp -implicitDefEqProofs only [push_cast, Tryd.f17, Fa.pv, seval])
    refine callE_p hr ?_
    simp -implicitDefEqProofs only [push_cast, fa_eq, fa_kt, fa_eg, seval]
    refine condC_split (fun g1 => ?_) (fun g1 => ?_)
    · simp -implicitDefEqProofs only [push_cast, seval]
      revert g1; cases o <;> cases ro <;> cases m <;> cases fr <;> cases a <;> intro g1 <;> first | rfl | cases g1
    · simp -implicitDefEqProofs only [push_cast, seval]
      all_goals (revert g1; cases o <;> cases ro <;> cases m <;> cases fr <;> cases a <;> intro g1 <;> first | rfl | cases g1)
  · (refine Fsp.ofs (nx := 0) mixed Tryd.func17 rfl (by simp [Tryd.f17]) ?_; simp -implicitDefEqProofs only [push_cast, Tryd.f17, Fa.pv, seval])
    refine callE_p hr ?_
    simp -implicitDefEqProofs only [push_cast, fa_eq, fa_kt, fa_eg, seval]
    refine condC_split (fun g1 => ?_) (fun g1 => ?_)
    · simp -implicitDefEqProofs only [push_cast, seval]
      revert g1; cases o <;> cases ro <;> cases m <;> cases fr <;> cases a <;> intro g1 <;> first | rfl | cases g1
    · simp -implicitDefEqProofs only [push_cast, seval]
      all_goals (revert g1; cases o <;> cases ro <;> cases m <;> cases fr <;> cases a <;> intro g1 <;> first | rfl | cases g1)
  · have q1 : (r == 1) = false := by simpa using n1
    have q2 : (r == 2) = false := by simpa using n2
    have q3 : (r == 3) = false := by simpa using n3
    have q4 : (r == 4) = false := by simpa using n4
    have q5 : (r == 5) = false := by simpa using n5
    have q6 : (r == 6) = false := by simpa using n6
    have q7 : (r == 7) = false := by simpa using n7
    have q8 : (r == 8) = false := by simpa using n8
    have hz : mayS r ⟨o, ro, m, fr, a⟩ = false := by simp [mayS, n1, n2, n3, n4, n5, n6, n7, n8]
    rw [hz]
    (refine Fsp.ofs (nx := 0) mixed Tryd.func17 rfl (by simp [Tryd.f17]) ?_; simp -implicitDefEqProofs only [push_cast, Tryd.f17, Fa.pv, seval])
    refine callE_p hr ?_
    simp -implicitDefEqProofs only [push_cast, fa_eq, fa_kt, fa_eg, seval]
    refine condC_split (fun g1 => ?_) (fun g1 => ?_)
    · simp -implicitDefEqProofs only [push_cast, q1, seval]
    · simp -implicitDefEqProofs only [push_cast, q1, q2, q3, q4, q5, q6, q7, q8, seval]
def fltS (r : Int) : Int := if r = 0 ∨ r = 1 then 0 else 10
theorem fault_fs (c : Int) : Fsp Tryd.prog 19 [] 0 [.int .i64 c] [] 0 (.int .i64 (fltS (ruS c))) := by
  have hr := ruleOf_fs c
  generalize ruS c = r at *
  unfold fltS
  cases k1 : (r == 0) <;> cases k2 : (r == 1)
  all_goals
    (refine Fsp.ofs (nx := 0) mixed Tryd.func19 rfl (by simp [Tryd.f19]) ?_; simp -implicitDefEqProofs only [push_cast, Tryd.f19, seval])
    refine callE_p hr ?_
    simp -implicitDefEqProofs only [push_cast, k1, k2, seval]
    simp at k1 k2
    simp [k1, k2]
end Go.Proofs.Sh

/- Package claim: who may answer. -/
set_option maxRecDepth 100000
set_option linter.unusedSimpArgs false
set_option linter.unusedVariables false
namespace Go.Proofs.Sh
open Go.Pv
/-- Somebody who asks for a selection. -/
structure Pd where
  k : Int
  r : Int
  s : Int
  t : Int
  p : Int
  i : Int
  c : Int
  w : Int
def Pd.pv (x : Pd) : PV := .agg [.int .i64 x.k, .int .u32 x.r, .int .u32 x.s, .int .u32 x.t, .int .u32 x.p, .int .u32 x.i, .int .i64 x.c, .int .u32 x.w]
def pdL (l : List Pd) : List PV := l.map Pd.pv
theorem pdL_length (l : List Pd) : (pdL l).length = l.length := List.length_map _
def pd0 : Pd := ⟨0, 0, 0, 0, 0, 0, 0, 0⟩
theorem pd_at {X : List Pd} {i : Nat} (h : i < X.length) : (pdL X).getD i PV.any = (X.getD i pd0).pv := by
  rw [pdL, List.getD_eq_getElem?_getD, List.getElem?_map, List.getElem?_eq_getElem h, List.getD_eq_getElem?_getD, List.getElem?_eq_getElem h]; rfl
def Pd.is (c r : Int) (x : Pd) : Bool := x.c == c && x.r == r
theorem clos_fs (x : Pd) (c r : Int) : Fsp Tryd.prog 31 [[.int .i64 c], [.int .u32 r]] 0 [x.pv, .box 0 0, .box 1 0] [[.int .i64 c], [.int .u32 r]] 0 (.bool (x.is c r)) := by
  (refine Fsp.of (nx := 2) mixed Tryd.func31 rfl (by decide) (by first | exact Nat.le_refl _ | simp) (by simp [Tryd.f31]) ⟨by simp, by simp⟩ ?_; simp -implicitDefEqProofs only [push_cast, Tryd.f31, Pd.pv, seval])
  rw [Pd.is]
  exact endK_box [] [0, 1] rfl rfl (by simp [PS.lv, lkp_hit, lkp_miss, lkp_nil]) rfl rfl (by rfl) (fun i j ps h1 h2 => by (rcases i with _ | _ | i <;> simp at h1 h2 <;> (subst h1; subst h2; exact ⟨_, rfl, (by (repeat' (first | exact wkL_nil | refine wkL_cons ?_ ?_)); all_goals (first | rfl | exact ⟨rfl, rfl⟩ | exact ⟨rfl, rfl, rfl⟩ | exact .inl rfl))⟩))) ⟨by simp [resOk, PS.get, lkp_hit, lkp_miss, PS.ev], by simp [resPV, PS.get, lkp_hit, lkp_miss, PS.ev], by simp [resOf, resPV, one', res3, res2, res1, PS.get, lkp_hit, lkp_miss, PS.ev, PV.weak, PV.el, wkL]⟩
/-- Where the first is. -/
def idx1 (c r : Int) : List Pd → Nat → Int
  | [], _ => -1
  | x :: l, i => if x.is c r = true then i else idx1 c r l (i + 1)
structure IxA (l : List Pd) (c r : Int) where
  i : Nat
  h : i ≤ l.length
  e : idx1 c r l 0 = idx1 c r (l.drop i) i
def IxA.st (l : List Pd) (c r : Int) (a : IxA l c r) : PS := { n := 19, env := [(8, .int .i64 a.i), (7, .int .i64 l.length), (4, .int .i64 0), (1, .fn 31 [.box 0 0, .box 1 0]), (0, .sl 8 (pdL l))], objs := [(0, some [.int .i64 c]), (1, some [.int .u32 r])], live := [], nxt := 60 }
theorem index_fs (l : List Pd) (hl : l.length < 1000000) (c r : Int) : Fsp Tryd.prog 46 [[.int .i64 c], [.int .u32 r]] 0 [.sl 8 (pdL l), .fn 31 [.box 0 0, .box 1 0]] [[.int .i64 c], [.int .u32 r]] 0 (.int .i64 (idx1 c r l 0)) := by
  (refine Fsp.of (nx := 2) mixed Tryd.func46 rfl (by decide) (by first | exact Nat.le_refl _ | simp) (by simp [Tryd.f46]) ⟨by simp, by simp⟩ ?_; simp -implicitDefEqProofs only [push_cast, Tryd.f46, seval])
  simp -implicitDefEqProofs only [push_cast, pdL_length, seval]
  refine loopC_of (α := IxA l c r) (IxA.st l c r) (fun a => l.length - a.i) ⟨0, by omega, rfl⟩ ?_ ?_
  · (simp only [IxA.st]; exact Wk.by _ _ _ [(0, 0), (1, 1)] [] [] (by simp) (by simp [wkV, PV.el, PV.weak, PS.get, PS.obj, PS.lv, lkp_hit, lkp_miss, lkp_nil, lko, wkL, wkC, res1]) (by simp [PS.get, PS.obj, PS.lv, lkp_hit, lkp_miss, lkp_nil, lko, wkL, wkC, PV.weak, wkL, wkC, res1]) (by simp [PS.get, PS.obj, PS.lv, lkp_hit, lkp_miss, lkp_nil, lko]) (by rfl) (by rfl) (by simp [lko]) (by simp) (by simp) (by simp) (fun i hi => by rcases i with _ | _ | i <;> first | rfl | (exfalso; omega)))
  · rintro ⟨i, hi, he⟩
    simp only [IxA.st]
    simp -implicitDefEqProofs only [push_cast, pdL_length, seval]
    refine condC_split (fun g1 => ?_) (fun g1 => ?_)
    · have hlt : i < l.length := by simp at g1; omega
      have hwi : IntKind.i64.wrap ((i : Int) + 1) = ((i + 1 : Nat) : Int) := by (rw [wrap_i64_id (by omega) (by omega)]; rfl)
      have hg := pd_at hlt
      have hd : l.drop i = l.getD i pd0 :: l.drop (i + 1) := by
        rw [List.getD_eq_getElem?_getD, List.getElem?_eq_getElem hlt]; exact List.drop_eq_getElem_cons hlt
      rw [hd] at he
      generalize l.getD i pd0 = x at *
      have hc := clos_fs x c r
      rw [Pd.pv] at hg hc
      simp -implicitDefEqProofs only [push_cast, hg, pdL_length, seval]
      (repeat (first | refine ⟨(by omega : _ ≤ _), ?_⟩ | refine ⟨(by omega : _ < _), ?_⟩ | refine ⟨by (unfold drawOk; kernel_rfl), ?_⟩ | refine ⟨(by simp; done), ?_⟩ | refine ⟨(by simp; omega), ?_⟩))
      refine callE_box hc [0, 1] [] (by rfl) (by rfl) (by rfl) (by rfl) (by rfl) (by rfl) (fun i j cs h1 h2 => by (rcases i with _ | _ | _ | i <;> simp at h1 h2 <;> (subst h1; subst h2; exact ⟨_, rfl, (by (repeat' (first | exact wkL_nil | refine wkL_cons ?_ ?_)); all_goals (first | exact .inl ⟨_, _, _, _, rfl, rfl, rfl⟩ | exact .inr (.inr (.inr (.inr (.inl ⟨_, _, _, rfl, rfl, rfl⟩)))) | exact .inr (.inr (.inr (.inr (.inr (.inl ⟨_, _, _, _, rfl, rfl, rfl⟩))))) | exact .inr (.inr (.inr (.inr (.inr (.inr ⟨_, _, rfl, rfl, rfl⟩))))) | exact .inr (.inl rfl) | exact .inr (.inr (.inl ⟨_, _, _, rfl, rfl, rfl⟩))))⟩))) (by simp [PS.lv, lkp_hit, lkp_miss, lkp_nil]) (by (repeat' (first | exact wkL_nil | refine wkL_cons ?_ ?_)); all_goals (first | exact .inl ⟨_, _, _, rfl, rfl, rfl⟩ | exact .inr (.inl rfl) | exact .inr (.inr (.inl ⟨_, _, _, _, rfl, rfl, rfl⟩)) | exact .inr (.inr (.inr (.inl ⟨_, _, _, rfl, rfl, rfl, (wkL_get (by (repeat' (first | exact wkL_nil | refine wkL_cons ?_ ?_)); all_goals (first | exact .inl ⟨_, _, _, rfl, rfl, rfl⟩ | exact .inr rfl))).2⟩))) | exact .inr (.inr (.inr (.inr (.inl ⟨_, _, rfl, rfl, rfl⟩)))) | exact .inr (.inr (.inr (.inr (.inr ⟨_, _, rfl, rfl, wkL_get (by (repeat' (first | exact wkL_nil | refine wkL_cons ?_ ?_)); all_goals (first | exact .inr rfl | exact .inl ⟨_, _, rfl, rfl, rfl⟩))⟩)))))) (by decide) (by simp) (by rfl) (by simp [tokLt1]) (fun _ => by rfl) (by first | rfl | simp [gdOk, newToks]) ?_
      simp -implicitDefEqProofs only [push_cast, seval]
      refine condC_split (fun g1 => ?_) (fun g1 => ?_)
      · rw [idx1, if_pos g1] at he
        rw [he]
        simp -implicitDefEqProofs only [push_cast, seval]
        exact endK_box [] [0, 1] rfl rfl (by simp [PS.lv, lkp_hit, lkp_miss, lkp_nil]) rfl rfl (by rfl) (fun i j ps h1 h2 => by (rcases i with _ | _ | i <;> simp at h1 h2 <;> (subst h1; subst h2; exact ⟨_, rfl, (by (repeat' (first | exact wkL_nil | refine wkL_cons ?_ ?_)); all_goals (first | rfl | exact ⟨rfl, rfl⟩ | exact ⟨rfl, rfl, rfl⟩ | exact .inl rfl))⟩))) ⟨by simp [resOk, PS.get, lkp_hit, lkp_miss, PS.ev], by simp [resPV, PS.get, lkp_hit, lkp_miss, PS.ev], by simp [resOf, resPV, one', res3, res2, res1, PS.get, lkp_hit, lkp_miss, PS.ev, PV.weak, PV.el, wkL]⟩
      · rw [idx1, if_neg (by rw [g1]; simp)] at he
        simp -implicitDefEqProofs only [push_cast, hwi, seval]
        refine ⟨⟨i + 1, hlt, he⟩, by simp only; omega, ?_⟩
        (simp only [IxA.st]; exact Wk.by _ _ _ [(0, 0), (1, 1)] [] [] (by simp) (by simp [wkV, PV.el, PV.weak, PS.get, PS.obj, PS.lv, lkp_hit, lkp_miss, lkp_nil, lko, wkL, wkC, res1]) (by simp [PS.get, PS.obj, PS.lv, lkp_hit, lkp_miss, lkp_nil, lko, wkL, wkC, PV.weak, wkL, wkC, res1]) (by simp [PS.get, PS.obj, PS.lv, lkp_hit, lkp_miss, lkp_nil, lko]) (by rfl) (by rfl) (by simp [lko]) (by simp) (by simp) (by simp) (fun i hi => by rcases i with _ | _ | i <;> first | rfl | (exfalso; omega)))
    · have hie : i = l.length := by simp at g1; omega
      subst hie
      rw [List.drop_length] at he
      simp -implicitDefEqProofs only [push_cast, seval]
      rw [he, idx1]
      exact endK_box [] [0, 1] rfl rfl (by simp [PS.lv, lkp_hit, lkp_miss, lkp_nil]) rfl rfl (by rfl) (fun i j ps h1 h2 => by (rcases i with _ | _ | i <;> simp at h1 h2 <;> (subst h1; subst h2; exact ⟨_, rfl, (by (repeat' (first | exact wkL_nil | refine wkL_cons ?_ ?_)); all_goals (first | rfl | exact ⟨rfl, rfl⟩ | exact ⟨rfl, rfl, rfl⟩ | exact .inl rfl))⟩))) ⟨by simp [resOk, PS.get, lkp_hit, lkp_miss, PS.ev], by simp [resPV, PS.get, lkp_hit, lkp_miss, PS.ev], by simp [resOf, resPV, one', res3, res2, res1, PS.get, lkp_hit, lkp_miss, PS.ev, PV.weak, PV.el, wkL]⟩
def Ix0.st (c r : Int) (_ : Unit) : PS := { n := 19, env := [(8, .int .i64 0), (7, .int .i64 0), (4, .int .i64 0)], objs := [(0, some [.int .i64 c]), (1, some [.int .u32 r])], live := [], nxt := 60 }
theorem index_nil (c r : Int) : Fsp Tryd.prog 46 [[.int .i64 c], [.int .u32 r]] 0 [.nilsl, .fn 31 [.box 0 0, .box 1 0]] [[.int .i64 c], [.int .u32 r]] 0 (.int .i64 (-1)) := by
  (refine Fsp.of (nx := 2) mixed Tryd.func46 rfl (by decide) (by first | exact Nat.le_refl _ | simp) (by simp [Tryd.f46]) ⟨by simp, by simp⟩ ?_; simp -implicitDefEqProofs only [push_cast, Tryd.f46, seval])
  refine loopC_of (α := Unit) (Ix0.st c r) (fun a => 0) () ?_ ?_
  · (simp only [Ix0.st]; exact Wk.by _ _ _ [(0, 0), (1, 1)] [] [] (by simp) (by simp [wkV, PV.el, PV.weak, PS.get, PS.obj, PS.lv, lkp_hit, lkp_miss, lkp_nil, lko, wkL, wkC, res1]) (by simp [PS.get, PS.obj, PS.lv, lkp_hit, lkp_miss, lkp_nil, lko, wkL, wkC, PV.weak, wkL, wkC, res1]) (by simp [PS.get, PS.obj, PS.lv, lkp_hit, lkp_miss, lkp_nil, lko]) (by rfl) (by rfl) (by simp [lko]) (by simp) (by simp) (by simp) (fun i hi => by rcases i with _ | _ | i <;> first | rfl | (exfalso; omega)))
  · intro _
    simp only [Ix0.st]
    simp -implicitDefEqProofs only [push_cast, seval]
    exact endK_box [] [0, 1] rfl rfl (by simp [PS.lv, lkp_hit, lkp_miss, lkp_nil]) rfl rfl (by rfl) (fun i j ps h1 h2 => by (rcases i with _ | _ | i <;> simp at h1 h2 <;> (subst h1; subst h2; exact ⟨_, rfl, (by (repeat' (first | exact wkL_nil | refine wkL_cons ?_ ?_)); all_goals (first | rfl | exact ⟨rfl, rfl⟩ | exact ⟨rfl, rfl, rfl⟩ | exact .inl rfl))⟩))) ⟨by simp [resOk, PS.get, lkp_hit, lkp_miss, PS.ev], by simp [resPV, PS.get, lkp_hit, lkp_miss, PS.ev], by simp [resOf, resPV, one', res3, res2, res1, PS.get, lkp_hit, lkp_miss, PS.ev, PV.weak, PV.el, wkL]⟩
theorem idx1_ge (c r : Int) : ∀ (l : List Pd) (i : Nat), decide (0 ≤ idx1 c r l i) = l.any (Pd.is c r)
  | [], _ => rfl
  | x :: l, i => by
    rw [idx1, List.any_cons]
    split
    · rename_i h; rw [h]; simp
    · rename_i h; simp at h; rw [h, Bool.false_or]; exact idx1_ge c r l (i + 1)
theorem cont_fs (l : List Pd) (hl : l.length < 1000000) (c r : Int) : Fsp Tryd.prog 30 [[.int .i64 c], [.int .u32 r]] 0 [.sl 8 (pdL l), .fn 31 [.box 0 0, .box 1 0]] [[.int .i64 c], [.int .u32 r]] 0 (.bool (l.any (Pd.is c r))) := by
  have hc := index_fs l hl c r
  have hi := idx1_ge c r l 0
  (refine Fsp.of (nx := 2) mixed Tryd.func30 rfl (by decide) (by first | exact Nat.le_refl _ | simp) (by simp [Tryd.f30]) ⟨by simp, by simp⟩ ?_; simp -implicitDefEqProofs only [push_cast, Tryd.f30, seval])
  refine callE_box hc [0, 1] [] (by rfl) (by rfl) (by rfl) (by rfl) (by rfl) (by rfl) (fun i j cs h1 h2 => by (rcases i with _ | _ | _ | i <;> simp at h1 h2 <;> (subst h1; subst h2; exact ⟨_, rfl, (by (repeat' (first | exact wkL_nil | refine wkL_cons ?_ ?_)); all_goals (first | exact .inl ⟨_, _, _, _, rfl, rfl, rfl⟩ | exact .inr (.inr (.inr (.inr (.inl ⟨_, _, _, rfl, rfl, rfl⟩)))) | exact .inr (.inr (.inr (.inr (.inr (.inl ⟨_, _, _, _, rfl, rfl, rfl⟩))))) | exact .inr (.inr (.inr (.inr (.inr (.inr ⟨_, _, rfl, rfl, rfl⟩))))) | exact .inr (.inl rfl) | exact .inr (.inr (.inl ⟨_, _, _, rfl, rfl, rfl⟩))))⟩))) (by simp [PS.lv, lkp_hit, lkp_miss, lkp_nil]) (by (repeat' (first | exact wkL_nil | refine wkL_cons ?_ ?_)); all_goals (first | exact .inl ⟨_, _, _, rfl, rfl, rfl⟩ | exact .inr (.inl rfl) | exact .inr (.inr (.inl ⟨_, _, _, _, rfl, rfl, rfl⟩)) | exact .inr (.inr (.inr (.inl ⟨_, _, _, rfl, rfl, rfl, (wkL_get (by (repeat' (first | exact wkL_nil | refine wkL_cons ?_ ?_)); all_goals (first | exact .inl ⟨_, _, _, rfl, rfl, rfl⟩ | exact .inr rfl))).2⟩))) | exact .inr (.inr (.inr (.inr (.inl ⟨_, _, rfl, rfl, rfl⟩)))) | exact .inr (.inr (.inr (.inr (.inr ⟨_, _, rfl, rfl, wkL_get (by (repeat' (first | exact wkL_nil | refine wkL_cons ?_ ?_)); all_goals (first | exact .inr rfl | exact .inl ⟨_, _, rfl, rfl, rfl⟩))⟩)))))) (by decide) (by simp) (by rfl) (by simp [tokLt1]) (fun _ => by rfl) (by first | rfl | simp [gdOk, newToks]) ?_
  simp -implicitDefEqProofs only [push_cast, hi, seval]
  exact endK_box [] [0, 1] rfl rfl (by simp [PS.lv, lkp_hit, lkp_miss, lkp_nil]) rfl rfl (by rfl) (fun i j ps h1 h2 => by (rcases i with _ | _ | i <;> simp at h1 h2 <;> (subst h1; subst h2; exact ⟨_, rfl, (by (repeat' (first | exact wkL_nil | refine wkL_cons ?_ ?_)); all_goals (first | rfl | exact ⟨rfl, rfl⟩ | exact ⟨rfl, rfl, rfl⟩ | exact .inl rfl))⟩))) ⟨by simp [resOk, PS.get, lkp_hit, lkp_miss, PS.ev], by simp [resPV, PS.get, lkp_hit, lkp_miss, PS.ev], by simp [resOf, resPV, one', res3, res2, res1, PS.get, lkp_hit, lkp_miss, PS.ev, PV.weak, PV.el, wkL]⟩
theorem cont_nil (c r : Int) : Fsp Tryd.prog 30 [[.int .i64 c], [.int .u32 r]] 0 [.nilsl, .fn 31 [.box 0 0, .box 1 0]] [[.int .i64 c], [.int .u32 r]] 0 (.bool false) := by
  have hc := index_nil c r
  (refine Fsp.of (nx := 2) mixed Tryd.func30 rfl (by decide) (by first | exact Nat.le_refl _ | simp) (by simp [Tryd.f30]) ⟨by simp, by simp⟩ ?_; simp -implicitDefEqProofs only [push_cast, Tryd.f30, seval])
  refine callE_box hc [0, 1] [] (by rfl) (by rfl) (by rfl) (by rfl) (by rfl) (by rfl) (fun i j cs h1 h2 => by (rcases i with _ | _ | _ | i <;> simp at h1 h2 <;> (subst h1; subst h2; exact ⟨_, rfl, (by (repeat' (first | exact wkL_nil | refine wkL_cons ?_ ?_)); all_goals (first | exact .inl ⟨_, _, _, _, rfl, rfl, rfl⟩ | exact .inr (.inr (.inr (.inr (.inl ⟨_, _, _, rfl, rfl, rfl⟩)))) | exact .inr (.inr (.inr (.inr (.inr (.inl ⟨_, _, _, _, rfl, rfl, rfl⟩))))) | exact .inr (.inr (.inr (.inr (.inr (.inr ⟨_, _, rfl, rfl, rfl⟩))))) | exact .inr (.inl rfl) | exact .inr (.inr (.inl ⟨_, _, _, rfl, rfl, rfl⟩))))⟩))) (by simp [PS.lv, lkp_hit, lkp_miss, lkp_nil]) (by (repeat' (first | exact wkL_nil | refine wkL_cons ?_ ?_)); all_goals (first | exact .inl ⟨_, _, _, rfl, rfl, rfl⟩ | exact .inr (.inl rfl) | exact .inr (.inr (.inl ⟨_, _, _, _, rfl, rfl, rfl⟩)) | exact .inr (.inr (.inr (.inl ⟨_, _, _, rfl, rfl, rfl, (wkL_get (by (repeat' (first | exact wkL_nil | refine wkL_cons ?_ ?_)); all_goals (first | exact .inl ⟨_, _, _, rfl, rfl, rfl⟩ | exact .inr rfl))).2⟩))) | exact .inr (.inr (.inr (.inr (.inl ⟨_, _, rfl, rfl, rfl⟩)))) | exact .inr (.inr (.inr (.inr (.inr ⟨_, _, rfl, rfl, wkL_get (by (repeat' (first | exact wkL_nil | refine wkL_cons ?_ ?_)); all_goals (first | exact .inr rfl | exact .inl ⟨_, _, rfl, rfl, rfl⟩))⟩)))))) (by decide) (by simp) (by rfl) (by simp [tokLt1]) (fun _ => by rfl) (by first | rfl | simp [gdOk, newToks]) ?_
  simp -implicitDefEqProofs only [push_cast, seval]
  exact endK_box [] [0, 1] rfl rfl (by simp [PS.lv, lkp_hit, lkp_miss, lkp_nil]) rfl rfl (by rfl) (fun i j ps h1 h2 => by (rcases i with _ | _ | i <;> simp at h1 h2 <;> (subst h1; subst h2; exact ⟨_, rfl, (by (repeat' (first | exact wkL_nil | refine wkL_cons ?_ ?_)); all_goals (first | rfl | exact ⟨rfl, rfl⟩ | exact ⟨rfl, rfl, rfl⟩ | exact .inl rfl))⟩))) ⟨by simp [resOk, PS.get, lkp_hit, lkp_miss, PS.ev], by simp [resPV, PS.get, lkp_hit, lkp_miss, PS.ev], by simp [resOf, resPV, one', res3, res2, res1, PS.get, lkp_hit, lkp_miss, PS.ev, PV.weak, PV.el, wkL]⟩
/-- Whether a client has been asked, as a table has it. -/
theorem mayT_fs (l : List Pd) (hl : l.length < 1000000) (c r : Int) (es : List (PV × PV)) : Fsp Tryd.prog 15 [] 0 [.agg [.mpure es, .sl 8 (pdL l)], .int .i64 c, .int .u32 r] [] 0 (.bool (l.any (Pd.is c r))) := by
  have hc := cont_fs l hl c r
  (refine Fsp.ofs (nx := 0) mixed Tryd.func15 rfl (by simp [Tryd.f15]) ?_; simp -implicitDefEqProofs only [push_cast, Tryd.f15, seval])
  refine callE_box hc [4, 8] [] (by rfl) (by rfl) (by rfl) (by rfl) (by rfl) (by rfl) (fun i j cs h1 h2 => by (rcases i with _ | _ | _ | i <;> simp at h1 h2 <;> (subst h1; subst h2; exact ⟨_, rfl, (by (repeat' (first | exact wkL_nil | refine wkL_cons ?_ ?_)); all_goals (first | exact .inl ⟨_, _, _, _, rfl, rfl, rfl⟩ | exact .inr (.inr (.inr (.inr (.inl ⟨_, _, _, rfl, rfl, rfl⟩)))) | exact .inr (.inr (.inr (.inr (.inr (.inl ⟨_, _, _, _, rfl, rfl, rfl⟩))))) | exact .inr (.inr (.inr (.inr (.inr (.inr ⟨_, _, rfl, rfl, rfl⟩))))) | exact .inr (.inl rfl) | exact .inr (.inr (.inl ⟨_, _, _, rfl, rfl, rfl⟩))))⟩))) (by simp [PS.lv, lkp_hit, lkp_miss, lkp_nil]) (by (repeat' (first | exact wkL_nil | refine wkL_cons ?_ ?_)); all_goals (first | exact .inl ⟨_, _, _, rfl, rfl, rfl⟩ | exact .inr (.inl rfl) | exact .inr (.inr (.inl ⟨_, _, _, _, rfl, rfl, rfl⟩)) | exact .inr (.inr (.inr (.inl ⟨_, _, _, rfl, rfl, rfl, (wkL_get (by (repeat' (first | exact wkL_nil | refine wkL_cons ?_ ?_)); all_goals (first | exact .inl ⟨_, _, _, rfl, rfl, rfl⟩ | exact .inr rfl))).2⟩))) | exact .inr (.inr (.inr (.inr (.inl ⟨_, _, rfl, rfl, rfl⟩)))) | exact .inr (.inr (.inr (.inr (.inr ⟨_, _, rfl, rfl, wkL_get (by (repeat' (first | exact wkL_nil | refine wkL_cons ?_ ?_)); all_goals (first | exact .inr rfl | exact .inl ⟨_, _, rfl, rfl, rfl⟩))⟩)))))) (by decide) (by simp) (by rfl) (by simp [tokLt1]) (fun _ => by rfl) (by first | rfl | simp [gdOk, newToks]) ?_
  simp -implicitDefEqProofs only [push_cast, seval]
theorem mayT_nil (c r : Int) : Fsp Tryd.prog 15 [] 0 [.agg [.nilm, .nilsl], .int .i64 c, .int .u32 r] [] 0 (.bool false) := by
  have hc := cont_nil c r
  (refine Fsp.ofs (nx := 0) mixed Tryd.func15 rfl (by simp [Tryd.f15]) ?_; simp -implicitDefEqProofs only [push_cast, Tryd.f15, seval])
  refine callE_box hc [4, 8] [] (by rfl) (by rfl) (by rfl) (by rfl) (by rfl) (by rfl) (fun i j cs h1 h2 => by (rcases i with _ | _ | _ | i <;> simp at h1 h2 <;> (subst h1; subst h2; exact ⟨_, rfl, (by (repeat' (first | exact wkL_nil | refine wkL_cons ?_ ?_)); all_goals (first | exact .inl ⟨_, _, _, _, rfl, rfl, rfl⟩ | exact .inr (.inr (.inr (.inr (.inl ⟨_, _, _, rfl, rfl, rfl⟩)))) | exact .inr (.inr (.inr (.inr (.inr (.inl ⟨_, _, _, _, rfl, rfl, rfl⟩))))) | exact .inr (.inr (.inr (.inr (.inr (.inr ⟨_, _, rfl, rfl, rfl⟩))))) | exact .inr (.inl rfl) | exact .inr (.inr (.inl ⟨_, _, _, rfl, rfl, rfl⟩))))⟩))) (by simp [PS.lv, lkp_hit, lkp_miss, lkp_nil]) (by (repeat' (first | exact wkL_nil | refine wkL_cons ?_ ?_)); all_goals (first | exact .inl ⟨_, _, _, rfl, rfl, rfl⟩ | exact .inr (.inl rfl) | exact .inr (.inr (.inl ⟨_, _, _, _, rfl, rfl, rfl⟩)) | exact .inr (.inr (.inr (.inl ⟨_, _, _, rfl, rfl, rfl, (wkL_get (by (repeat' (first | exact wkL_nil | refine wkL_cons ?_ ?_)); all_goals (first | exact .inl ⟨_, _, _, rfl, rfl, rfl⟩ | exact .inr rfl))).2⟩))) | exact .inr (.inr (.inr (.inr (.inl ⟨_, _, rfl, rfl, rfl⟩)))) | exact .inr (.inr (.inr (.inr (.inr ⟨_, _, rfl, rfl, wkL_get (by (repeat' (first | exact wkL_nil | refine wkL_cons ?_ ?_)); all_goals (first | exact .inr rfl | exact .inl ⟨_, _, rfl, rfl, rfl⟩))⟩)))))) (by decide) (by simp) (by rfl) (by simp [tokLt1]) (fun _ => by rfl) (by first | rfl | simp [gdOk, newToks]) ?_
  simp -implicitDefEqProofs only [push_cast, seval]
end Go.Proofs.Sh

/- Package rights: what a client is to an id. -/
set_option maxRecDepth 100000
set_option linter.unusedSimpArgs false
set_option linter.unusedVariables false
namespace Go.Proofs.Sh
open Go.Pv
def upOf (t : Tm) (i : Int) : Int := (getU t.ups i).getD 1
def mngd (c : Cm) (cl p : Int) : Bool := bitsI BinOp.and IntKind.i64 (getC c.ms cl p) 2048 != 0
def ofS (t : Tm) (c : Cm) (b : Bool) (cl i : Int) : Fa :=
  if t.has i = true then ⟨mineB cl i, decide (i = 1), mngd c cl (upOf t i), (getU t.ups i).isSome && mineB cl (upOf t i), b⟩
  else ⟨mineB cl i, decide (i = 1), false, false, b⟩
set_option maxHeartbeats 2000000 in
theorem of_fs (q0 q1 : PV) (hq : q0 = .nilm ∧ q1 = .nilsl ∨ ∃ es l, q0 = .mpure es ∧ q1 = .sl 8 (pdL l)) (t : Tm) (c : Cm) (hc : CmOk c) (b : Bool) (cl i : Int) (hb : Fsp Tryd.prog 15 [] 0 [.agg [q0, q1], .int .i64 cl, .int .u32 i] [] 0 (.bool b))
    (hcl : (Go.Lit.int .i64 cl).wf = true) (h0 : 0 ≤ i) (h1 : i < 4294967296) (hp : ∀ p, getU t.ups i = some p → 0 ≤ p ∧ p < 4294967296) : Fsp Tryd.prog 11 [] 0 [t.pv, c.pv, .agg [q0, q1], .int .i64 cl, .int .u32 i] [] 0 (ofS t c b cl i).pv := by
  have hm := mine_fs cl i h0 h1
  have hh := has_fs t i
  have hpa := parent_fs t i
  have hmk : 0 ≤ upOf t i ∧ upOf t i < 4294967296 := by
    unfold upOf
    cases hg : getU t.ups i with
    | none => exact ⟨by decide, by decide⟩
    | some p => exact hp p hg
  have hms := mask_fs c hc cl (upOf t i) hcl (wf_u hmk)
  have hmu := mine_fs cl (upOf t i) hmk.1 hmk.2
  unfold ofS
  unfold mngd
  unfold upOf at *
  cases hhas : t.has i with
  | false =>
    rw [hhas] at hh
    rw [if_neg (by simp)]
    rcases hq with ⟨rfl, rfl⟩ | ⟨es, l, rfl, rfl⟩
    all_goals
      cases t <;> cases c
      all_goals
        simp only [Tm.pv, Tm.kc, Tm.uc, Cm.pv, Cm.mc, Cm.sc] at *
        (refine Fsp.ofs (nx := 0) mixed Tryd.func11 rfl (by simp [Tryd.f11]) ?_; simp -implicitDefEqProofs only [push_cast, Tryd.f11, seval])
        refine callE_p hm ?_
        simp -implicitDefEqProofs only [push_cast, seval]
        refine callE_p hb ?_
        simp -implicitDefEqProofs only [push_cast, seval]
        (repeat (first | refine ⟨(by omega : _ ≤ _), ?_⟩ | refine ⟨(by omega : _ < _), ?_⟩ | refine ⟨by (unfold drawOk; kernel_rfl), ?_⟩ | refine ⟨(by simp; done), ?_⟩ | refine ⟨(by simp; omega), ?_⟩))
        refine callE_p hh ?_
        simp -implicitDefEqProofs only [push_cast, seval]
        exact .inl rfl
  | true =>
    rw [hhas] at hh
    rw [if_pos rfl]
    cases hg : getU t.ups i with
    | none =>
      rw [hg] at hpa hms hmu
      simp only [Option.getD_none, Option.getD_some, Option.isSome_none, Option.isSome_some, Bool.false_and, Bool.true_and] at hpa hms hmu ⊢
      rcases hq with ⟨rfl, rfl⟩ | ⟨es, l, rfl, rfl⟩
      all_goals
        cases t <;> cases c
        all_goals
          simp only [Tm.pv, Tm.kc, Tm.uc, Cm.pv, Cm.mc, Cm.sc] at *
          (refine Fsp.ofs (nx := 0) mixed Tryd.func11 rfl (by simp [Tryd.f11]) ?_; simp -implicitDefEqProofs only [push_cast, Tryd.f11, seval])
          refine callE_p hm ?_
          simp -implicitDefEqProofs only [push_cast, seval]
          refine callE_p hb ?_
          simp -implicitDefEqProofs only [push_cast, seval]
          (repeat (first | refine ⟨(by omega : _ ≤ _), ?_⟩ | refine ⟨(by omega : _ < _), ?_⟩ | refine ⟨by (unfold drawOk; kernel_rfl), ?_⟩ | refine ⟨(by simp; done), ?_⟩ | refine ⟨(by simp; omega), ?_⟩))
          refine callE_p hh ?_
          simp -implicitDefEqProofs only [push_cast, seval]
          refine callE_p hpa ?_
          simp -implicitDefEqProofs only [push_cast, seval]
          skip
          skip
          refine callE_p hms ?_
          simp -implicitDefEqProofs only [push_cast, seval]
          exact .inl rfl
    | some p =>
      rw [hg] at hpa hms hmu
      simp only [Option.getD_none, Option.getD_some, Option.isSome_none, Option.isSome_some, Bool.false_and, Bool.true_and] at hpa hms hmu ⊢
      rcases hq with ⟨rfl, rfl⟩ | ⟨es, l, rfl, rfl⟩
      all_goals
        cases t <;> cases c
        all_goals
          simp only [Tm.pv, Tm.kc, Tm.uc, Cm.pv, Cm.mc, Cm.sc] at *
          (refine Fsp.ofs (nx := 0) mixed Tryd.func11 rfl (by simp [Tryd.f11]) ?_; simp -implicitDefEqProofs only [push_cast, Tryd.f11, seval])
          refine callE_p hm ?_
          simp -implicitDefEqProofs only [push_cast, seval]
          refine callE_p hb ?_
          simp -implicitDefEqProofs only [push_cast, seval]
          (repeat (first | refine ⟨(by omega : _ ≤ _), ?_⟩ | refine ⟨(by omega : _ < _), ?_⟩ | refine ⟨by (unfold drawOk; kernel_rfl), ?_⟩ | refine ⟨(by simp; done), ?_⟩ | refine ⟨(by simp; omega), ?_⟩))
          refine callE_p hh ?_
          simp -implicitDefEqProofs only [push_cast, seval]
          refine callE_p hpa ?_
          simp -implicitDefEqProofs only [push_cast, seval]
          refine callE_p hmu ?_
          simp -implicitDefEqProofs only [push_cast, seval]
          refine callE_p hms ?_
          simp -implicitDefEqProofs only [push_cast, seval]
          exact .inl rfl
end Go.Proofs.Sh
