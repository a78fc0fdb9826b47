/- Layer 60: an end, as plain data; how it stands in memory. -/
import Derived.Test.YtoemcdgebkkcoaaGreatDoorShTypes
import Derived.Test.YtoemcdgebkkcoaaGreatDoorPxBase
import Derived.Test.YtoemcdgebkkcoaaGreatDoorPvYa
import Derived.Test.YtoemcdgebkkcoaaGreatDoorPvZ
set_option maxRecDepth 100000
set_option linter.unusedSimpArgs false
namespace Go.Proofs.Lk
open Go.Pv Go.Proofs.Sh
structure Pc where
 n : Int
 b : List UInt8
 due : Bool
def Pc.pv (p : Pc) : PV := .agg [.int .i64 p.n, .str p.b, .bool p.due]
structure En where
 most : Int
 way : List Pc
 next : Int
 rest : List UInt8
 exp : Int
 aside : Nat → List UInt8
 read : List UInt8
 ack : Bool
def En.cs (e : En) (w : PV) : List PV :=
 [.int .i64 e.most, w, .int .i64 e.next, .str e.rest, .int .i64 e.exp, .str (e.aside 0), .str (e.aside 1), .str (e.aside 2), .str (e.aside 3), .str (e.aside 4), .str (e.aside 5), .str (e.aside 6), .str (e.aside 7),
  .str (e.aside 8), .str (e.aside 9), .str (e.aside 10), .str (e.aside 11), .str (e.aside 12), .str (e.aside 13), .str (e.aside 14), .str (e.aside 15), .str e.read, .bool e.ack]
def pcs (l : List Pc) : PV := .sl 3 (l.map Pc.pv)
def En.pv (e : En) : PV := .agg (e.cs (pcs e.way))
def End0 : En := { most := 0, way := [], next := 0, rest := [], exp := 0, aside := fun _ => [], read := [], ack := false }
def En.mn (e : En) : Int := if (e.rest.length : Int) < e.most then (e.rest.length : Int) else e.most
def En.num1 (e : En) : En :=
 { e with way := e.way ++ [⟨e.next, e.rest.take e.mn.toNat, true⟩], rest := e.rest.drop e.mn.toNat, next := e.next + 1 }
def numL : Nat → En → En
 | 0, e => e
 | k + 1, e => if (e.rest != [] && decide ((e.way.length : Int) < 16)) = true then numL k e.num1 else e
def En.number (e : En) : En := numL 17 e
theorem numL_stable : ∀ (k : Nat) (e : En), 16 ≤ e.way.length + k → numL (k + 1) e = numL k e
 | 0, e, h => by
  have : ¬ ((e.way.length : Int) < 16) := by omega
  simp [numL, this]
 | k + 1, e, h => by
  show (if (e.rest != [] && decide ((e.way.length : Int) < 16)) = true then numL (k + 1) e.num1 else e) = (if (e.rest != [] && decide ((e.way.length : Int) < 16)) = true then numL k e.num1 else e)
  split
  ·exact numL_stable k e.num1 (by simp [En.num1]; omega)
  ·rfl
end Go.Proofs.Lk
set_option maxRecDepth 100000
set_option linter.unusedSimpArgs false
set_option linter.unusedVariables false
namespace Go.Proofs.Lk
open Go.Pv Go.Proofs.Sh
theorem pcs_one (l : List Pc) : ∀ p ∈ l.map Pc.pv, p.cells.length = 3 := by
 intro p hp
 obtain ⟨x, _, rfl⟩ := List.mem_map.1 hp
 rfl
theorem clone_nil : Fsp Tryz.prog 50 [] 0 [.nilsl] [] 0 .nilsl := by
 (refine Fsp.of (nx := 0) mixed Tryz.func50 rfl (by decide) (Nat.le_refl _) (by simp [Tryz.f50]) ⟨by decide, by decide⟩ ?_; simp -implicitDefEqProofs only [push_cast, Tryz.f50, seval])
theorem clone_sln (l : List Pc) (hl : l.length ≤ 1000000) : Fsp Tryz.prog 50 [] 0 [.sln 3 (l.map Pc.pv)] [] 1 (.slt 3 (l.map Pc.pv) 0) := by
 (refine Fsp.of (nx := 0) mixed Tryz.func50 rfl (by decide) (Nat.le_refl _) (by simp [Tryz.f50]) ⟨by decide, by decide⟩ ?_; simp -implicitDefEqProofs only [push_cast, Tryz.f50, seval])
 refine callE_bs ?_
 simp -implicitDefEqProofs only [push_cast, seval]
 refine ⟨by simp; omega, by simp; omega, ?_⟩
 exact endK_toks [20] rfl rfl (by simp [PS.lv, lkp_hit, lkp_miss, lkp_nil]) ⟨by simp [resOk, PS.ev, PS.get, lkp_hit, PV.cnd], by simp [resPV, PS.get, lkp_hit], by simp [resOf, resPV, one', res3, res2, res1, idx, PS.get, lkp_hit, PV.un]⟩
theorem clone_fs (l : List Pc) (hl : l.length ≤ 1000000) : Fsp Tryz.prog 50 [] 0 [.sl 3 (l.map Pc.pv)] [] 1 (.slt 3 (l.map Pc.pv) 0) := by
 refine of_sl (fun h => ?_) (clone_sln l hl)
 rw [h]
 exact clone_nil.nilTok
theorem read_fs (e : En) : Fsp Tryz.prog 39 [] 0 [e.pv] [] 0 (.tup [({ e with read := [] } : En).pv, .str e.read]) := by
 (refine Fsp.of (nx := 0) mixed Tryz.func39 rfl (by decide) (Nat.le_refl _) (by simp [Tryz.f39]) ⟨by decide, by decide⟩ ?_; simp -implicitDefEqProofs only [push_cast, Tryz.f39, En.pv, En.cs, pcs, seval])
 exact ⟨_, rfl, by simp [wkL, res2, res1, PV.weak, PV.el]⟩
theorem quiet_fs (e : En) : Fsp Tryz.prog 27 [] 0 [e.pv] [] 0 (.bool (decide (e.way.length = 0) && !e.ack)) := by
 (refine Fsp.of (nx := 0) mixed Tryz.func27 rfl (by decide) (Nat.le_refl _) (by simp [Tryz.f27]) ⟨by decide, by decide⟩ ?_; simp -implicitDefEqProofs only [push_cast, Tryz.f27, En.pv, En.cs, pcs, seval])
 by_cases h : e.way.length = 0 <;> simp [h]
def newR (most : Int) : PV := if (decide (most < 1) || decide (1024 < most)) = true then .tup [End0.pv, .int .i64 17] else .tup [({ End0 with most := most } : En).pv, .int .i64 0]
theorem new_fs (most : Int) : Fsp Tryz.prog 19 [] 0 [.int .i64 most] [] 0 (newR most) := by
 (refine Fsp.of (nx := 0) mixed Tryz.func19 rfl (by decide) (Nat.le_refl _) (by simp [Tryz.f19]) ⟨by decide, by decide⟩ ?_; simp -implicitDefEqProofs only [push_cast, Tryz.f19, En.pv, En.cs, pcs, seval])
 refine condC_split (fun h => ?_) (fun h => ?_)
 ·rw [newR, if_pos h]
  simp -implicitDefEqProofs only [push_cast, En.pv, En.cs, pcs, seval]
  exact ⟨_, rfl, by simp [wkL, res2, res1, PV.weak, PV.el, End0]⟩
 ·rw [newR, if_neg (by rw [h]; exact Bool.false_ne_true)]
  simp -implicitDefEqProofs only [push_cast, En.pv, En.cs, pcs, seval]
  exact ⟨_, rfl, by simp [wkL, res2, res1, PV.weak, PV.el, End0]⟩
theorem or_add (k : Nat) {a b : Nat} (hb : b < 2 ^ k) (h : 2 ^ k * a + b < 9223372036854775808) : bitsI .or .i64 ((2 ^ k * a : Nat) : Int) (b : Int) = ((2 ^ k * a + b : Nat) : Int) := by
 show IntKind.i64.wrap ((BitVec.ofInt 64 ((2 ^ k * a : Nat) : Int) ||| BitVec.ofInt 64 (b : Int)).toNat : Nat) = _
 simp only [BitVec.ofInt_natCast, BitVec.toNat_or, BitVec.toNat_ofNat]
 rw [Nat.mod_eq_of_lt (by omega), Nat.mod_eq_of_lt (by omega), ← Nat.two_pow_add_eq_or_of_lt hb, wrap_i64_id (by omega) (by omega)]
def fourN (b : List UInt8) : Nat := (b.getD 0 0).toNat * 16777216 + (b.getD 1 0).toNat * 65536 + (b.getD 2 0).toNat * 256 + (b.getD 3 0).toNat
theorem u8lt (x : UInt8) : x.toNat < 256 := x.toNat_lt
theorem four_fs (b : List UInt8) (h : 4 ≤ b.length) : Fsp Tryz.prog 70 [] 0 [.str b] [] 0 (.int .i64 (fourN b : Nat)) := by
 (refine Fsp.of (nx := 0) mixed Tryz.func70 rfl (by decide) (Nat.le_refl _) (by simp [Tryz.f70]) ⟨by decide, by decide⟩ ?_; simp -implicitDefEqProofs only [push_cast, Tryz.f70, seval])
 refine ⟨by omega, by omega, by omega, by omega, by unfold drawOk; kernel_rfl, ?_⟩
 have h0 := u8lt (b.getD 0 0)
 have h1 := u8lt (b.getD 1 0)
 have h2 := u8lt (b.getD 2 0)
 have h3 := u8lt (b.getD 3 0)
 unfold fourN
 generalize (b.getD 0 0).toNat = x0 at *
 generalize (b.getD 1 0).toNat = x1 at *
 generalize (b.getD 2 0).toNat = x2 at *
 generalize (b.getD 3 0).toNat = x3 at *
 simp only [wrap_i64_id (n := (x0 : Int)) (by omega) (by omega), wrap_i64_id (n := (x1 : Int)) (by omega) (by omega), wrap_i64_id (n := (x2 : Int)) (by omega) (by omega), wrap_i64_id (n := (x3 : Int)) (by omega) (by omega),
  wrap_i64_id (n := (x0 : Int) * 16777216) (by omega) (by omega), wrap_i64_id (n := (x1 : Int) * 65536) (by omega) (by omega), wrap_i64_id (n := (x2 : Int) * 256) (by omega) (by omega)]
 rw [show (x0 : Int) * 16777216 = ((2 ^ 24 * x0 : Nat) : Int) by omega, show (x1 : Int) * 65536 = ((x1 * 65536 : Nat) : Int) by omega, or_add 24 (by omega) (by omega),
  show 2 ^ 24 * x0 + x1 * 65536 = 2 ^ 16 * (256 * x0 + x1) by omega, show (x2 : Int) * 256 = ((x2 * 256 : Nat) : Int) by omega, or_add 16 (by omega) (by omega),
  show 2 ^ 16 * (256 * x0 + x1) + x2 * 256 = 2 ^ 8 * (65536 * x0 + 256 * x1 + x2) by omega, or_add 8 (by omega) (by omega)]
 congr 1
 omega
end Go.Proofs.Lk
set_option maxRecDepth 100000
set_option linter.unusedSimpArgs false
set_option linter.unusedVariables false
namespace Go.Proofs.Lk
open Go.Pv Go.Proofs.Sh
def En.own (e : En) (k : Nat) : List PV := e.cs (.slt 3 (e.way.map Pc.pv) k)
structure NuS (e : En) where
 c : En
 h : numL 17 c = numL 17 e
 hw : c.way.length ≤ 16
 hn : c.next - c.way.length = e.next - e.way.length
 hr : c.rest.length ≤ e.rest.length
 hm : c.most = e.most
def NuS.st {e : En} (a : NuS e) : PS := { n := 62, env := [(0, .box 0 0)], objs := [(0, some (a.c.own 50))], live := [(50, true)], nxt := 60 }
theorem number_fs (e : En) (h1 : 0 ≤ e.most) (h2 : e.most ≤ 1000000) (h3 : e.rest.length ≤ 1000000) (h4 : e.way.length ≤ 16) (h5 : 0 ≤ e.next) (h6 : e.next ≤ 1000000000) :
 Fsp Tryz.prog 51 [e.own 0] 1 [.box 0 0] [e.number.own 0] 1 (.tup []) := by
 (refine Fsp.of (nx := 1) mixed Tryz.func51 rfl (by decide) (Nat.le_refl _) (by simp [Tryz.f51]) ⟨by simp, by simp⟩ ?_; simp -implicitDefEqProofs only [push_cast, Tryz.f51, En.own, En.cs, seval])
 refine loopC_of (α := NuS e) NuS.st (fun a => 16 - a.c.way.length) ⟨e, rfl, h4, rfl, Nat.le_refl _, rfl⟩ ?_ ?_
 ·(simp only [NuS.st, En.own, En.cs]; exact Wk.by _ _ _ [(0, 0)] [(50, 0)] [] (by simp) (by simp [wkV, PV.el, PV.weak, PS.get, PS.obj, PS.lv, lkp_hit, lkp_miss, lkp_nil, lko]) (by simp [PS.get, PS.obj, PS.lv, lkp_hit, lkp_miss, lkp_nil, lko, wkL, wkC, PV.weak]) (by simp [PS.get, PS.obj, PS.lv, lkp_hit, lkp_miss, lkp_nil, lko]) (by rfl) (by rfl) (by simp [lko]) (by simp) (by simp) (by simp) (fun i hi => by cases Nat.lt_one_iff.1 hi; rfl))
 ·rintro ⟨c, hc, hw, hn, hr, hm⟩
  simp -implicitDefEqProofs only [push_cast, NuS.st, En.own, En.cs, seval]
  refine condC_split (fun h => ?_) (fun h => ?_)
  ·simp -implicitDefEqProofs only [push_cast, seval]
   rw [List.length_map] at h
   have hl : c.way.length < 16 := by simp at h; omega
   refine ⟨by unfold drawOk; kernel_rfl, by split <;> omega, by split <;> omega, by simp; omega, by simp; omega, by unfold drawOk; kernel_rfl, by split <;> omega, by split <;> omega, Nat.le_refl _, ?_⟩
   rw [wrap_i64_id (n := c.next + 1) (by omega) (by omega)]
   have hmn : c.mn.toNat ≤ c.rest.length := by unfold En.mn; split <;> omega
   refine ⟨⟨c.num1, ?_, ?_, ?_, ?_, hm⟩, ?_, ?_⟩
   ·rw [← hc, numL_stable 16 c.num1 (by simp [En.num1])]
    show _ = (if (c.rest != [] && decide ((c.way.length : Int) < 16)) = true then numL 16 c.num1 else c)
    rw [if_pos h]
   ·simp [En.num1]; omega
   ·simp [En.num1]; omega
   ·simp only [En.num1, List.length_drop]; omega
   ·simp [En.num1]; omega
   ·rw [List.take_of_length_le (show (List.drop _ c.rest).length ≤ c.rest.length - _ by rw [List.length_drop]; exact Nat.le_refl _)]
    (simp only [NuS.st, En.own, En.cs, En.num1]; exact Wk.by _ _ _ [(0, 0)] [(50, 224)] [] (by simp) (by simp [wkV, PV.el, PV.weak, PS.get, PS.obj, PS.lv, lkp_hit, lkp_miss, lkp_nil, lko, En.mn, Pc.pv]) (by simp [PS.get, PS.obj, PS.lv, lkp_hit, lkp_miss, lkp_nil, lko, wkL, wkC, PV.weak, En.mn, Pc.pv]) (by simp [PS.get, PS.obj, PS.lv, lkp_hit, lkp_miss, lkp_nil, lko]) (by rfl) (by rfl) (by simp [lko]) (by simp) (by simp) (by simp) (fun i hi => by cases Nat.lt_one_iff.1 hi; rfl))
  ·simp -implicitDefEqProofs only [push_cast, seval]
   rw [List.length_map] at h
   rw [show e.number = c by rw [En.number, ← hc, numL, if_neg (by rw [h]; exact Bool.false_ne_true)]]
   refine endK_box1 [50] rfl rfl (by simp [PS.lv, lkp_hit]) (by simp [PS.obj, lkp_hit]; rfl) (by simp [wkL, res1, PV.weak]) ⟨by simp [resOk], by simp [resPV], by simp [resOf, resPV, one', res3, wkL]⟩
end Go.Proofs.Lk
set_option maxRecDepth 100000
set_option linter.unusedSimpArgs false
set_option linter.unusedVariables false
namespace Go.Proofs.Lk
open Go.Pv Go.Proofs.Sh
def En.ackn (e : En) (told : Int) : En := { e with way := e.way.dropWhile fun p => decide (p.n < told) }
structure AkS (e : En) (told : Int) where
 i : Nat
 hi : i ≤ e.way.length
 h : e.way.dropWhile (fun p => decide (p.n < told)) = (e.way.drop i).dropWhile (fun p => decide (p.n < told))
def AkS.st {e : En} {told : Int} (a : AkS e told) : PS := { n := 32, env := [(12, .int .i64 a.i), (11, .int .i64 e.way.length), (10, .sl 3 (e.way.map Pc.pv)), (4, .int .i64 a.i), (1, .int .i64 told), (0, .box 0 0)], objs := [(0, some (e.own 50))], live := [(50, true)], nxt := 60 }
def pc0 : Pc := ⟨0, [], false⟩
theorem pcs_at {l : List Pc} {i : Nat} (h : i < l.length) : (l.map Pc.pv).getD i .any = (l.getD i pc0).pv := by
 simp [List.getD_eq_getElem?_getD, List.getElem?_map, List.getElem?_eq_getElem h]
theorem pcs_drop {l : List Pc} {i : Nat} (h : i < l.length) : l.drop i = l.getD i pc0 :: l.drop (i + 1) := by
 rw [List.drop_eq_getElem_cons h, List.getD_eq_getElem?_getD, List.getElem?_eq_getElem h]; rfl
theorem ackn_fs (e : En) (told : Int) (hl : e.way.length ≤ 1000) : Fsp Tryz.prog 71 [e.own 0] 1 [.box 0 0, .int .i64 told] [(e.ackn told).own 0] 1 (.tup []) := by
 (refine Fsp.of (nx := 1) mixed Tryz.func71 rfl (by decide) (Nat.le_refl _) (by simp [Tryz.f71]) ⟨by simp, by simp⟩ ?_; simp -implicitDefEqProofs only [push_cast, Tryz.f71, En.own, En.cs, seval])
 refine loopC_of (α := AkS e told) AkS.st (fun a => e.way.length - a.i) ⟨0, by omega, rfl⟩ ?_ ?_
 ·(simp only [AkS.st, En.own, En.cs]; exact Wk.by _ _ _ [(0, 0)] [(50, 0)] [] (by simp) (by simp [wkV, PV.el, PV.weak, PS.get, PS.obj, PS.lv, lkp_hit, lkp_miss, lkp_nil, lko]) (by simp [PS.get, PS.obj, PS.lv, lkp_hit, lkp_miss, lkp_nil, lko, wkL, wkC, PV.weak]) (by simp [PS.get, PS.obj, PS.lv, lkp_hit, lkp_miss, lkp_nil, lko]) (by rfl) (by rfl) (by simp [lko]) (by simp) (by simp) (by simp) (fun i hi => by cases Nat.lt_one_iff.1 hi; rfl))
 ·rintro ⟨i, hi, hd⟩
  simp -implicitDefEqProofs only [push_cast, AkS.st, En.own, En.cs, seval]
  refine condC_split (fun h => ?_) (fun h => ?_)
  ·have hlt : i < e.way.length := by simpa using h
   have hg := pcs_at hlt
   simp -implicitDefEqProofs only [push_cast, hg, Pc.pv, seval]
   refine ⟨by simpa using hlt, ?_⟩
   refine condC_split (fun h2 => ?_) (fun h2 => ?_)
   ·have hq : (e.way.drop i).dropWhile (fun p => decide (p.n < told)) = e.way.drop i := by
     rw [pcs_drop hlt, List.dropWhile_cons_of_neg (by simp at h2 ⊢; omega)]
    simp -implicitDefEqProofs only [push_cast, seval]
    refine ⟨by simp; omega, ?_⟩
    refine endK_box1 [50] rfl rfl (by simp [PS.lv, lkp_hit]) (by simp [PS.obj, lkp_hit]; rfl) (by simp [wkL, res1, PV.weak, En.ackn, hd, hq, List.map_drop]) ⟨by simp [resOk], by simp [resPV], by simp [resOf, resPV, one', res3, wkL]⟩
   ·simp -implicitDefEqProofs only [push_cast, seval]
    rw [show IntKind.i64.wrap ((i : Int) + 1) = ((i + 1 : Nat) : Int) by rw [wrap_i64_id (by omega) (by omega)]; rfl]
    refine ⟨⟨i + 1, by omega, ?_⟩, by simp only; omega, ?_⟩
    ·rw [hd, pcs_drop hlt, List.dropWhile_cons_of_pos (by simp at h2 ⊢; omega)]
    ·(simp only [AkS.st, En.own, En.cs]; exact Wk.by _ _ _ [(0, 0)] [(50, 50)] [] (by simp) (by simp [wkV, PV.el, PV.weak, PS.get, PS.obj, PS.lv, lkp_hit, lkp_miss, lkp_nil, lko]) (by simp [PS.get, PS.obj, PS.lv, lkp_hit, lkp_miss, lkp_nil, lko, wkL, wkC, PV.weak]) (by simp [PS.get, PS.obj, PS.lv, lkp_hit, lkp_miss, lkp_nil, lko]) (by rfl) (by rfl) (by simp [lko]) (by simp) (by simp) (by simp) (fun i hi => by cases Nat.lt_one_iff.1 hi; rfl))
  ·have he : i = e.way.length := by simp at h; omega
   simp -implicitDefEqProofs only [push_cast, seval]
   refine ⟨by simp; omega, ?_⟩
   refine endK_box1 [50] rfl rfl (by simp [PS.lv, lkp_hit]) (by simp [PS.obj, lkp_hit]; rfl) (by subst he; simp [wkL, res1, PV.weak, En.ackn, hd]) ⟨by simp [resOk], by simp [resPV], by simp [resOf, resPV, one', res3, wkL]⟩
end Go.Proofs.Lk
set_option maxRecDepth 100000
set_option linter.unusedSimpArgs false
set_option linter.unusedVariables false
namespace Go.Proofs.Lk
open Go.Pv Go.Proofs.Sh
def En.shift (e : En) : En := { e with read := e.read ++ e.aside 0, aside := fun j => e.aside (j + 1), exp := e.exp + 1 }
def shL : Nat → En → En
 | 0, e => e
 | k + 1, e => if (e.aside 0 != []) = true then shL k e.shift else e
def En.lay (e : En) (k : Nat) (b : List UInt8) : En := { e with aside := fun j => if j = k then b else e.aside j }
def En.acked (e : En) : En := { e with ack := true }
def En.took (e : En) (n : Int) (b : List UInt8) : En :=
 if decide (n < e.exp) = true then e.acked else if (e.aside (n - e.exp).toNat != []) = true then e.acked else shL 17 (e.acked.lay (n - e.exp).toNat b)
theorem at_aside (a0 a1 a2 a3 a4 : PV) (f : Nat → List UInt8) (x y : PV) {k : Nat} (hk : k < 16) : (List.drop (5 + k * 1) [a0, a1, a2, a3, a4, .str (f 0), .str (f 1), .str (f 2), .str (f 3), .str (f 4), .str (f 5), .str (f 6), .str (f 7), .str (f 8), .str (f 9), .str (f 10), .str (f 11), .str (f 12), .str (f 13), .str (f 14), .str (f 15), x, y]).getD 0 .any = .str (f k) := by
 have : k = 0 ∨ k = 1 ∨ k = 2 ∨ k = 3 ∨ k = 4 ∨ k = 5 ∨ k = 6 ∨ k = 7 ∨ k = 8 ∨ k = 9 ∨ k = 10 ∨ k = 11 ∨ k = 12 ∨ k = 13 ∨ k = 14 ∨ k = 15 := by omega
 rcases this with rfl | rfl | rfl | rfl | rfl | rfl | rfl | rfl | rfl | rfl | rfl | rfl | rfl | rfl | rfl | rfl <;> rfl
theorem set_aside (a0 a1 a2 a3 a4 : PV) (f : Nat → List UInt8) (x y : PV) (b : List UInt8) {k : Nat} (hk : k < 16) : List.take (5 + k * 1) [a0, a1, a2, a3, a4, .str (f 0), .str (f 1), .str (f 2), .str (f 3), .str (f 4), .str (f 5), .str (f 6), .str (f 7), .str (f 8), .str (f 9), .str (f 10), .str (f 11), .str (f 12), .str (f 13), .str (f 14), .str (f 15), x, y] ++ .str b :: List.drop (5 + k * 1) [a1, a2, a3, a4, .str (f 0), .str (f 1), .str (f 2), .str (f 3), .str (f 4), .str (f 5), .str (f 6), .str (f 7), .str (f 8), .str (f 9), .str (f 10), .str (f 11), .str (f 12), .str (f 13), .str (f 14), .str (f 15), x, y] = [a0, a1, a2, a3, a4, .str (if 0 = k then b else f 0), .str (if 1 = k then b else f 1), .str (if 2 = k then b else f 2), .str (if 3 = k then b else f 3), .str (if 4 = k then b else f 4), .str (if 5 = k then b else f 5), .str (if 6 = k then b else f 6), .str (if 7 = k then b else f 7), .str (if 8 = k then b else f 8), .str (if 9 = k then b else f 9), .str (if 10 = k then b else f 10), .str (if 11 = k then b else f 11), .str (if 12 = k then b else f 12), .str (if 13 = k then b else f 13), .str (if 14 = k then b else f 14), .str (if 15 = k then b else f 15), x, y] := by
 have : k = 0 ∨ k = 1 ∨ k = 2 ∨ k = 3 ∨ k = 4 ∨ k = 5 ∨ k = 6 ∨ k = 7 ∨ k = 8 ∨ k = 9 ∨ k = 10 ∨ k = 11 ∨ k = 12 ∨ k = 13 ∨ k = 14 ∨ k = 15 := by omega
 rcases this with rfl | rfl | rfl | rfl | rfl | rfl | rfl | rfl | rfl | rfl | rfl | rfl | rfl | rfl | rfl | rfl <;> rfl
structure TkS (d : En) where
 t : Nat
 ht : t ≤ 16
 c : En
 h : shL (17 - t) c = shL 17 d
 ha : ∀ j, c.aside j = d.aside (j + t)
 he : c.exp = d.exp + t
 hr : c.read.length ≤ d.read.length + t * 1000000
def TkS.st {d : En} (a : TkS d) : PS := { n := 71, env := [(0, .box 0 0)], objs := [(0, some (a.c.own 50))], live := [(50, true)], nxt := 60 }
theorem take_fs (e : En) (n : Int) (b : List UInt8) (h0 : 0 ≤ n) (h1 : n ≤ e.exp + 15) (h2x : 0 ≤ e.exp) (h3x : e.exp ≤ 1000000000) (ha : ∀ j, 16 ≤ j → e.aside j = []) (hb : b.length ≤ 1000000) (hal : ∀ j, (e.aside j).length ≤ 1000000) (hrl : e.read.length ≤ 1000000000) :
 Fsp Tryz.prog 72 [e.own 0] 1 [.box 0 0, .int .i64 n, .str b] [(e.took n b).own 0] 1 (.tup []) := by
 (refine Fsp.of (nx := 1) mixed Tryz.func72 rfl (by decide) (Nat.le_refl _) (by simp [Tryz.f72]) ⟨by simp, by simp⟩ ?_; simp -implicitDefEqProofs only [push_cast, Tryz.f72, En.own, En.cs, seval])
 refine condC_split (fun h => ?_) (fun h => ?_)
 ·rw [show e.took n b = e.acked by rw [En.took, if_pos h]]
  simp -implicitDefEqProofs only [push_cast, En.own, En.cs, En.acked, seval]
  refine endK_box1 [0] rfl rfl (by simp [PS.lv, lkp_hit]) (by simp [PS.obj, lkp_hit]; rfl) (by simp [wkL, res1, PV.weak, En.acked]) ⟨by simp [resOk], by simp [resPV], by simp [resOf, resPV, one', res3, wkL]⟩
 ·have hn : e.exp ≤ n := by simp at h; omega
  obtain ⟨k, hk⟩ := Int.eq_ofNat_of_zero_le (show 0 ≤ n - e.exp by omega)
  have hk16 : k < 16 := by omega
  have hw : IntKind.i64.wrap (n - e.exp) = (k : Int) := by rw [wrap_i64_id (by omega) (by omega), hk]
  have hk0 : ((k : Nat) : Int) < 16 := by omega
  have hle : 5 + k * 1 + 1 ≤ 23 := by omega
  have hle1 : 1 ≤ 23 - (5 + k * 1) := by omega
  simp -implicitDefEqProofs only [push_cast, hw, hk0, hk16, hle, hle1, at_aside, set_aside, seval]
  refine ⟨by unfold drawOk; kernel_rfl, by simp; omega, ?_⟩
  have hkn : (n - e.exp).toNat = k := by omega
  refine condC_split (fun h2 => ?_) (fun h2 => ?_)
  ·rw [show e.took n b = e.acked by rw [En.took, if_neg (by rw [h]; exact Bool.false_ne_true), hkn, if_pos h2]]
   simp -implicitDefEqProofs only [push_cast, En.own, En.cs, En.acked, seval]
   refine endK_box1 [0] rfl rfl (by simp [PS.lv, lkp_hit]) (by simp [PS.obj, lkp_hit]; rfl) (by simp [wkL, res1, PV.weak, En.acked]) ⟨by simp [resOk], by simp [resPV], by simp [resOf, resPV, one', res3, wkL]⟩
  ·rw [show e.took n b = shL 17 (e.acked.lay k b) by rw [En.took, if_neg (by rw [h]; exact Bool.false_ne_true), hkn, if_neg (by rw [h2]; exact Bool.false_ne_true)]]
   generalize hR : shL 17 (e.acked.lay k b) = R
   simp -implicitDefEqProofs only [push_cast, En.own, En.cs, hw, hk0, hk16, hle, hle1, at_aside, set_aside, seval]
   refine loopC_of (α := TkS (e.acked.lay k b)) TkS.st (fun a => 17 - a.t) ⟨0, by omega, e.acked.lay k b, rfl, fun j => rfl, by simp, by simp⟩ ?_ ?_
   ·(simp only [TkS.st, En.own, En.cs, En.lay, En.acked]; exact Wk.by _ _ _ [(0, 0)] [(50, 0)] [] (by simp) (by simp [wkV, PV.el, PV.weak, PS.get, PS.obj, PS.lv, lkp_hit, lkp_miss, lkp_nil, lko]) (by simp [PS.get, PS.obj, PS.lv, lkp_hit, lkp_miss, lkp_nil, lko, wkL, wkC, PV.weak]) (by simp [PS.get, PS.obj, PS.lv, lkp_hit, lkp_miss, lkp_nil, lko]) (by rfl) (by rfl) (by simp [lko]) (by simp) (by simp) (by simp) (fun i hi => by cases Nat.lt_one_iff.1 hi; rfl))
   ·rintro ⟨t, ht, c, hc, hca, hce, hcr⟩
    have hdl : ∀ j, ((e.acked.lay k b).aside j).length ≤ 1000000 := by
     intro j; simp only [En.lay, En.acked]; split
     ·exact hb
     ·exact hal j
    simp -implicitDefEqProofs only [push_cast, TkS.st, En.own, En.cs, seval]
    refine condC_split (fun h3 => ?_) (fun h3 => ?_)
    ·simp -implicitDefEqProofs only [push_cast, seval]
     have hd16 : ∀ j, 16 ≤ j → (e.acked.lay k b).aside j = [] := by
      intro j hj; simp only [En.lay, En.acked]; rw [if_neg (by omega)]; exact ha j hj
     have ht16 : t < 16 := by
      rcases Nat.lt_or_ge t 16 with h4 | h4
      ·exact h4
      ·have := hca 0
       rw [Nat.zero_add, hd16 t h4] at this
       rw [this] at h3
       cases h3
     have hl0 : (c.aside 0).length ≤ 1000000 := by rw [hca 0]; exact hdl _
     have hdr : (e.acked.lay k b).read.length ≤ 1000000000 := hrl
     have h16 : c.aside 16 = [] := by rw [hca 16]; exact hd16 _ (by omega)
     have hdx : (e.acked.lay k b).exp ≤ 1000000000 := h3x
     have hdx0 : 0 ≤ (e.acked.lay k b).exp := h2x
     refine ⟨by omega, by unfold drawOk; kernel_rfl, by unfold drawOk; kernel_rfl, ?_⟩
     rw [wrap_i64_id (n := c.exp + 1) (by omega) (by omega)]
     refine ⟨⟨t + 1, by omega, c.shift, ?_, ?_, ?_, ?_⟩, by simp only; omega, ?_⟩
     ·rw [← hc]
      obtain ⟨m, hm⟩ : ∃ m, 17 - t = m + 1 := ⟨16 - t, by omega⟩
      rw [hm, shL, if_pos h3, show 17 - (t + 1) = m by omega]
     ·intro j
      show c.aside (j + 1) = _
      rw [hca, show j + 1 + t = j + (t + 1) by omega]
     ·show c.exp + 1 = _
      omega
     ·simp only [En.shift, List.length_append]; omega
     ·(simp only [TkS.st, En.own, En.cs, En.shift]; exact Wk.by _ _ _ [(0, 0)] [(50, 50)] [] (by simp) (by simp [wkV, PV.el, PV.weak, PS.get, PS.obj, PS.lv, lkp_hit, lkp_miss, lkp_nil, lko, h16]) (by simp [PS.get, PS.obj, PS.lv, lkp_hit, lkp_miss, lkp_nil, lko, wkL, wkC, PV.weak, h16]) (by simp [PS.get, PS.obj, PS.lv, lkp_hit, lkp_miss, lkp_nil, lko]) (by rfl) (by rfl) (by simp [lko]) (by simp) (by simp) (by simp) (fun i hi => by cases Nat.lt_one_iff.1 hi; rfl))
    ·simp -implicitDefEqProofs only [push_cast, seval]
     have hcc : R = c := by
      rw [← hR, ← hc]
      obtain ⟨m, hm⟩ : ∃ m, 17 - t = m + 1 := ⟨16 - t, by omega⟩
      rw [hm, shL, if_neg (by rw [h3]; exact Bool.false_ne_true)]
     subst hcc
     refine endK_box1 [50] rfl rfl (by simp [PS.lv, lkp_hit]) (by simp [PS.obj, lkp_hit]; rfl) (by simp [wkL, res1, PV.weak]) ⟨by simp [resOk], by simp [resPV], by simp [resOf, resPV, one', res3, wkL]⟩
end Go.Proofs.Lk
set_option maxRecDepth 100000
set_option linter.unusedSimpArgs false
set_option linter.unusedVariables false
namespace Go.Proofs.Lk
open Go.Pv Go.Proofs.Sh
structure En.Ok (e : En) : Prop where
 m0 : 0 ≤ e.most
 m1 : e.most ≤ 1000000
 w : e.way.length ≤ 16
 wb : ∀ p ∈ e.way, p.b.length ≤ 1000000
 n0 : 0 ≤ e.next
 n1 : e.next ≤ 1000000000
 r : e.rest.length ≤ 1000000
 e0 : 0 ≤ e.exp
 e1 : e.exp ≤ 1000000000
 a16 : ∀ j, 16 ≤ j → e.aside j = []
 al : ∀ j, (e.aside j).length ≤ 1000000
 rl : e.read.length ≤ 1000000000
def pcSum : List Pc → Nat
 | [] => 0
 | p :: l => p.b.length + pcSum l
theorem pcSum_le {k : Nat} : ∀ {l : List Pc}, (∀ p ∈ l, p.b.length ≤ k) → pcSum l ≤ l.length * k
 | [], _ => by simp [pcSum]
 | p :: l, h => by
  have h1 := h p (List.mem_cons_self ..)
  have h2 := pcSum_le (l := l) (fun q hq => h q (List.mem_cons_of_mem _ hq))
  simp only [pcSum, List.length_cons, Nat.add_mul]
  omega
def En.sendE (e : En) (b : List UInt8) : En := { e with rest := e.rest ++ b }.number
def sendR (e : En) (b : List UInt8) : PV :=
 if (e.most == 0) = true then .tup [e.pv, .int .i64 9]
 else if decide ((65536 : Int) < ((e.rest.length + b.length + pcSum e.way : Nat) : Int)) = true then .tup [e.pv, .int .i64 12]
 else .tup [(e.sendE b).pv, .int .i64 0]
structure SeS (e : En) (b : List UInt8) where
 i : Nat
 hi : i ≤ e.way.length
 s : Nat
 h : s + pcSum (e.way.drop i) = e.rest.length + b.length + pcSum e.way
def SeS.st {e : En} {b : List UInt8} (a : SeS e b) : PS := { n := 46, env := [(22, .int .i64 a.i), (21, .int .i64 e.way.length), (20, pcs e.way), (6, .int .i64 a.s), (5, .int .i64 0), (4, .box 1 0), (2, .box 0 0), (1, .str b)], objs := [(1, some (End0.cs .nilsl)), (0, some (e.cs (pcs e.way)))], live := [], nxt := 60 }
theorem send_fs (e : En) (b : List UInt8) (he : e.Ok) (hb : b.length ≤ 1000000) : Fsp Tryz.prog 23 [] 0 [e.pv, .str b] [] 0 (sendR e b) := by
 have hsl : pcSum e.way ≤ 16000000 := by
  have := pcSum_le he.wb
  have := he.w
  have : e.way.length * 1000000 ≤ 16 * 1000000 := Nat.mul_le_mul_right _ this
  omega
 have hrl := he.r
 have hwl := he.w
 (refine Fsp.of (nx := 0) mixed Tryz.func23 rfl (by decide) (Nat.le_refl _) (by simp [Tryz.f23]) ⟨by decide, by decide⟩ ?_; simp -implicitDefEqProofs only [push_cast, Tryz.f23, En.pv, En.cs, pcs, seval])
 refine condC_split (fun h => ?_) (fun h => ?_)
 ·rw [sendR, if_pos h]
  simp -implicitDefEqProofs only [push_cast, En.pv, En.cs, pcs, seval]
  exact ⟨_, rfl, by simp [wkL, res2, res1, PV.weak, PV.el]⟩
 ·rw [sendR, if_neg (by rw [h]; exact Bool.false_ne_true)]
  generalize hR : (if decide ((65536 : Int) < ((e.rest.length + b.length + pcSum e.way : Nat) : Int)) = true then PV.tup [e.pv, .int .i64 12] else .tup [(e.sendE b).pv, .int .i64 0]) = R
  simp -implicitDefEqProofs only [push_cast, seval]
  rw [wrap_i64_id (n := (e.rest.length : Int) + b.length) (by omega) (by omega), List.length_map]
  refine loopC_of (α := SeS e b) SeS.st (fun a => e.way.length - a.i) ⟨0, by omega, e.rest.length + b.length, rfl⟩ ?_ ?_
  ·(simp only [SeS.st, En.cs, pcs, End0]; exact Wk.ax [(0, 0), (1, 4)] [] [] (by simp [PS.get, PS.obj, PS.lv, lkp_hit, lkp_miss, lkp_nil, lko, wkL, wkC, PV.weak]))
  ·rintro ⟨i, hi, s, hs⟩
   simp -implicitDefEqProofs only [push_cast, SeS.st, En.cs, pcs, End0, seval]
   refine condC_split (fun h2 => ?_) (fun h2 => ?_)
   ·have hlt : i < e.way.length := by simpa using h2
    have hg := pcs_at hlt
    simp -implicitDefEqProofs only [push_cast, hg, Pc.pv, seval]
    refine ⟨by simpa using hlt, ?_⟩
    have hsum := hs
    rw [pcs_drop hlt, pcSum] at hsum
    rw [show IntKind.i64.wrap ((i : Int) + 1) = ((i + 1 : Nat) : Int) by (rw [wrap_i64_id (by omega) (by omega)]; rfl),
     show IntKind.i64.wrap ((s : Int) + ((e.way.getD i pc0).b.length : Int)) = ((s + (e.way.getD i pc0).b.length : Nat) : Int) by (rw [wrap_i64_id (by omega) (by omega)]; rfl)]
    refine ⟨⟨i + 1, by omega, s + (e.way.getD i pc0).b.length, by omega⟩, by simp only; omega, ?_⟩
    (simp only [SeS.st, En.cs, pcs, End0]; exact Wk.ax [(0, 0), (1, 1)] [] [] (by simp [PS.get, PS.obj, PS.lv, lkp_hit, lkp_miss, lkp_nil, lko, wkL, wkC, PV.weak]))
   ·have hie : i = e.way.length := by simp at h2; omega
    subst hie
    rw [List.drop_length, pcSum, Nat.add_zero] at hs
    rw [← hs] at hR
    simp -implicitDefEqProofs only [push_cast, seval]
    refine condC_split (fun h3 => ?_) (fun h3 => ?_)
    ·rw [if_pos h3] at hR
     rw [← hR]
     simp -implicitDefEqProofs only [push_cast, En.pv, En.cs, pcs, seval]
     exact ⟨_, rfl, by simp [wkL, res2, res1, PV.weak, PV.el]⟩
    ·rw [if_neg (by rw [h3]; exact Bool.false_ne_true)] at hR
     rw [← hR]
     simp -implicitDefEqProofs only [push_cast, En.pv, En.cs, pcs, seval]
     refine callE_pure (clone_fs e.way (by have := he.w; omega)) (by rfl) (by rfl) (by rfl) (by decide) (by rfl) (fun _ => by rfl) (by first | rfl | simp [gdOk, newToks]) ?_
     simp -implicitDefEqProofs only [push_cast, seval]
     refine ⟨by omega, ?_⟩
     have hlen : s ≤ 65536 := by simp at h3; omega
     have hnum := number_fs { e with rest := e.rest ++ b } he.m0 he.m1 (by simp; omega) he.w he.n0 he.n1
     refine callE_box hnum [0] [80] (by rfl) (by rfl) (by rfl) (by rfl) (by rfl) (by rfl) (fun i j cs h1 h2 => by (cases i with | zero => (simp at h1 h2; subst h1; subst h2; exact ⟨_, rfl, by simp [wkL, cellOK, PV.weak, En.own, En.cs]; exact ⟨_, _, _, ⟨rfl, rfl, rfl⟩, _, ⟨rfl, rfl, rfl⟩, rfl⟩⟩) | succ i => simp at h1)) (by simp [PS.lv, lkp_hit, lkp_miss, lkp_nil]) (by simp [wkL, argOK, PS.ev, PS.get, lkp_hit, lkp_miss, lkp_nil, PV.un, PV.el, PV.weak]; exact ⟨_, _, _, ⟨rfl, rfl⟩, ⟨rfl, rfl⟩, rfl⟩) (by decide) (by simp) (by rfl) (by simp [tokLt1, En.own, En.cs]) (fun _ => by rfl) (by first | rfl | simp [gdOk, newToks]) ?_
     simp -implicitDefEqProofs only [push_cast, En.own, En.cs, seval]
     exact ⟨_, rfl, by simp [wkL, res2, res1, PV.weak, PV.el, En.sendE, En.pv, En.cs, pcs]⟩
end Go.Proofs.Lk
set_option maxRecDepth 100000
set_option linter.unusedSimpArgs false
set_option linter.unusedVariables false
namespace Go.Proofs.Lk
open Go.Pv Go.Proofs.Sh
theorem sclone_fs (s : List UInt8) (h : s.length ≤ 1000000) : Fsp Tryz.prog 73 [] 0 [.str s] [] 0 (.str s) := by
 have h48 : Fsp Tryz.prog 94 [] 0 [.str s] [] 0 (.str s) := by
  refine clOk 94 [] 0 [.str s] [] 0 (.str s) ?_
  unfold strCl
  rw [show Nat.beq 94 94 = true from rfl]
  simp only
  rw [show Nat.ble s.length 281474976710656 = true by rw [Nat.ble_eq]; omega]
 (refine Fsp.of (nx := 0) mixed Tryz.func73 rfl (by decide) (Nat.le_refl _) (by simp [Tryz.f73]) ⟨by decide, by decide⟩ ?_; simp -implicitDefEqProofs only [push_cast, Tryz.f73, seval])
 refine callE_p h48 ?_
 simp -implicitDefEqProofs only [push_cast, seval]
theorem shL_same : ∀ (k : Nat) (e : En), (shL k e).way = e.way ∧ (shL k e).most = e.most ∧ (shL k e).rest = e.rest ∧ (shL k e).next = e.next
 | 0, e => ⟨rfl, rfl, rfl, rfl⟩
 | k + 1, e => by
  unfold shL
  split
  ·exact shL_same k e.shift
  ·exact ⟨rfl, rfl, rfl, rfl⟩
theorem took_same (e : En) (n : Int) (b : List UInt8) : (e.took n b).way = e.way ∧ (e.took n b).most = e.most ∧ (e.took n b).rest = e.rest ∧ (e.took n b).next = e.next := by
 unfold En.took
 split
 ·exact ⟨rfl, rfl, rfl, rfl⟩
 ·split
  ·exact ⟨rfl, rfl, rfl, rfl⟩
  ·exact shL_same 17 _
def kd (p : List UInt8) : Int := ((p.getD 0 0).toNat : Int)
def bd (p : List UInt8) : List UInt8 := p.drop 11
def nu (p : List UInt8) : Int := (fourN ((p.drop 1).take 4) : Nat)
def tol (p : List UInt8) : Int := (fourN ((p.drop 5).take 4) : Nat)
def ln (p : List UInt8) : Int := ((p.getD 9 0).toNat : Int) * 256 + ((p.getD 10 0).toNat : Int)
def En.gotE (e : En) (p : List UInt8) : En := (if (kd p == 0) = true then (e.ackn (tol p)).took (nu p) (bd p) else e.ackn (tol p)).number
def gotN (e : En) (p : List UInt8) : Int :=
 if (e.most == 0) = true then 9
 else if decide ((p.length : Int) < 11) = true then 3
 else if (kd p != 0 && kd p != 1) = true then 10
 else if (((bd p).length : Int) != ln p) = true then 2
 else if (kd p == 0 && (((bd p).length : Int) == 0 || decide ((1024 : Int) < (bd p).length)) || kd p == 1 && (((bd p).length : Int) != 0 || nu p != 0)) = true then 2
 else if (decide (e.next < tol p) || kd p == 0 && decide (e.exp + 15 < nu p)) = true then 1
 else 0
def gotR (e : En) (p : List UInt8) : PV := .tup [if (gotN e p == 0) = true then (e.gotE p).pv else e.pv, .int .i64 (gotN e p)]
theorem or_u8 (x y : UInt8) : bitsI .or .i64 (IntKind.i64.wrap (IntKind.i64.wrap (x.toNat : Int) * 256)) (IntKind.i64.wrap (y.toNat : Int)) = ((x.toNat * 256 + y.toNat : Nat) : Int) := by
 have h0 := u8lt x
 have h1 := u8lt y
 generalize x.toNat = a at *
 generalize y.toNat = b at *
 simp only [wrap_i64_id (n := (a : Int)) (by omega) (by omega), wrap_i64_id (n := (b : Int)) (by omega) (by omega), wrap_i64_id (n := (a : Int) * 256) (by omega) (by omega)]
 rw [show (a : Int) * 256 = ((2 ^ 8 * a : Nat) : Int) by omega, or_add 8 (by omega) (by omega), show a * 256 + b = 2 ^ 8 * a + b by omega]
theorem got_fs (e : En) (p : List UInt8) (he : e.Ok) (hp : p.length ≤ 1000000) : Fsp Tryz.prog 38 [] 0 [e.pv, .str p] [] 0 (gotR e p) := by
 have hres : ∀ k : Int, k ≠ 0 → gotN e p = k → gotR e p = .tup [e.pv, .int .i64 k] := by
  intro k hk h
  unfold gotR
  rw [h, if_neg (by simpa using hk)]
 (refine Fsp.of (nx := 0) mixed Tryz.func38 rfl (by decide) (Nat.le_refl _) (by simp [Tryz.f38]) ⟨by decide, by decide⟩ ?_; simp -implicitDefEqProofs only [push_cast, Tryz.f38, En.pv, En.cs, pcs, seval])
 refine condC_split (fun h => ?_) (fun h => ?_)
 ·rw [hres 9 (by decide) (by unfold gotN kd bd nu tol ln; rw [if_pos h])]
  simp -implicitDefEqProofs only [push_cast, En.pv, En.cs, pcs, seval]
  exact ⟨_, rfl, by simp [wkL, res2, res1, PV.weak, PV.el]⟩
 ·simp -implicitDefEqProofs only [push_cast, En.pv, En.cs, pcs, seval]
  refine condC_split (fun h2 => ?_) (fun h2 => ?_)
  ·rw [hres 3 (by decide) (by unfold gotN kd bd nu tol ln; rw [if_neg (by rw [h]; exact Bool.false_ne_true), if_pos h2])]
   simp -implicitDefEqProofs only [push_cast, En.pv, En.cs, pcs, seval]
   exact ⟨_, rfl, by simp [wkL, res2, res1, PV.weak, PV.el]⟩
  ·have hl : 11 ≤ p.length := by simp at h2; omega
   simp -implicitDefEqProofs only [push_cast, seval]
   (repeat (first | refine ⟨by omega, ?_⟩ | refine ⟨by (unfold drawOk; kernel_rfl), ?_⟩ | refine ⟨by (simp; done), ?_⟩ | refine ⟨by (simp; omega), ?_⟩))
   have hkw : IntKind.i64.wrap ((p.getD 0 0).toNat : Int) = ((p.getD 0 0).toNat : Int) := by
    have := u8lt (p.getD 0 0)
    rw [wrap_i64_id (by omega) (by omega)]
   have hbd : List.take (p.length - 11) (List.drop 11 p) = p.drop 11 := by rw [List.take_of_length_le (by simp)]
   have hew : IntKind.i64.wrap (e.exp + 15) = e.exp + 15 := by have := he.e0; have := he.e1; rw [wrap_i64_id (by omega) (by omega)]
   have h4a := four_fs ((p.drop 1).take 4) (by simp; omega)
   have h4b := four_fs ((p.drop 5).take 4) (by simp; omega)
   refine callE_p h4a ?_
   simp -implicitDefEqProofs only [push_cast, seval]
   (repeat (first | refine ⟨by omega, ?_⟩ | refine ⟨by (unfold drawOk; kernel_rfl), ?_⟩ | refine ⟨by (simp; done), ?_⟩ | refine ⟨by (simp; omega), ?_⟩))
   refine callE_p h4b ?_
   simp -implicitDefEqProofs only [push_cast, hkw, hbd, seval]
   (repeat (first | refine ⟨by omega, ?_⟩ | refine ⟨by (unfold drawOk; kernel_rfl), ?_⟩ | refine ⟨by (simp; done), ?_⟩ | refine ⟨by (simp; omega), ?_⟩))
   refine condC_split (fun h3 => ?_) (fun h3 => ?_)
   ·rw [hres 10 (by decide) (by unfold gotN kd bd nu tol ln; rw [if_neg (by rw [h]; exact Bool.false_ne_true), if_neg (by rw [h2]; exact Bool.false_ne_true), if_pos h3])]
    simp -implicitDefEqProofs only [push_cast, En.pv, En.cs, pcs, hkw, hbd, seval]
    exact ⟨_, rfl, by simp [wkL, res2, res1, PV.weak, PV.el]⟩
   ·simp -implicitDefEqProofs only [push_cast, or_u8, hkw, hbd, seval]
    (repeat (first | refine ⟨by omega, ?_⟩ | refine ⟨by (unfold drawOk; kernel_rfl), ?_⟩ | refine ⟨by (simp; done), ?_⟩ | refine ⟨by (simp; omega), ?_⟩))
    refine condC_split (fun h4 => ?_) (fun h4 => ?_)
    ·rw [hres 2 (by decide) (by unfold gotN kd bd nu tol ln; rw [if_neg (by rw [h]; exact Bool.false_ne_true), if_neg (by rw [h2]; exact Bool.false_ne_true), if_neg (by rw [h3]; exact Bool.false_ne_true), if_pos h4])]
     simp -implicitDefEqProofs only [push_cast, En.pv, En.cs, pcs, hkw, hbd, seval]
     exact ⟨_, rfl, by simp [wkL, res2, res1, PV.weak, PV.el]⟩
    ·simp -implicitDefEqProofs only [push_cast, or_u8, hkw, hbd, seval]
     have t1 : ∀ g0 g2 : Bool, g0 = true → g0 = true ∧ (g2 = false → (g0 && !g2) = true) := by decide
     have t2 : ∀ g0 g1 g2 g3 g4 : Bool, (!(g0 && (g2 || g3)) && g1) = true → (!(g0 && (g2 || g3)) && g1) = true ∧ (g4 = false → (!(g0 && (g2 || g3)) && g1 && !g4) = true) := by decide
     have t3 : ∀ g0 g1 g2 g3 : Bool, (g0 && (g2 || g3)) = false → (g0 && (g2 || g3)) = false ∧ (g1 = true → (!(g0 && (g2 || g3)) && g1) = true) := by decide
     have t4 : ∀ a b : Bool, a = false → a = false ∧ (b = true → (!a && b) = true) := by decide
     refine ⟨t1 _ _, t2 _ _ _ _ _, t3 _ _ _ _, ?_⟩
     refine condC_split (fun h5 => ?_) (fun h5 => ?_)
     ·rw [hres 2 (by decide) (by unfold gotN kd bd nu tol ln; rw [if_neg (by rw [h]; exact Bool.false_ne_true), if_neg (by rw [h2]; exact Bool.false_ne_true), if_neg (by rw [h3]; exact Bool.false_ne_true), if_neg (by rw [h4]; exact Bool.false_ne_true), if_pos h5])]
      simp -implicitDefEqProofs only [push_cast, En.pv, En.cs, pcs, hkw, hbd, seval]
      exact ⟨_, rfl, by simp [wkL, res2, res1, PV.weak, PV.el]⟩
     ·simp -implicitDefEqProofs only [push_cast, hkw, hbd, hew, seval]
      refine ⟨t4 _ _, ?_⟩
      refine condC_split (fun h6 => ?_) (fun h6 => ?_)
      ·rw [hres 1 (by decide) (by unfold gotN kd bd nu tol ln; rw [if_neg (by rw [h]; exact Bool.false_ne_true), if_neg (by rw [h2]; exact Bool.false_ne_true), if_neg (by rw [h3]; exact Bool.false_ne_true), if_neg (by rw [h4]; exact Bool.false_ne_true), if_neg (by rw [h5]; exact Bool.false_ne_true), if_pos h6])]
       simp -implicitDefEqProofs only [push_cast, En.pv, En.cs, pcs, hkw, hbd, seval]
       exact ⟨_, rfl, by simp [wkL, res2, res1, PV.weak, PV.el]⟩
      ·simp -implicitDefEqProofs only [push_cast, hkw, hbd, hew, seval]
       refine callE_pure (clone_fs e.way (by have := he.w; omega)) (by rfl) (by rfl) (by rfl) (by decide) (by rfl) (fun _ => by rfl) (by first | rfl | simp [gdOk, newToks]) ?_
       simp -implicitDefEqProofs only [push_cast, hkw, hbd, seval]
       have hak := ackn_fs e (fourN ((p.drop 5).take 4) : Nat) (by have := he.w; omega)
       refine callE_box hak [0] [332] (by rfl) (by rfl) (by rfl) (by rfl) (by rfl) (by rfl) (fun i j cs h1 h2 => by (cases i with | zero => (simp at h1 h2; subst h1; subst h2; exact ⟨_, rfl, by simp [wkL, cellOK, PV.weak, En.own, En.cs]; exact ⟨_, _, _, ⟨rfl, rfl, rfl⟩, _, ⟨rfl, rfl, rfl⟩, rfl⟩⟩) | succ i => simp at h1)) (by simp [PS.lv, lkp_hit, lkp_miss, lkp_nil]) (by simp [wkL, argOK, PS.ev, PS.get, lkp_hit, lkp_miss, lkp_nil, PV.un, PV.el, PV.weak]; exact ⟨_, _, _, ⟨rfl, rfl⟩, ⟨rfl, rfl⟩, rfl⟩) (by decide) (by simp) (by rfl) (by simp [tokLt1, En.own, En.cs]) (fun _ => by rfl) (by first | rfl | simp [gdOk, newToks]) ?_
       simp -implicitDefEqProofs only [push_cast, hkw, hbd, En.own, En.cs, seval]
       have hN : gotN e p = 0 := by
        unfold gotN kd bd nu tol ln
        rw [if_neg (by rw [h]; exact Bool.false_ne_true), if_neg (by rw [h2]; exact Bool.false_ne_true), if_neg (by rw [h3]; exact Bool.false_ne_true), if_neg (by rw [h4]; exact Bool.false_ne_true), if_neg (by rw [h5]; exact Bool.false_ne_true), if_neg (by rw [h6]; exact Bool.false_ne_true)]
       have hG : gotR e p = .tup [(e.gotE p).pv, .int .i64 0] := by
        unfold gotR
        rw [hN]
        rfl
       have hwl := he.w
       have hdw : ((e.ackn (tol p)).way).length ≤ 16 := Nat.le_trans (List.dropWhile_sublist _).length_le hwl
       refine condC_split (fun h7 => ?_) (fun h7 => ?_)
       ·rw [show gotR e p = .tup [((e.ackn (tol p)).took (nu p) (bd p)).number.pv, .int .i64 0] by rw [hG, En.gotE, if_pos (show (kd p == 0) = true from h7)]]
        simp -implicitDefEqProofs only [push_cast, hkw, hbd, seval]
        refine callE_pure (sclone_fs (p.drop 11) (by simp; omega)) (by rfl) (by rfl) (by rfl) (by decide) (by rfl) (fun _ => by rfl) (by first | rfl | simp [gdOk, newToks]) ?_
        simp -implicitDefEqProofs only [push_cast, hkw, hbd, seval]
        have hb0 : (p.drop 11).length ≤ 1000000 := by simp; omega
        have htk := take_fs (e.ackn (tol p)) (nu p) (bd p) (Int.natCast_nonneg _) (by
         have h7' : (((p.getD 0 0).toNat : Int) == 0) = true := h7
         rw [h7', Bool.true_and, Bool.or_eq_false_iff] at h6
         exact Int.not_lt.1 (of_decide_eq_false h6.2)) he.e0 he.e1 he.a16 hb0 he.al he.rl
        refine callE_box htk [0] [348] (by rfl) (by rfl) (by rfl) (by rfl) (by rfl) (by rfl) (fun i j cs h1 h2 => by (cases i with | zero => (simp at h1 h2; subst h1; subst h2; exact ⟨_, rfl, by simp [wkL, cellOK, PV.weak, En.own, En.cs, tol]; exact ⟨_, _, _, ⟨rfl, rfl, rfl⟩, _, ⟨rfl, rfl, rfl⟩, rfl⟩⟩) | succ i => simp at h1)) (by simp [PS.lv, lkp_hit, lkp_miss, lkp_nil]) (by simp [wkL, argOK, PS.ev, PS.get, lkp_hit, lkp_miss, lkp_nil, PV.un, PV.el, PV.weak, nu, bd]; exact ⟨_, _, _, ⟨rfl, rfl⟩, ⟨rfl, rfl⟩, rfl⟩) (by decide) (by simp) (by rfl) (by simp [tokLt1, En.own, En.cs, tol]) (fun _ => by rfl) (by first | rfl | simp [gdOk, newToks]) ?_
        simp -implicitDefEqProofs only [push_cast, En.own, En.cs, seval]
        obtain ⟨w1, w2, w3, w4⟩ := took_same (e.ackn (tol p)) (nu p) (bd p)
        have hnum := number_fs ((e.ackn (tol p)).took (nu p) (bd p)) (by rw [w2]; exact he.m0) (by rw [w2]; exact he.m1) (by rw [w3]; exact he.r) (by rw [w1]; exact hdw) (by rw [w4]; exact he.n0) (by rw [w4]; exact he.n1)
        refine callE_box hnum [0] [372] (by rfl) (by rfl) (by rfl) (by rfl) (by rfl) (by rfl) (fun i j cs h1 h2 => by (cases i with | zero => (simp at h1 h2; subst h1; subst h2; exact ⟨_, rfl, by simp [wkL, cellOK, PV.weak, En.own, En.cs]; exact ⟨_, _, _, ⟨rfl, rfl, rfl⟩, _, ⟨rfl, rfl, rfl⟩, rfl⟩⟩) | succ i => simp at h1)) (by simp [PS.lv, lkp_hit, lkp_miss, lkp_nil]) (by simp [wkL, argOK, PS.ev, PS.get, lkp_hit, lkp_miss, lkp_nil, PV.un, PV.el, PV.weak]; exact ⟨_, _, _, ⟨rfl, rfl⟩, ⟨rfl, rfl⟩, rfl⟩) (by decide) (by simp) (by rfl) (by simp [tokLt1, En.own, En.cs]) (fun _ => by rfl) (by first | rfl | simp [gdOk, newToks]) ?_
        simp -implicitDefEqProofs only [push_cast, En.own, En.cs, seval]
        exact ⟨_, rfl, by simp [wkL, res2, res1, PV.weak, PV.el, En.pv, En.cs, pcs]⟩
       ·rw [show gotR e p = .tup [(e.ackn (tol p)).number.pv, .int .i64 0] by rw [hG, En.gotE, if_neg (by rw [show (kd p == 0) = false from h7]; exact Bool.false_ne_true)]]
        have hnum := number_fs (e.ackn (tol p)) he.m0 he.m1 he.r hdw he.n0 he.n1
        simp -implicitDefEqProofs only [push_cast, seval]
        refine callE_box hnum [0] [348] (by rfl) (by rfl) (by rfl) (by rfl) (by rfl) (by rfl) (fun i j cs h1 h2 => by (cases i with | zero => (simp at h1 h2; subst h1; subst h2; exact ⟨_, rfl, by simp [wkL, cellOK, PV.weak, En.own, En.cs, tol]; exact ⟨_, _, _, ⟨rfl, rfl, rfl⟩, _, ⟨rfl, rfl, rfl⟩, rfl⟩⟩) | succ i => simp at h1)) (by simp [PS.lv, lkp_hit, lkp_miss, lkp_nil]) (by simp [wkL, argOK, PS.ev, PS.get, lkp_hit, lkp_miss, lkp_nil, PV.un, PV.el, PV.weak]; exact ⟨_, _, _, ⟨rfl, rfl⟩, ⟨rfl, rfl⟩, rfl⟩) (by decide) (by simp) (by rfl) (by simp [tokLt1, En.own, En.cs, tol]) (fun _ => by rfl) (by first | rfl | simp [gdOk, newToks]) ?_
        simp -implicitDefEqProofs only [push_cast, En.own, En.cs, seval]
        exact ⟨_, rfl, by simp [wkL, res2, res1, PV.weak, PV.el, En.pv, En.cs, pcs]⟩
end Go.Proofs.Lk
set_option maxRecDepth 100000
set_option linter.unusedSimpArgs false
set_option linter.unusedVariables false
namespace Go.Proofs.Lk
open Go.Pv Go.Proofs.Sh
theorem of_slcell {P : Program} {f : FuncId} {bs bs' : List (List PV)} {nt nt' : Nat} {sz i : Nat} {es ps args : List PV} {r : PV} [GTab] (hi : ps[i]? = some (.sl sz es)) (h1 : es = [] → Fsp P f bs nt (.agg (ps.set i .nilsl) :: args) bs' nt' r)
 (h2 : Fsp P f bs nt (.agg (ps.set i (.sln sz es)) :: args) bs' nt' r) : Fsp P f bs nt (.agg ps :: args) bs' nt' r where
 len := h2.len
 fn := h2.fn
 calls := fun g w vs hI hb ht hs ha => by
  obtain ⟨v, hv⟩ : ∃ v, vs[0]? = some v := ⟨vs[0]'(by rw [hs]; simp), by simp⟩
  obtain ⟨cs, rfl, hn, ho, hp⟩ := (ha 0 v _ hv rfl).agg_inv
  have rest : ∀ (q : PV), Rel g (.agg cs) q → ∀ (i : Nat) (v' : Value) (p : PV), vs[i]? = some v' → (q :: args)[i]? = some p → Rel g v' p := by
   intro q hq i v' p hv' hp
   cases i with
   | zero => rw [hv] at hv'; cases hv'; cases hp; exact hq
   | succ i => exact ha (i + 1) v' p hv' (by simpa using hp)
  have hil : i < ps.length := (List.getElem?_eq_some_iff.1 hi).1
  obtain ⟨x, hx⟩ : ∃ x, cs[i]? = some x := ⟨cs[i]'(by omega), by simp⟩
  have key : ∀ q, Rel g x q → Rel g (.agg cs) (.agg (ps.set i q)) := by
   intro q hq
   refine .agg cs _ (by rw [hn, List.length_set]) ho fun j v p hv hp' => ?_
   rw [List.getElem?_set] at hp'
   split at hp'
   ·rename_i e
    subst e
    cases hp'
    rw [hx] at hv; cases hv
    exact hq
   ·exact hp j v p hv hp'
  have hr := (hp i x _ hx hi).sl_inv
  cases hr with
  | slnil => exact (h1 rfl).calls g w vs hI hb ht (by simpa using hs) (rest _ (key _ (.pure _ _ .nilsl)))
  | slx a => exact h2.calls g w vs hI hb ht (by simpa using hs) (rest _ (key _ (.pure _ _ (.slnx a sz))))
  | sl b off n cap _ _ vals hn hc hm hsz hh ho hp => exact h2.calls g w vs hI hb ht (by simpa using hs) (rest _ (key _ (.pure _ _ (.sln _ _ _ _ _ _ (.sl b off n cap sz es vals hn hc hm hsz hh ho hp)))))
theorem clone_emp : Fsp Tryz.prog 50 [] 0 [.sln 3 []] [] 0 (.sl0 3) := by
 (refine Fsp.ofs (nx := 0) mixed Tryz.func50 rfl (by simp [Tryz.f50]) ?_; simp -implicitDefEqProofs only [push_cast, Tryz.f50, seval])
 refine callE_sl0 (by rfl) tk_31 tsz_105 (by decide) zc_105 rfl (by first | rfl | simp [gdOk]) ?_
 simp -implicitDefEqProofs only [push_cast, sl0Dl, seval]
def pcF (l : List Pc) : List PV := (l.map Pc.pv).flatMap PV.cells
theorem pcF_len (l : List Pc) : (pcF l).length = l.length * 3 := by
 rw [pcF, flat_length (pcs_one l), List.length_map]
theorem pcF_cons (p : Pc) (l : List Pc) : pcF (p :: l) = .int .i64 p.n :: .str p.b :: .bool p.due :: pcF l := rfl
theorem pcF_set (b : Bool) : ∀ (l : List Pc) (i : Nat), i < l.length → List.take (0 + i * 3 + 2) (pcF l) ++ .bool b :: List.drop (0 + i * 3 + 2 + 1) (pcF l) = pcF (l.set i { l.getD i pc0 with due := b })
 | [], i, h => absurd h (Nat.not_lt_zero _)
 | p :: l, 0, _ => by simp [pcF_cons]
 | p :: l, i + 1, h => by
  have ih := pcF_set b l i (by simpa using h)
  rw [show 0 + (i + 1) * 3 + 2 = (0 + i * 3 + 2) + 3 by omega, show 0 + i * 3 + 2 + 3 + 1 = (0 + i * 3 + 2 + 1) + 3 by omega, pcF_cons]
  simp only [List.take_succ_cons, List.drop_succ_cons, List.set_cons_succ, List.getD_cons_succ, pcF_cons, List.cons_append]
  rw [← ih]
theorem wkL_pcF (τ γ : List Nat) : ∀ l : List Pc, wkL (res1 τ γ) (pcF l) (pcF l)
 | [] => trivial
 | p :: l => by
  rw [pcF_cons]
  exact ⟨rfl, rfl, rfl, wkL_pcF τ γ l⟩
theorem wkC_pcF (β τ : List (Nat × Nat)) (em : List Nat) : ∀ l : List Pc, wkL (wkC β τ em) (pcF l) (pcF l)
 | [] => trivial
 | p :: l => by
  rw [pcF_cons]
  exact ⟨rfl, rfl, rfl, wkC_pcF β τ em l⟩
theorem tl_pcF (n m nb : Nat) : ∀ (l : List Pc), ∀ q ∈ pcF l, tokLt1 n m nb q = true
 | [], q, h => by cases h
 | p :: l, q, h => by
  rw [pcF_cons] at h
  simp only [List.mem_cons] at h
  rcases h with rfl | rfl | rfl | h
  ·rfl
  ·rfl
  ·rfl
  ·exact tl_pcF n m nb l q h
theorem back_pcF (β : List Nat) (nid m : Nat) : ∀ (l : List Pc), (pcF l).map (PV.back1 β nid m) = pcF l
 | [] => rfl
 | p :: l => by
  rw [pcF_cons, List.map_cons, List.map_cons, List.map_cons, back_pcF β nid m l]
  rfl
theorem clone_box (p : Pc) (l : List Pc) (hl : l.length ≤ 1000000) : Fsp Tryz.prog 50 [] 0 [.sln 3 ((p :: l).map Pc.pv)] [pcF (p :: l)] 0 (.slb 0 0 (l.length + 1) 3) := by
 (refine Fsp.ofs (nx := 0) mixed Tryz.func50 rfl (by simp [Tryz.f50]) ?_; simp -implicitDefEqProofs only [push_cast, Tryz.f50, seval])
 refine callE_sl0 (by rfl) tk_31 tsz_105 (by decide) zc_105 rfl (by first | rfl | simp [gdOk]) ?_
 simp -implicitDefEqProofs only [push_cast, sl0Dl, seval]
 refine ⟨by simp; omega, by simp; omega, ?_⟩
 rw [List.length_map]
 refine endK_box [] [20] rfl rfl (by simp) rfl rfl rfl (fun i j ps h1 h2 => ?_) ⟨by simp [resOk, PS.ev, PS.get, lkp_hit, PV.cnd], by simp [resPV], by simp [resOf, resPV, one', res3, res2, res1, PS.get, lkp_hit, PV.un]⟩
 cases i with
 | zero =>
  simp at h1 h2
  subst h1; subst h2
  exact ⟨pcF (p :: l), by simp [PS.obj, lkp_hit]; rfl, wkL_pcF _ _ _⟩
 | succ i => simp at h1
def tickL (l : List Pc) : List Pc := l.map fun p => { p with due := true }
def En.tick (e : En) : En := { e with way := tickL e.way }
structure TiS (l : List Pc) where
 i : Nat
 hi : i ≤ l.length
def TiS.w {l : List Pc} (a : TiS l) : List Pc := tickL (l.take a.i) ++ l.drop a.i
def TiS.st (e : En) (p : Pc) (l : List Pc) (a : TiS (p :: l)) : PS := { n := 21, env := [(11, .int .i64 a.i), (10, .int .i64 ((l.length : Int) + 1)), (2, .box 4 0), (1, .box 0 0)], objs := [(4, some (End0.cs .nilsl)), (16, some (pcF a.w)), (0, some (e.cs (.slb 16 0 (l.length + 1) 3)))], live := [], nxt := 60 }
theorem TiS.w_len {l : List Pc} (a : TiS l) : a.w.length = l.length := by
 have := a.hi
 simp [TiS.w, tickL]; omega
theorem TiS.w_set {l : List Pc} (i : Nat) (h : i < l.length) : (tickL (l.take i) ++ l.drop i).set i { (tickL (l.take i) ++ l.drop i).getD i pc0 with due := true } = tickL (l.take (i + 1)) ++ l.drop (i + 1) := by
 have hl : (tickL (l.take i)).length = i := by simp [tickL]; omega
 have hd : l.drop i = l[i] :: l.drop (i + 1) := (List.getElem_cons_drop h).symm
 rw [List.set_append_right _ _ (by omega), hl, Nat.sub_self, hd, List.set_cons_zero, List.getD_eq_getElem?_getD, List.getElem?_append_right (by omega), hl, Nat.sub_self, List.getElem?_cons_zero, Option.getD_some,
  List.take_succ_eq_append_getElem h, tickL, tickL, List.map_append, List.append_assoc]
 rfl
theorem tick_box (e : En) (p : Pc) (l : List Pc) (hl : l.length ≤ 1000) : Fsp Tryz.prog 69 [] 0 [.agg (e.cs (.sln 3 ((p :: l).map Pc.pv)))] [pcF (tickL (p :: l))] 0 (.agg (e.cs (.slb 0 0 (l.length + 1) 3))) := by
 (refine Fsp.ofs (nx := 0) mixed Tryz.func69 rfl (by simp [Tryz.f69]) ?_; simp -implicitDefEqProofs only [push_cast, Tryz.f69, En.cs, seval])
 refine callE_new (clone_box p l (by omega)) (by rfl) (by rfl) (by rfl) (by decide) (by simp) (by rfl) (by simpa using tl_pcF 0 0 1 (p :: l)) (fun _ => by rfl) (by first | rfl | simp [gdOk, newToks]) ?_
 simp -implicitDefEqProofs only [push_cast, back_pcF, upto, seval]
 refine loopC_of (α := TiS (p :: l)) (TiS.st e p l) (fun a => l.length + 1 - a.i) ⟨0, by omega⟩ ?_ ?_
 ·(simp only [TiS.st, En.cs, End0]; exact Wk.at _ _ _ [(0, 0), (4, 4), (16, 16)] [] [] (by simp) (by simp [wkV, PV.el, PV.weak, PS.get, PS.obj, PS.lv, lkp_hit, lkp_miss, lkp_nil, lko, wkC_pcF, TiS.w, tickL]) (by simp [PS.get, PS.obj, PS.lv, lkp_hit, lkp_miss, lkp_nil, lko, wkL, wkC, PV.weak, wkC_pcF, TiS.w, tickL]))
 ·rintro ⟨i, hi⟩
  have hil : i ≤ l.length + 1 := hi
  have hwl : (TiS.w ⟨i, hi⟩).length = l.length + 1 := TiS.w_len _
  simp -implicitDefEqProofs only [push_cast, TiS.st, En.cs, End0, seval]
  refine condC_split (fun h2 => ?_) (fun h2 => ?_)
  ·have hlt : i < l.length + 1 := by simp at h2; omega
   simp -implicitDefEqProofs only [push_cast, pcF_len, hwl, seval]
   refine ⟨by omega, by omega, ⟨i + 1, by simp; omega⟩, by simp only; omega, ?_⟩
   rw [show IntKind.i64.wrap ((i : Int) + 1) = ((i + 1 : Nat) : Int) by (rw [wrap_i64_id (by omega) (by omega)]; rfl)]
   have hst := pcF_set true (TiS.w ⟨i, hi⟩) i (by rw [hwl]; exact hlt)
   rw [Nat.zero_add] at hst
   rw [hst, TiS.w, TiS.w_set i (by simpa using hlt)]
   (simp only [TiS.st, En.cs, End0]; exact Wk.at _ _ _ [(0, 0), (4, 4), (16, 16)] [] [] (by simp) (by simp [wkV, PV.el, PV.weak, PS.get, PS.obj, PS.lv, lkp_hit, lkp_miss, lkp_nil, lko, wkC_pcF, TiS.w]) (by simp [PS.get, PS.obj, PS.lv, lkp_hit, lkp_miss, lkp_nil, lko, wkL, wkC, PV.weak, wkC_pcF, TiS.w]))
  ·have hie : i = (p :: l).length := by simp at h2; simp; omega
   subst hie
   have hw : ∀ hh, TiS.w (l := p :: l) ⟨l.length + 1, hh⟩ = tickL (p :: l) := fun hh => by
    show tickL ((p :: l).take (p :: l).length) ++ (p :: l).drop (p :: l).length = _
    rw [List.take_length, List.drop_length, List.append_nil]
   simp -implicitDefEqProofs only [push_cast, hw, seval]
   refine endK_box [] [16] rfl rfl (by simp) rfl rfl rfl (fun i j ps h1 h2 => ?_) ⟨by simp -implicitDefEqProofs only [push_cast, seval], by simp -implicitDefEqProofs only [push_cast, seval], by (simp -implicitDefEqProofs only [push_cast, wkL, lko, idx, seval]; exact ⟨_, rfl, by simp [wkL, res1, PV.weak]⟩)⟩
   cases i with
   | zero =>
    simp at h1 h2
    subst h1; subst h2
    exact ⟨pcF (tickL (p :: l)), by simp [PS.obj, lkp_hit, lkp_miss], wkL_pcF _ _ _⟩
   | succ i => simp at h1
theorem chunk_pcF : ∀ l : List Pc, chunk 3 l.length (pcF l) = l.map Pc.pv
 | [] => rfl
 | p :: l => by
  rw [pcF_cons, List.length_cons, chunk, List.map_cons, ← chunk_pcF l]
  rfl
theorem frz_pcF (m : Nat) (p : Pc) (l : List Pc) : frz1 m (pcF (p :: l)) (.slb m 0 (l.length + 1) 3) = pcs (p :: l) := by
 have h := chunk_pcF (p :: l)
 rw [List.length_cons] at h
 rw [frz1, if_pos rfl, if_pos (by rw [pcF_len]; simp), List.drop_zero, h]
 rfl
theorem tickL_len (l : List Pc) : (tickL l).length = l.length := by simp [tickL]
theorem tick_fs (e : En) (hw : e.way.length ≤ 1000) : Fsp Tryz.prog 69 [] 0 [e.pv] [] 0 e.tick.pv := by
 refine of_slcell (i := 1) (sz := 3) (es := e.way.map Pc.pv) rfl (fun hn => ?_) ?_
 ·have hway : e.way = [] := by simpa using hn
  have hr : e.tick.pv = .agg (e.cs (.sl 3 [])) := by rw [En.tick, En.pv, hway]; rfl
  rw [hr]
  show Fsp Tryz.prog 69 [] 0 [.agg (e.cs .nilsl)] [] 0 _
  (refine Fsp.ofs (nx := 0) mixed Tryz.func69 rfl (by simp [Tryz.f69]) ?_; simp -implicitDefEqProofs only [push_cast, Tryz.f69, En.cs, seval])
  refine callE_p clone_nil ?_
  simp -implicitDefEqProofs only [push_cast, seval]
  refine loopC_un 1 ?_
  simp -implicitDefEqProofs only [push_cast, seval]
  exact ⟨_, rfl, by simp [wkL, res2, res1, PV.weak, PV.el]⟩
 ·show Fsp Tryz.prog 69 [] 0 [.agg (e.cs (.sln 3 (e.way.map Pc.pv)))] [] 0 _
  cases hway : e.way with
  | nil =>
   have hr : e.tick.pv = .agg (e.cs (.sl 3 [])) := by rw [En.tick, En.pv, hway]; rfl
   rw [hr, List.map_nil]
   (refine Fsp.ofs (nx := 0) mixed Tryz.func69 rfl (by simp [Tryz.f69]) ?_; simp -implicitDefEqProofs only [push_cast, Tryz.f69, En.cs, seval])
   refine callE_p clone_emp ?_
   simp -implicitDefEqProofs only [push_cast, seval]
   refine loopC_un 1 ?_
   simp -implicitDefEqProofs only [push_cast, seval]
   exact ⟨_, rfl, by simp [wkL, res2, res1, PV.weak, PV.el]⟩
  | cons p l =>
   have h := (tick_box e p l (by rw [hway] at hw; simp at hw; omega)).freeze (bs' := []) (Nat.le_refl _)
   have hr : frz3 ([] : List (List PV)).length (pcF (tickL (p :: l))) (.agg (e.cs (.slb 0 0 (l.length + 1) 3))) = e.tick.pv := by
    have hz := frz_pcF 0 { p with due := true } (tickL l)
    rw [tickL_len] at hz
    show PV.agg (List.map (frz1 0 _) (e.cs _)) = PV.agg (e.cs (pcs (tickL e.way)))
    rw [hway, show tickL (p :: l) = { p with due := true } :: tickL l from rfl, ← hz]
    rfl
   rw [hr] at h
   exact h
end Go.Proofs.Lk
set_option maxRecDepth 100000
set_option linter.unusedSimpArgs false
namespace Go.Proofs.Lk
open Go.Pv Go.Proofs.Sh
theorem map_byteOf (b : List UInt8) : List.map Pv.byteOf (List.map (fun b : UInt8 => PV.int .u8 (b.toNat : Int)) b) = b := by
 rw [List.map_map]
 conv => rhs; rw [← List.map_id b]
 apply List.map_congr_left
 intro x _
 simp [Pv.byteOf]
theorem all_isByte (b : List UInt8) : (List.map (fun b : UInt8 => PV.int .u8 (b.toNat : Int)) b).all isByte = true := by
 simp [List.all_eq_true, isByte]
def by8 (x : Int) : UInt8 := Pv.byteOf (PV.int .u8 (IntKind.u8.wrap x))
def pktBytes (k n a : Int) (b : List UInt8) : List UInt8 :=
 by8 k :: by8 (n.fdiv 16777216) :: by8 (n.fdiv 65536) :: by8 (n.fdiv 256) :: by8 n :: by8 (a.fdiv 16777216) :: by8 (a.fdiv 65536) :: by8 (a.fdiv 256) :: by8 a ::
  by8 ((b.length : Int).fdiv 256) :: by8 (b.length : Int) :: b
def pkt (k n a : Int) (b : List UInt8) : List UInt8 :=
 if (decide (n < 0) || decide (4294967295 < n) || decide (a < 0) || decide (4294967295 < a)) = true then []
 else if (k == 0) = true then (if (b == [] || decide (1024 < (b.length : Int))) = true then [] else pktBytes k n a b)
 else if (k == 1) = true then (if (b != [] || n != 0) = true then [] else pktBytes k n a b)
 else []
set_option maxHeartbeats 4000000 in
theorem packet_fs (k n a : Int) (b : List UInt8) (hb : b.length ≤ 1000000) : Fsp Tryz.prog 52 [] 0 [.int .i64 k, .int .i64 n, .int .i64 a, .str b] [] 0 (.str (pkt k n a b)) := by
 refine Fsp.of (nx := 0) mixed Tryz.func52 rfl (by decide) (Nat.le_refl _) (by simp [Tryz.f52]) ⟨by decide, by decide⟩ ?_
 simp -implicitDefEqProofs only [Tryz.f52, push_cast, seval]
 refine condC_split (fun h => ?_) (fun h => ?_)
 ·simp -implicitDefEqProofs only [push_cast, seval]
  rw [pkt, if_pos h]
 ·simp -implicitDefEqProofs only [push_cast, seval]
  refine condC_split (fun h2 => ?_) (fun h2 => ?_)
  ·simp -implicitDefEqProofs only [push_cast, seval]
   refine condC_split (fun h3 => ?_) (fun h3 => ?_)
   ·simp -implicitDefEqProofs only [push_cast, seval]
    rw [pkt, if_neg (by rw [h]; exact Bool.false_ne_true), if_pos h2, if_pos h3]
   ·simp -implicitDefEqProofs only [push_cast, seval]
    refine loopC_un 3 ?_
    simp -implicitDefEqProofs only [push_cast, seval]
    refine ⟨by simp only [List.length_map]; omega, by simp only [List.length_map]; omega, all_isByte _, ?_⟩
    rw [map_byteOf, pkt, if_neg (by rw [h]; exact Bool.false_ne_true), if_pos h2, if_neg (by rw [h3]; exact Bool.false_ne_true)]
    rfl
  ·simp -implicitDefEqProofs only [push_cast, seval]
   refine condC_split (fun h3 => ?_) (fun h3 => ?_)
   ·simp -implicitDefEqProofs only [push_cast, seval]
    refine condC_split (fun h4 => ?_) (fun h4 => ?_)
    ·simp -implicitDefEqProofs only [push_cast, seval]
     rw [pkt, if_neg (by rw [h]; exact Bool.false_ne_true), if_neg (by rw [h2]; exact Bool.false_ne_true), if_pos h3, if_pos h4]
    ·simp -implicitDefEqProofs only [push_cast, seval]
     refine loopC_un 3 ?_
     simp -implicitDefEqProofs only [push_cast, seval]
     refine ⟨by simp only [List.length_map]; omega, by simp only [List.length_map]; omega, all_isByte _, ?_⟩
     rw [map_byteOf, pkt, if_neg (by rw [h]; exact Bool.false_ne_true), if_neg (by rw [h2]; exact Bool.false_ne_true), if_pos h3, if_neg (by rw [h4]; exact Bool.false_ne_true)]
     rfl
   ·simp -implicitDefEqProofs only [push_cast, seval]
    rw [pkt, if_neg (by rw [h]; exact Bool.false_ne_true), if_neg (by rw [h2]; exact Bool.false_ne_true), if_neg (by rw [h3]; exact Bool.false_ne_true)]
end Go.Proofs.Lk
set_option maxRecDepth 100000
set_option linter.unusedSimpArgs false
set_option linter.unusedVariables false
namespace Go.Proofs.Lk
open Go.Pv Go.Proofs.Sh
def dueStr (e : En) (l : List Pc) : List (List UInt8) := (l.filter (·.due)).map fun p => pkt 0 p.n e.exp p.b
def dueL (l : List Pc) : List Pc := l.map fun p => { p with due := false }
structure DuS (l : List Pc) where
 i : Nat
 hi : i ≤ l.length
def DuS.w {l : List Pc} (a : DuS l) : List Pc := dueL (l.take a.i) ++ l.drop a.i
def DuS.st (e : En) (p : Pc) (l : List Pc) (a : DuS (p :: l)) : PS := { n := 59, env := [(14, .int .i64 a.i), (13, .int .i64 ((l.length : Int) + 1)), (4, .slt 1 ((dueStr e ((p :: l).take a.i)).map .str) 50), (2, .box 4 0), (1, .box 0 0)], objs := [(4, some (End0.cs .nilsl)), (24, some (pcF a.w)), (0, some (e.cs (.slb 24 0 (l.length + 1) 3)))], live := [(50, true)], nxt := 60 }
theorem DuS.w_len {l : List Pc} (a : DuS l) : a.w.length = l.length := by
 have := a.hi
 simp [DuS.w, dueL]; omega
theorem DuS.w_at {l : List Pc} (i : Nat) (h : i < l.length) : (dueL (l.take i) ++ l.drop i).getD i pc0 = l.getD i pc0 := by
 have hl : (dueL (l.take i)).length = i := by simp [dueL]; omega
 rw [List.getD_eq_getElem?_getD, List.getElem?_append_right (by omega), hl, Nat.sub_self, List.getElem?_drop, Nat.add_zero, ← List.getD_eq_getElem?_getD]
theorem DuS.w_set {l : List Pc} (i : Nat) (h : i < l.length) : (dueL (l.take i) ++ l.drop i).set i { (dueL (l.take i) ++ l.drop i).getD i pc0 with due := false } = dueL (l.take (i + 1)) ++ l.drop (i + 1) := by
 have hl : (dueL (l.take i)).length = i := by simp [dueL]; omega
 have hd : l.drop i = l[i] :: l.drop (i + 1) := (List.getElem_cons_drop h).symm
 rw [List.set_append_right _ _ (by omega), hl, Nat.sub_self, hd, List.set_cons_zero, List.getD_eq_getElem?_getD, List.getElem?_append_right (by omega), hl, Nat.sub_self, List.getElem?_cons_zero, Option.getD_some,
  List.take_succ_eq_append_getElem h, dueL, dueL, List.map_append, List.append_assoc]
 rfl
theorem DuS.w_not {l : List Pc} (i : Nat) (h : i < l.length) (hd : (l.getD i pc0).due = false) : dueL (l.take i) ++ l.drop i = dueL (l.take (i + 1)) ++ l.drop (i + 1) := by
 have hg : l.drop i = l[i] :: l.drop (i + 1) := (List.getElem_cons_drop h).symm
 have hq : l.getD i pc0 = l[i] := by rw [List.getD_eq_getElem?_getD, List.getElem?_eq_getElem h, Option.getD_some]
 rw [hq] at hd
 rw [hg, List.take_succ_eq_append_getElem h, dueL, dueL, List.map_append, List.append_assoc]
 congr 1
 rw [List.map_cons, List.map_nil, List.cons_append, List.nil_append, ← hd]
theorem dueStr_succ (e : En) {l : List Pc} (i : Nat) (h : i < l.length) : dueStr e (l.take (i + 1)) = dueStr e (l.take i) ++ (if (l.getD i pc0).due = true then [pkt 0 (l.getD i pc0).n e.exp (l.getD i pc0).b] else []) := by
 have hq : l.getD i pc0 = l[i] := by rw [List.getD_eq_getElem?_getD, List.getElem?_eq_getElem h, Option.getD_some]
 rw [hq, List.take_succ_eq_append_getElem h, dueStr, dueStr, List.filter_append, List.map_append]
 congr 1
 cases hd : l[i].due <;> simp [hd]
theorem dueStr_len (e : En) (l : List Pc) : (dueStr e l).length ≤ l.length := by
 rw [dueStr, List.length_map]
 exact List.length_filter_le ..
theorem pcF_d0 : ∀ (l : List Pc) (i : Nat), i < l.length → List.drop (i * 3) (pcF l) = .int .i64 (l.getD i pc0).n :: .str (l.getD i pc0).b :: .bool (l.getD i pc0).due :: pcF (l.drop (i + 1))
 | [], i, h => absurd h (Nat.not_lt_zero _)
 | p :: l, 0, _ => rfl
 | p :: l, i + 1, h => by
  rw [show (i + 1) * 3 = i * 3 + 3 by omega, pcF_cons, List.drop_succ_cons, List.drop_succ_cons, List.drop_succ_cons, pcF_d0 l i (by simpa using h)]
  rfl
theorem pcF_d1 (l : List Pc) (i : Nat) (h : i < l.length) : List.drop (i * 3 + 1) (pcF l) = .str (l.getD i pc0).b :: .bool (l.getD i pc0).due :: pcF (l.drop (i + 1)) := by
 rw [← List.drop_drop, pcF_d0 l i h]; rfl
theorem pcF_d2 (l : List Pc) (i : Nat) (h : i < l.length) : List.drop (i * 3 + 2) (pcF l) = .bool (l.getD i pc0).due :: pcF (l.drop (i + 1)) := by
 rw [← List.drop_drop, pcF_d0 l i h]; rfl
theorem due_box (e : En) (p : Pc) (l : List Pc) (hl : l.length ≤ 1000) (hs : ∀ q ∈ p :: l, q.b.length ≤ 1000000) : Fsp Tryz.prog 26 [] 0 [.agg (e.cs (.sln 3 ((p :: l).map Pc.pv)))] [pcF (dueL (p :: l))] 0
 (.tup [.agg ({ e with ack := false }.cs (.slb 0 0 (l.length + 1) 3)), .sl 1 ((if dueStr e (p :: l) = [] ∧ e.ack = true then [pkt 1 0 e.exp []] else dueStr e (p :: l)).map .str)]) := by
 (refine Fsp.ofs (nx := 0) mixed Tryz.func26 rfl (by simp [Tryz.f26]) ?_; simp -implicitDefEqProofs only [push_cast, Tryz.f26, En.cs, seval])
 refine callE_new (clone_box p l (by omega)) (by rfl) (by rfl) (by rfl) (by decide) (by simp) (by rfl) (by simpa using tl_pcF 0 0 1 (p :: l)) (fun _ => by rfl) (by first | rfl | simp [gdOk, newToks]) ?_
 simp -implicitDefEqProofs only [push_cast, back_pcF, upto, seval]
 refine loopC_of (α := DuS (p :: l)) (DuS.st e p l) (fun a => l.length + 1 - a.i) ⟨0, by omega⟩ ?_ ?_
 ·(simp only [DuS.st, En.cs, End0]; exact Wk.at _ _ _ [(0, 0), (4, 4), (24, 24)] [] [50] (by simp) (by simp [wkV, PV.el, PV.weak, PS.get, PS.obj, PS.lv, lkp_hit, lkp_miss, lkp_nil, lko, wkC_pcF, DuS.w, dueL, dueStr]) (by simp [PS.get, PS.obj, PS.lv, lkp_hit, lkp_miss, lkp_nil, lko, wkL, wkC, PV.weak, wkC_pcF, DuS.w, dueL, dueStr]))
 ·rintro ⟨i, hi⟩
  have hil : i ≤ l.length + 1 := hi
  have hwl : (DuS.w ⟨i, hi⟩).length = l.length + 1 := DuS.w_len _
  simp -implicitDefEqProofs only [push_cast, DuS.st, En.cs, End0, seval]
  refine condC_split (fun h2 => ?_) (fun h2 => ?_)
  ·have hlt : i < l.length + 1 := by simp at h2; omega
   simp -implicitDefEqProofs only [push_cast, pcF_len, hwl, seval]
   have hat : (DuS.w ⟨i, hi⟩).getD i pc0 = (p :: l).getD i pc0 := DuS.w_at i (by simpa using hlt)
   have d0 := pcF_d0 (DuS.w ⟨i, hi⟩) i (by omega)
   have d1 := pcF_d1 (DuS.w ⟨i, hi⟩) i (by omega)
   have d2 := pcF_d2 (DuS.w ⟨i, hi⟩) i (by omega)
   rw [hat] at d0 d1 d2
   have hqs : ((p :: l).getD i pc0).b.length ≤ 1000000 := by
    rw [List.getD_eq_getElem?_getD, List.getElem?_eq_getElem (by simpa using hlt)]
    exact hs _ (List.getElem_mem _)
   have hst : List.take (i * 3 + 2) (pcF (DuS.w ⟨i, hi⟩)) ++ .bool false :: List.drop (i * 3 + 2 + 1) (pcF (DuS.w ⟨i, hi⟩)) = pcF (dueL ((p :: l).take (i + 1)) ++ (p :: l).drop (i + 1)) := by
    have h := pcF_set false (DuS.w ⟨i, hi⟩) i (by rw [hwl]; exact hlt)
    rw [Nat.zero_add] at h
    rw [h]
    exact congrArg pcF (DuS.w_set i (by simpa using hlt))
   have hnot := DuS.w_not (l := p :: l) i (by simpa using hlt)
   have hds := dueStr_succ e (l := p :: l) i (by simpa using hlt)
   rw [List.take_succ_cons] at hds
   have hdl := dueStr_len e ((p :: l).take i)
   have hwr : IntKind.i64.wrap ((i : Int) + 1) = ((i + 1 : Nat) : Int) := by (rw [wrap_i64_id (by omega) (by omega)]; rfl)
   generalize hq : (p :: l).getD i pc0 = q at d0 d1 d2 hqs hnot hds hat
   simp -implicitDefEqProofs only [push_cast, d0, d1, d2, seval]
   refine ⟨by omega, ?_⟩
   refine condC_split (fun h3 => ?_) (fun h3 => ?_)
   ·simp -implicitDefEqProofs only [push_cast, d0, d1, d2, pcF_len, hwl, seval]
    refine callE_p (packet_fs 0 q.n e.exp q.b hqs) ?_
    simp -implicitDefEqProofs only [push_cast, d0, d1, d2, pcF_len, hwl, seval]
    have hdl2 : (List.map PV.str (dueStr e (List.take i (p :: l)))).length ≤ 1001 := by
     rw [List.length_map]
     refine Nat.le_trans hdl ?_
     rw [List.length_take, List.length_cons]
     omega
    refine ⟨by omega, by omega, by (unfold drawOk; kernel_rfl), by omega, ⟨i + 1, by simp; omega⟩, by simp only; omega, ?_⟩
    rw [hwr, hst]
    (simp only [DuS.st, En.cs, End0]; exact Wk.at _ _ _ [(0, 0), (4, 4), (24, 24)] [(50, 160)] [] (by simp) (by simp [wkV, PV.el, PV.weak, PS.get, PS.obj, PS.lv, lkp_hit, lkp_miss, lkp_nil, lko, wkC_pcF, DuS.w, hds, h3]) (by simp [PS.get, PS.obj, PS.lv, lkp_hit, lkp_miss, lkp_nil, lko, wkL, wkC, PV.weak, wkC_pcF, DuS.w, hds, h3]))
   ·simp -implicitDefEqProofs only [push_cast, seval]
    refine ⟨⟨i + 1, by simp; omega⟩, by simp only; omega, ?_⟩
    have hnw : DuS.w ⟨i, hi⟩ = dueL ((p :: l).take (i + 1)) ++ (p :: l).drop (i + 1) := hnot h3
    rw [hwr, hnw]
    (simp only [DuS.st, En.cs, End0]; exact Wk.at _ _ _ [(0, 0), (4, 4), (24, 24)] [(50, 50)] [] (by simp) (by simp [wkV, PV.el, PV.weak, PS.get, PS.obj, PS.lv, lkp_hit, lkp_miss, lkp_nil, lko, wkC_pcF, DuS.w, hds, h3]) (by simp [PS.get, PS.obj, PS.lv, lkp_hit, lkp_miss, lkp_nil, lko, wkL, wkC, PV.weak, wkC_pcF, DuS.w, hds, h3]))
  ·have hie : i = (p :: l).length := by simp at h2; simp; omega
   subst hie
   have hw : ∀ hh, DuS.w (l := p :: l) ⟨l.length + 1, hh⟩ = dueL (p :: l) := fun hh => by
    show dueL ((p :: l).take (p :: l).length) ++ (p :: l).drop (p :: l).length = _
    rw [List.take_length, List.drop_length, List.append_nil]
   have ht : List.take (l.length + 1) (p :: l) = p :: l := List.take_length (l := p :: l)
   have hdl := dueStr_len e (p :: l)
   generalize hD : dueStr e (p :: l) = D at hdl
   simp -implicitDefEqProofs only [push_cast, hw, ht, hD, seval]
   refine condC_split (fun h3 => ?_) (fun h3 => ?_)
   ·have h4 : D = [] ∧ e.ack = true := by
     simp only [List.length_map, Bool.and_eq_true, beq_iff_eq] at h3
     exact ⟨List.length_eq_zero_iff.1 (by omega), h3.2⟩
    rw [if_pos h4]
    rw [h4.1]
    simp -implicitDefEqProofs only [push_cast, seval]
    refine callE_pure (packet_fs 1 0 e.exp [] (by simp)) (by rfl) (by rfl) (by rfl) (by decide) (by rfl) (fun _ => by rfl) (by first | rfl | simp [gdOk, newToks]) ?_
    simp -implicitDefEqProofs only [push_cast, hw, seval]
    refine endK_box [] [24] rfl rfl (by simp) rfl rfl rfl (fun i j ps h1 h2 => ?_) ⟨by simp -implicitDefEqProofs only [push_cast, seval], by simp -implicitDefEqProofs only [push_cast, seval], by (simp -implicitDefEqProofs only [push_cast, wkL, lko, seval]; exact ⟨_, rfl, by simp [wkL, res1, res2, PV.weak, PV.el]⟩)⟩
    cases i with
    | zero =>
     simp at h1 h2
     subst h1; subst h2
     exact ⟨pcF (dueL (p :: l)), by simp [PS.obj, lkp_hit, lkp_miss], wkL_pcF _ _ _⟩
    | succ i => simp at h1
   ·have h4 : ¬ (D = [] ∧ e.ack = true) := by
     rintro ⟨q1, q2⟩
     rw [q1, q2] at h3
     simp at h3
    rw [if_neg h4]
    simp -implicitDefEqProofs only [push_cast, hw, seval]
    refine endK_box [] [24] rfl rfl (by simp) rfl rfl rfl (fun i j ps h1 h2 => ?_) ⟨by simp -implicitDefEqProofs only [push_cast, seval], by simp -implicitDefEqProofs only [push_cast, seval], by (simp -implicitDefEqProofs only [push_cast, wkL, lko, seval]; exact ⟨_, rfl, by simp [wkL, res1, res2, PV.weak, PV.el]⟩)⟩
    cases i with
    | zero =>
     simp at h1 h2
     subst h1; subst h2
     exact ⟨pcF (dueL (p :: l)), by simp [PS.obj, lkp_hit, lkp_miss], wkL_pcF _ _ _⟩
    | succ i => simp at h1
def En.due (e : En) : En := { e with way := dueL e.way, ack := false }
def En.dueP (e : En) : List (List UInt8) := if dueStr e e.way = [] ∧ e.ack = true then [pkt 1 0 e.exp []] else dueStr e e.way
theorem dueL_len (l : List Pc) : (dueL l).length = l.length := by simp [dueL]
theorem due_fs (e : En) (hw : e.way.length ≤ 1000) (hs : ∀ q ∈ e.way, q.b.length ≤ 1000000) : Fsp Tryz.prog 26 [] 0 [e.pv] [] 0 (.tup [e.due.pv, .sl 1 (e.dueP.map .str)]) := by
 refine of_slcell (i := 1) (sz := 3) (es := e.way.map Pc.pv) rfl (fun hn => ?_) ?_
 ·have hway : e.way = [] := by simpa using hn
  have hr : e.due.pv = .agg ({ e with ack := false }.cs (.sl 3 [])) := by rw [En.due, En.pv, hway]; rfl
  have hd : dueStr e e.way = [] := by rw [hway]; rfl
  rw [hr, En.dueP, hd]
  show Fsp Tryz.prog 26 [] 0 [.agg (e.cs .nilsl)] [] 0 _
  (refine Fsp.ofs (nx := 0) mixed Tryz.func26 rfl (by simp [Tryz.f26]) ?_; simp -implicitDefEqProofs only [push_cast, Tryz.f26, En.cs, seval])
  refine callE_p clone_nil ?_
  simp -implicitDefEqProofs only [push_cast, seval]
  refine loopC_un 1 ?_
  simp -implicitDefEqProofs only [push_cast, seval]
  refine condC_split (fun h3 => ?_) (fun h3 => ?_)
  ·simp -implicitDefEqProofs only [push_cast, seval]
   refine callE_pure (packet_fs 1 0 e.exp [] (by simp)) (by rfl) (by rfl) (by rfl) (by decide) (by rfl) (fun _ => by rfl) (by first | rfl | simp [gdOk, newToks]) ?_
   simp -implicitDefEqProofs only [push_cast, seval]
   rw [if_pos h3]
   exact ⟨_, rfl, by simp [wkL, res2, res1, PV.weak, PV.el]⟩
  ·simp -implicitDefEqProofs only [push_cast, seval]
   rw [if_neg (show ¬ (e.ack = true) by rw [h3]; exact Bool.false_ne_true)]
   exact ⟨_, rfl, by simp [wkL, res2, res1, PV.weak, PV.el]⟩
 ·show Fsp Tryz.prog 26 [] 0 [.agg (e.cs (.sln 3 (e.way.map Pc.pv)))] [] 0 _
  cases hway : e.way with
  | nil =>
   have hr : e.due.pv = .agg ({ e with ack := false }.cs (.sl 3 [])) := by rw [En.due, En.pv, hway]; rfl
   have hd : dueStr e e.way = [] := by rw [hway]; rfl
   rw [hr, En.dueP, hd, List.map_nil]
   (refine Fsp.ofs (nx := 0) mixed Tryz.func26 rfl (by simp [Tryz.f26]) ?_; simp -implicitDefEqProofs only [push_cast, Tryz.f26, En.cs, seval])
   refine callE_p clone_emp ?_
   simp -implicitDefEqProofs only [push_cast, seval]
   refine loopC_un 1 ?_
   simp -implicitDefEqProofs only [push_cast, seval]
   refine condC_split (fun h3 => ?_) (fun h3 => ?_)
   ·simp -implicitDefEqProofs only [push_cast, seval]
    refine callE_pure (packet_fs 1 0 e.exp [] (by simp)) (by rfl) (by rfl) (by rfl) (by decide) (by rfl) (fun _ => by rfl) (by first | rfl | simp [gdOk, newToks]) ?_
    simp -implicitDefEqProofs only [push_cast, seval]
    rw [if_pos h3]
    exact ⟨_, rfl, by simp [wkL, res2, res1, PV.weak, PV.el]⟩
   ·simp -implicitDefEqProofs only [push_cast, seval]
    rw [if_neg (show ¬ (e.ack = true) by rw [h3]; exact Bool.false_ne_true)]
    exact ⟨_, rfl, by simp [wkL, res2, res1, PV.weak, PV.el]⟩
  | cons p l =>
   have h := (due_box e p l (by rw [hway] at hw; simp at hw; omega) (by rw [← hway]; exact hs)).freeze (bs' := []) (Nat.le_refl _)
   have hr : ∀ x : List PV, frz3 ([] : List (List PV)).length (pcF (dueL (p :: l))) (.tup [.agg ({ e with ack := false }.cs (.slb 0 0 (l.length + 1) 3)), .sl 1 x]) = .tup [e.due.pv, .sl 1 x] := fun x => by
    have hz := frz_pcF 0 { p with due := false } (dueL l)
    rw [dueL_len] at hz
    show PV.tup [PV.agg (List.map (frz1 0 _) ({ e with ack := false }.cs _)), .sl 1 x] = PV.tup [PV.agg ({ e with ack := false }.cs (pcs (dueL e.way))), .sl 1 x]
    rw [hway, show dueL (p :: l) = { p with due := false } :: dueL l from rfl, ← hz]
    rfl
   rw [hr] at h
   rw [En.dueP, hway]
   exact h
end Go.Proofs.Lk
set_option maxRecDepth 100000
set_option linter.unusedSimpArgs false
set_option linter.unusedVariables false
namespace Go.Proofs.Lk
open Go.Pv Go.Proofs.Sh
def En.tot (e : En) : Nat := pcSum e.way + e.rest.length
theorem pcSum_app (p : Pc) : ∀ l : List Pc, pcSum (l ++ [p]) = pcSum l + p.b.length
 | [] => by simp [pcSum]
 | q :: l => by rw [List.cons_append, pcSum, pcSum, pcSum_app p l]; omega
theorem mn_le (e : En) : e.mn ≤ e.rest.length ∧ e.mn ≤ e.most ∧ (e.mn = e.most ∨ e.mn = e.rest.length) := by
 unfold En.mn
 split <;> omega
theorem num1_tot (e : En) (h : 0 ≤ e.most) : e.num1.tot = e.tot := by
 have := mn_le e
 have h2 : 0 ≤ e.mn := by unfold En.mn; split <;> omega
 unfold En.tot En.num1
 simp only
 rw [pcSum_app, List.length_take, List.length_drop]
 omega
structure Numd (e f : En) (k : Nat) : Prop where
 most : f.most = e.most
 exp : f.exp = e.exp
 aside : f.aside = e.aside
 read : f.read = e.read
 ack : f.ack = e.ack
 way : f.way.length ≤ 16
 le : e.next ≤ f.next
 next : f.next ≤ e.next + k
 rest : f.rest.length ≤ e.rest.length
 tot : f.tot = e.tot
 bs : ∀ N : Nat, (∀ p ∈ e.way, p.b.length ≤ N) → e.most ≤ (N : Int) → ∀ p ∈ f.way, p.b.length ≤ N
 due : (∀ p ∈ e.way, p.due = true) → ∀ p ∈ f.way, p.due = true
theorem numL_numd : ∀ (k : Nat) (e : En), 0 ≤ e.most → e.way.length ≤ 16 → Numd e (numL k e) k
 | 0, e, hm, hw => ⟨rfl, rfl, rfl, rfl, rfl, hw, Int.le_refl _, Int.le_add_of_nonneg_right (by omega), Nat.le_refl _, rfl, fun _ h _ => h, fun h => h⟩
 | k + 1, e, hm, hw => by
  unfold numL
  split
  ·rename_i h
   have hlt : e.way.length < 16 := by simp at h; omega
   have mn := mn_le e
   have hw1 : e.num1.way.length ≤ 16 := by simp [En.num1]; omega
   have i := numL_numd k e.num1 hm hw1
   refine ⟨i.most, i.exp, i.aside, i.read, i.ack, i.way, ?_, ?_, ?_, ?_, ?_, ?_⟩
   ·have h1 := i.le
    have : e.num1.next = e.next + 1 := rfl
    omega
   ·have h1 := i.next
    have : e.num1.next = e.next + 1 := rfl
    omega
   ·refine Nat.le_trans i.rest ?_
    simp [En.num1]
   ·rw [i.tot, num1_tot e hm]
   ·intro N h1 h2
    refine i.bs N ?_ h2
    intro p hp
    rcases List.mem_append.1 hp with hp | hp
    ·exact h1 p hp
    ·rw [List.mem_singleton] at hp
     subst hp
     simp only [List.length_take]
     omega
   ·intro h1
    refine i.due ?_
    intro p hp
    rcases List.mem_append.1 hp with hp | hp
    ·exact h1 p hp
    ·rw [List.mem_singleton] at hp
     subst hp
     rfl
  ·exact ⟨rfl, rfl, rfl, rfl, rfl, hw, Int.le_refl _, by omega, Nat.le_refl _, rfl, fun _ h _ => h, fun h => h⟩
end Go.Proofs.Lk
