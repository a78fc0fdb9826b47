/- Package cache: a message's place; the cache behind a message. -/
import Derived.Test.YtoemcdgebkkcoaaGreatDoorPvYa
import Derived.Test.YtoemcdgebkkcoaaGreatDoorShTypes
import Derived.Test.YtoemcdgebkkcoaaGreatDoorPxBase
import Derived.Test.YtoemcdgebkkcoaaGreatDoorPvFz
import Derived.Test.YtoemcdgebkkcoaaGreatDoorPvIv
set_option maxRecDepth 100000
set_option linter.unusedSimpArgs false
set_option linter.unusedVariables false
namespace Go.Proofs.Sh
open Go.Pv
abbrev Bys := List UInt8
def sts (L : List Bys) : List PV := L.map PV.str
theorem sts_length (L : List Bys) : (sts L).length = L.length := List.length_map _
theorem sts_at {L : List Bys} {i : Nat} (h : i < L.length) : (sts L).getD i PV.any = .str (L.getD i []) := by
 rw [sts, List.getD_eq_getElem?_getD, List.getElem?_map, List.getElem?_eq_getElem h, List.getD_eq_getElem?_getD, List.getElem?_eq_getElem h]; rfl
theorem drop_at {L : List Bys} {i : Nat} (h : i < L.length) : L.drop i = L.getD i [] :: L.drop (i + 1) := by
 rw [List.getD_eq_getElem?_getD, List.getElem?_eq_getElem h]; exact List.drop_eq_getElem_cons h
def ixS (v : Bys) : List Bys → Nat → Int
 | [], _ => -1
 | x :: l, i => if (v == x) = true then i else ixS v l (i + 1)
theorem ixS_lt (v : Bys) : ∀ (l : List Bys) (i : Nat), ixS v l i = -1 ∨ ∃ j : Nat, ixS v l i = (j : Int) ∧ i ≤ j ∧ j < i + l.length
 | [], i => .inl rfl
 | x :: l, i => by
  unfold ixS
  split
  ·exact .inr ⟨i, rfl, Nat.le_refl _, by simp⟩
  ·rcases ixS_lt v l (i + 1) with h | ⟨j, h1, h2, h3⟩
   ·exact .inl h
   ·exact .inr ⟨j, h1, by omega, by rw [List.length_cons]; omega⟩
structure IxA (v : Bys) (L : List Bys) where
 i : Nat
 h : i ≤ L.length
 e : ixS v L 0 = ixS v (L.drop i) i
def IxA.st (v : Bys) (L : List Bys) (a : IxA v L) : PS := { n := 19, env := [(8, .int .i64 a.i), (7, .int .i64 L.length), (4, .int .i64 0), (1, .str v), (0, .sl 1 (sts L))], objs := [], live := [], nxt := 60 }
theorem index_fs (L : List Bys) (hl : L.length < 1000000) (v : Bys) : Fsp Tryz.prog 47 [] 0 [.sl 1 (sts L), .str v] [] 0 (.int .i64 (ixS v L 0)) := by
 (refine Fsp.ofs (nx := 0) mixed Tryz.func47 rfl (by simp [Tryz.f47]) ?_; simp -implicitDefEqProofs only [push_cast, Tryz.f47, seval])
 simp -implicitDefEqProofs only [push_cast, sts_length, seval]
 refine loopC_of (α := IxA v L) (IxA.st v L) (fun a => L.length - a.i) ⟨0, by omega, rfl⟩ ?_ ?_
 ·(simp only [IxA.st]; exact Wk.at _ _ _ [] [] [] (by simp) (by simp [wkV, PV.el, PV.weak, PS.get, PS.obj, PS.lv, lkp_hit, lkp_miss, lkp_nil, lko, wkL, wkC, res1]) (by simp [PS.get, PS.obj, PS.lv, lkp_hit, lkp_miss, lkp_nil, lko, wkL, wkC, PV.weak, wkL, wkC, res1]))
 ·rintro ⟨i, hi, he⟩
  simp only [IxA.st]
  simp -implicitDefEqProofs only [push_cast, sts_length, seval]
  refine condC_split (fun g1 => ?_) (fun g1 => ?_)
  ·have hlt : i < L.length := by simp at g1; omega
   have hwi : IntKind.i64.wrap ((i : Int) + 1) = ((i + 1 : Nat) : Int) := by (rw [wrap_i64_id (by omega) (by omega)]; rfl)
   have hg := sts_at hlt
   rw [drop_at hlt] at he
   generalize L.getD i [] = x at *
   simp -implicitDefEqProofs only [push_cast, hg, sts_length, seval]
   (repeat refine and_o ?_)
   refine condC_split (fun g1 => ?_) (fun g1 => ?_)
   ·rw [ixS, if_pos g1] at he
    rw [he]
    simp -implicitDefEqProofs only [push_cast, seval]
    all_goals (first | done | rfl | exact ⟨_, rfl, by simp [wkL, res2, res1, PV.weak, PV.el]⟩ | (simp [wkL, res2, res1, PV.weak, PV.el]; done))
   ·rw [ixS, if_neg (by rw [g1]; simp)] at he
    simp -implicitDefEqProofs only [push_cast, hwi, seval]
    refine ⟨⟨i + 1, hlt, he⟩, by simp only; omega, ?_⟩
    (simp only [IxA.st]; exact Wk.at _ _ _ [] [] [] (by simp) (by simp [wkV, PV.el, PV.weak, PS.get, PS.obj, PS.lv, lkp_hit, lkp_miss, lkp_nil, lko, wkL, wkC, res1]) (by simp [PS.get, PS.obj, PS.lv, lkp_hit, lkp_miss, lkp_nil, lko, wkL, wkC, PV.weak, wkL, wkC, res1]))
  ·have hie : i = L.length := by simp at g1; omega
   subst hie
   rw [List.drop_length] at he
   simp -implicitDefEqProofs only [push_cast, seval]
   rw [he, ixS]
   all_goals (first | done | rfl | exact ⟨_, rfl, by simp [wkL, res2, res1, PV.weak, PV.el]⟩ | (simp [wkL, res2, res1, PV.weak, PV.el]; done))
end Go.Proofs.Sh
set_option maxRecDepth 100000
set_option linter.unusedSimpArgs false
set_option linter.unusedVariables false
namespace Go.Proofs.Sh
open Go.Pv
structure Cc where
 m : Nat
 k : List Bys
def Cc.pv (c : Cc) : PV := .agg [.int .i64 c.m, .sl 1 (sts c.k)]
def wiL (b : Bys) (L : List Bys) : List Bys := if decide (0 ≤ ixS b L 0) = true then b :: (L.take (ixS b L 0).toNat ++ L.drop ((ixS b L 0).toNat + 1)) else b :: L
def Cc.put (c : Cc) (b : Bys) : Cc := { c with k := (wiL b c.k).take c.m }
theorem sts_cons (b : Bys) (L : List Bys) : sts (b :: L) = .str b :: sts L := rfl
theorem sts_app (K L : List Bys) : sts (K ++ L) = sts K ++ sts L := List.map_append
theorem sts_take (L : List Bys) (n : Nat) : sts (L.take n) = (sts L).take n := List.map_take
theorem sts_drop (L : List Bys) (n : Nat) : sts (L.drop n) = (sts L).drop n := List.map_drop
theorem take_min (m : Nat) (b : Bys) (X : List Bys) : (b :: X).take (if (m : Int) < (X.length : Int) + 1 then (m : Int) else (X.length : Int) + 1).toNat = (b :: X).take m := by
 split
 ·rw [Int.toNat_natCast]
 ·rename_i h
  have h1 : ((X.length : Int) + 1).toNat = X.length + 1 := by omega
  rw [h1, List.take_of_length_le (by simp), List.take_of_length_le (by rw [List.length_cons]; omega)]
theorem with_fs (c : Cc) (b : Bys) (hm : c.m ≤ 64) (hk : c.k.length ≤ 1000) : Fsp Tryz.prog 46 [] 0 [c.pv, .str b] [] 0 (c.put b).pv := by
 obtain ⟨m, L⟩ := c
 simp only [Cc.pv, Cc.put] at *
 have hL := index_fs L (by omega) b
 (refine Fsp.ofs (nx := 0) mixed Tryz.func46 rfl (by simp [Tryz.f46]) ?_; simp -implicitDefEqProofs only [push_cast, Tryz.f46, seval])
 refine callE_bs ?_
 simp -implicitDefEqProofs only [push_cast, seval]
 refine callE_p hL ?_
 simp -implicitDefEqProofs only [push_cast, seval]
 have hix := ixS_lt b L 0
 rw [wiL]
 refine condC_split (fun g1 => ?_) (fun g1 => ?_)
 ·rcases hix with h | ⟨j, hj, -, hj2⟩
  ·rw [h] at g1; exact absurd g1 (by decide)
  rw [if_pos g1, hj]
  rw [Int.toNat_natCast]
  have hj3 : j < L.length := by omega
  have hw : IntKind.i64.wrap ((j : Int) + 1) = ((j + 1 : Nat) : Int) := by (rw [wrap_i64_id (by omega) (by omega)]; rfl)
  simp -implicitDefEqProofs only [push_cast, hj, sts_length, hw, seval]
  (repeat (first | refine ⟨(by omega : _ ≤ _), ?_⟩ | refine ⟨(by omega : _ < _), ?_⟩ | refine ⟨(by simp only [sts_length, List.length_append, List.length_take, List.length_drop, List.length_cons, List.length_nil]; omega), ?_⟩ | refine ⟨(by simp [sts_length]; omega), ?_⟩ | refine ⟨(by simp [sts_length]), ?_⟩ | refine ⟨by (unfold drawOk; kernel_rfl), ?_⟩))
  refine .inl ?_
  have e1 : ((j : Int) + 1).toNat = j + 1 := by omega
  rw [e1, ← sts_drop, ← sts_take, ← sts_take, ← sts_app, ← sts_cons, ← sts_take]
  congr 1
  have e2 : (L.drop (j + 1)).take (L.length - (j + 1)) = L.drop (j + 1) := List.take_of_length_le (by simp)
  rw [e2, sts_length]
  generalize hX : L.take j ++ L.drop (j + 1) = X
  rw [take_min]
 ·rw [if_neg (by rw [g1]; exact Bool.false_ne_true)]
  simp -implicitDefEqProofs only [push_cast, sts_length, seval]
  (repeat (first | refine ⟨(by omega : _ ≤ _), ?_⟩ | refine ⟨(by omega : _ < _), ?_⟩ | refine ⟨(by simp only [sts_length, List.length_append, List.length_take, List.length_drop, List.length_cons, List.length_nil]; omega), ?_⟩ | refine ⟨(by simp [sts_length]; omega), ?_⟩ | refine ⟨(by simp [sts_length]), ?_⟩ | refine ⟨by (unfold drawOk; kernel_rfl), ?_⟩))
  refine .inl ?_
  rw [← sts_cons, ← sts_take, take_min]
end Go.Proofs.Sh
set_option maxRecDepth 100000
set_option linter.unusedSimpArgs false
set_option linter.unusedVariables false
namespace Go.Proofs.Sh
open Go.Pv
theorem others_fs (a b : Bys) : Fsp Tryz.prog 49 [] 0 [.str a, .str b] [[.str a], [.str b]] 0 (.fn 79 [.box 0 0, .box 1 0]) := runJ_ok mixed orc_ok (wbf := pwb) (n := 4) (d := 3) (u := 0) _ _ _ _ _ _ _ (by kernel_rfl)
theorem Wk.drp (m : Nat) (S T : PS) (hn : T.n = S.n) (he : ∀ x ∈ T.env, x.2 = S.get x.1) (ho : T.objs = S.objs) (hl : T.live = S.live) (hx : S.nxt ≤ T.nxt) : Wk m S T := by
 intro g tmps w hI hF hp
 refine ⟨g, ⟨InvW.of_eq (S := S) (fun i => by simp only [PS.obj, ho]) (fun k => by simp only [PS.lv, hl]) hI.w, fun t => ?_, by rw [hn]; exact hI.size⟩, fun j hj => hF j (Nat.le_trans hx hj), ExtP.same_r (S' := S) (fun i => by simp only [PS.obj, ho]) (fun k => by simp only [PS.lv, hl]) (ExtP.refl _ _ _ _)⟩
 rcases lkp_mem (d := PV.any) (l := T.env) (t := t) with ⟨y, h1, h2⟩ | h
 ·have h3 := he _ h1
  simp only at h3
  rw [PS.get, h2, h3]; exact hI.env t
 ·rw [PS.get, h]; exact .pure _ _ (.any _)
def otE (K : Yc) (a : Bys) (A B i : Nat) : List (Nat × PV) := [(7, .int .i64 i), (6, .int .i64 a.length), (2, .box B 0), (1, .box A 0), (0, .yld K.y)]
def otS (K : Yc) (a : Bys) (A B i nx : Nat) (O : List (Nat × Option (List PV))) (Lv : List (Nat × Bool)) : PS := { n := 27, env := otE K a A B i, objs := O, live := Lv, nxt := nx }
theorem oth {K : Yc} (hK : YcOk K) (hk2 : K.ps.toList.length = 2) {Q : YPost} (hno : ∀ S pe, ¬ Q .outgrown S pe) (a b : Bys) (hab : a.length ≤ b.length) (hal : a.length ≤ 1000000) (A B N : Nat) (hAk : A < K.k) (hBk : B < K.k) (hyk : K.y < K.k) {α : Type} (ix : α → Nat) (hix : ∀ x, ix x ≤ a.length) (O : α → List (Nat × Option (List PV))) (Lv : α → List (Nat × Bool))
 (hA : ∀ x, lkp none (O x) A = some [.str a]) (hB : ∀ x, lkp none (O x) B = some [.str b]) (x0 : α) (h0 : ix x0 = 0) (S : PS) (hS : ∀ nx, S.nxt ≤ nx → Wk K.k (otS K a A B 0 nx S.objs S.live) (otS K a A B 0 N (O x0) (Lv x0)))
 (hSA : S.obj A = some [.str a]) (hSB : S.obj B = some [.str b]) (hSe : S.env = [(0, .yld K.y), (1, .box A 0), (2, .box B 0)]) (hSn : S.n = 27)
 (hround : ∀ x nid, ix x < a.length → (a.getD (ix x) 0 != b.getD (ix x) 0) = true → RndP Tryz.prog K (fun bb S2 pe' =>
   (bb = true ∧ pe' = none ∧ ∃ x', ix x' = ix x + 1 ∧ ∀ nx, S2.nxt ≤ nx → Wk K.k (otS K a A B (ix x + 1) nx S2.objs S2.live) (otS K a A B (ix x') N (O x') (Lv x'))) ∨
   (bb = false ∧ ∀ env nx, S2.nxt ≤ nx → Q .ret { n := 27, env := env, objs := S2.objs, live := S2.live, nxt := nx } pe'))
   { n := K.n, env := pz K.ps.toList [.int .i64 (ix x), .int .u8 ((b.getD (ix x) 0).toNat : Int)] K.E, objs := O x, live := Lv x, nxt := nid })
 (hskip : ∀ x, ix x < a.length → (a.getD (ix x) 0 != b.getD (ix x) 0) = false → ∃ x', ix x' = ix x + 1 ∧ ∀ nx, N ≤ nx → Wk K.k (otS K a A B (ix x + 1) nx (O x) (Lv x)) (otS K a A B (ix x') N (O x') (Lv x')))
 (hend : ∀ x env nx, ix x = a.length → N ≤ nx → Q .normal { n := 27, env := env, objs := O x, live := Lv x, nxt := nx } none)
 {c : Code} (hc : Tryz.f79.body = some c) : YWP Tryz.prog K c Q S none := by
 simp only [Tryz.f79, Option.some.injEq] at hc
 subst hc
 refine VCY_sound mixed ?_
 obtain ⟨n, env, objs, live, nxt⟩ := S
 simp only at hSe hSn
 subst hSe hSn
 have hA0 : lkp none objs A = some [.str a] := hSA
 have hB0 : lkp none objs B = some [.str b] := hSB
 simp -implicitDefEqProofs only [push_cast, hA0, hB0, seval]
 refine YWP.loop (α := α) (fun x => otS K a A B (ix x) N (O x) (Lv x)) (fun _ => none) (fun x => a.length - ix x) x0 ?_ rfl ?_
 ·refine Wk.trans (Wk.drp _ _ (otS K a A B 0 (nxt + 12) objs live) rfl ?_ rfl rfl (by simp [otS])) ?_
  ·simp [otS, otE, PS.get, lkp_hit, lkp_miss, lkp_nil]
  ·rw [h0]; exact hS _ (by simp only; omega)
 intro x
 have hA1 := hA x
 have hB1 := hB x
 refine VCY_sound mixed ?_
 simp only [otS, otE]
 simp -implicitDefEqProofs only [push_cast, hA1, hB1, seval]
 refine condY_split (fun g1 => ?_) (fun g1 => ?_)
 ·have hlt : ix x < a.length := by simp at g1; omega
  have hwi : IntKind.i64.wrap ((ix x : Int) + 1) = ((ix x + 1 : Nat) : Int) := by (rw [wrap_i64_id (by omega) (by omega)]; rfl)
  simp -implicitDefEqProofs only [push_cast, hA1, hB1, seval]
  cases hne : (a.getD (ix x) 0 != b.getD (ix x) 0) with
  | false =>
   have hnz : (((a.getD (ix x) 0).toNat : Int) != ((b.getD (ix x) 0).toNat : Int)) = false := by
    have h1 : a.getD (ix x) 0 = b.getD (ix x) 0 := by simpa using hne
    rw [h1, bne_self_eq_false]
   refine YWP.reg mixed ?_
   simp -implicitDefEqProofs only [push_cast, hA1, hB1, hnz, seval]
   refine ⟨by omega, by omega, ?_⟩
   refine callE_no ?_
   simp -implicitDefEqProofs only [push_cast, hA1, hB1, hnz, hwi, seval]
   refine ⟨by (unfold drawOk; kernel_rfl), ?_⟩
   obtain ⟨x', e1, e2⟩ := hskip x hlt hne
   refine ⟨x', by simp only; omega, ?_, rfl⟩
   refine Wk.trans (Wk.drp _ _ (otS K a A B (ix x + 1) (N + 200) (O x) (Lv x)) rfl ?_ rfl rfl (by simp [otS])) (e2 _ (by omega))
   simp [otS, otE, PS.get, lkp_hit, lkp_miss, lkp_nil]
  | true =>
   have hnz : (((a.getD (ix x) 0).toNat : Int) != ((b.getD (ix x) 0).toNat : Int)) = true := by
    have h1 : a.getD (ix x) 0 ≠ b.getD (ix x) 0 := by simpa using hne
    have h2 : (a.getD (ix x) 0).toNat ≠ (b.getD (ix x) 0).toNat := fun h => h1 (UInt8.toNat_inj.1 h)
    rw [bne_iff_ne]; intro h; exact h2 (by omega)
   refine YWP.reg_ys 13 mixed hK ?_ ?_ ?_ ?_
   ·exact fun S pe h => hno S pe h
   ·decide
   ·kernel_rfl
   simp -implicitDefEqProofs only [push_cast, hA1, hB1, hnz, seval]
   refine ⟨by omega, by omega, by omega, by (unfold drawOk; kernel_rfl), ?_⟩
   refine yldE_of _ (.tmp 18) #[.tmp 19, .tmp 22] #[3, 5] 23 rfl rfl (by rfl) rfl (by rfl) (by rfl) (by rfl) (by rw [hk2]; rfl) (by simp) ?_
   refine RndP.mono (hround x _ hlt hne) ?_
   rintro bb S2 pe' (⟨rfl, rfl, x', e1, e2⟩ | ⟨rfl, e2⟩)
   ·simp -implicitDefEqProofs only [push_cast, hA1, hB1, hnz, hwi, hAk, hBk, hyk, seval]
    refine ⟨x', by simp only; omega, Wk.trans (Wk.drp _ _ (otS K a A B (ix x + 1) (S2.nxt + 200) S2.objs S2.live) rfl ?_ rfl rfl (by simp [otS])) (e2 _ (by omega)), rfl⟩
    simp [otS, otE, PS.get, lkp_hit, lkp_miss, lkp_nil]
   ·simp -implicitDefEqProofs only [push_cast, hA1, hB1, hnz, hwi, hAk, hBk, hyk, seval]
    exact e2 _ _ (by omega)
 ·have hie : ix x = a.length := by have := hix x; simp at g1; omega
  simp -implicitDefEqProofs only [push_cast, seval]
  exact hend x _ _ hie (by omega)
end Go.Proofs.Sh
set_option maxRecDepth 100000
set_option linter.unusedSimpArgs false
set_option linter.unusedVariables false
namespace Go.Proofs.Sh
open Go.Pv
def cntD (p l : Int) : Bys → Bys → Nat → Nat
 | x :: a, y :: b, n => if (x != y) = true then (if (decide (0 ≤ p) && decide (l ≤ (n : Int) + 1)) = true then n + 1 else cntD p l a b (n + 1)) else cntD p l a b n
 | _, _, n => n
def nearL (b : Bys) : List Bys → Nat → Int → Int → Int × Int
 | [], _, p, l => (p, l)
 | k :: ks, i, p, l =>
  if ((k.length : Int) != (b.length : Int)) = true then nearL b ks (i + 1) p l
  else if (decide (p < 0) || decide (((cntD p l k b 0 : Nat) : Int) < l)) = true then nearL b ks (i + 1) i (cntD p l k b 0 : Nat)
  else nearL b ks (i + 1) p l
structure NaA (k b : Bys) (p l : Int) where
 i : Nat
 n : Nat
 hi : i ≤ k.length
 hn : n ≤ i
 e : cntD p l (k.drop i) (b.drop i) n = cntD p l k b 0
def NaA.O {k b : Bys} {p l : Int} (x : NaA k b p l) : List (Nat × Option (List PV)) := [(2, some [.int .i64 x.n]), (0, some [.int .i64 p]), (1, some [.int .i64 l]), (3, some [.str k]), (4, some [.str b])]
theorem drop_u8 {a : Bys} {i : Nat} (h : i < a.length) : a.drop i = a.getD i 0 :: a.drop (i + 1) := by
 rw [List.getD_eq_getElem?_getD, List.getElem?_eq_getElem h]; exact List.drop_eq_getElem_cons h
structure NrA (b : Bys) (L : List Bys) where
 i : Nat
 p : Int
 l : Int
 hi : i ≤ L.length
 e : nearL b (L.drop i) i p l = nearL b L 0 (-1) 0
def NrA.st (b : Bys) (L : List Bys) (a : NrA b L) : PS := { n := 50, env := [(14, .int .i64 a.i), (13, .int .i64 L.length), (12, .sl 1 (sts L)), (7, .box 1 0), (6, .box 0 0), (5, .int .i64 0), (4, .int .i64 0), (1, .str b)], objs := [(0, some [.int .i64 a.p]), (1, some [.int .i64 a.l])], live := [], nxt := 5 }
set_option maxHeartbeats 4000000 in
theorem nearest_fs (c : Cc) (b : Bys) (hk : c.k.length ≤ 1000) (hkb : ∀ x ∈ c.k, x.length ≤ 1000000) (hb : b.length ≤ 1000000) : Fsp Tryz.prog 48 [] 0 [c.pv, .str b] [] 0 (.tup [.int .i64 (nearL b c.k 0 (-1) 0).1, .int .i64 (nearL b c.k 0 (-1) 0).2]) := by
 obtain ⟨m, L⟩ := c
 simp only [Cc.pv] at *
 (refine Fsp.ofs (nx := 0) mixed Tryz.func48 rfl (by simp [Tryz.f48]) ?_; simp -implicitDefEqProofs only [push_cast, Tryz.f48, seval])
 simp -implicitDefEqProofs only [push_cast, sts_length, seval]
 refine loopC_of (α := NrA b L) (NrA.st b L) (fun a => L.length - a.i) ⟨0, -1, 0, by omega, rfl⟩ ?_ ?_
 ·(simp only [NrA.st]; exact Wk.at _ _ _ [(0, 12), (1, 16)] [] [] (by simp) (by simp [wkV, PV.el, PV.weak, PS.get, PS.obj, PS.lv, lkp_hit, lkp_miss, lkp_nil, lko, wkL, wkC, res1]) (by simp [PS.get, PS.obj, PS.lv, lkp_hit, lkp_miss, lkp_nil, lko, wkL, wkC, PV.weak, wkL, wkC, res1]))
 ·rintro ⟨i, p, l, hi, he⟩
  simp only [NrA.st]
  simp -implicitDefEqProofs only [push_cast, sts_length, seval]
  refine condC_split (fun g1 => ?_) (fun g1 => ?_)
  ·have hlt : i < L.length := by simp at g1; omega
   have hwi : IntKind.i64.wrap ((i : Int) + 1) = ((i + 1 : Nat) : Int) := by (rw [wrap_i64_id (by omega) (by omega)]; rfl)
   have hg := sts_at hlt
   have hkl : (L.getD i []).length ≤ 1000000 := by
    rw [List.getD_eq_getElem?_getD, List.getElem?_eq_getElem hlt]; exact hkb _ (List.getElem_mem hlt)
   rw [drop_at hlt] at he
   generalize L.getD i [] = k at *
   simp -implicitDefEqProofs only [push_cast, hg, sts_length, seval]
   (repeat (first | refine ⟨(by omega : _ ≤ _), ?_⟩ | refine ⟨(by omega : _ < _), ?_⟩ | refine ⟨(by simp only [sts_length, List.length_append, List.length_take, List.length_drop, List.length_cons, List.length_nil]; omega), ?_⟩ | refine ⟨(by simp [sts_length]; omega), ?_⟩ | refine ⟨(by simp [sts_length]), ?_⟩ | refine ⟨by (unfold drawOk; kernel_rfl), ?_⟩))
   refine condC_split (fun g2 => ?_) (fun g2 => ?_)
   ·rw [nearL, if_pos g2] at he
    simp -implicitDefEqProofs only [push_cast, hwi, seval]
    refine ⟨⟨i + 1, p, l, hlt, he⟩, by simp only; omega, ?_⟩
    (simp only [NrA.st]; exact Wk.at _ _ _ [(0, 0), (1, 1)] [] [] (by simp) (by simp [wkV, PV.el, PV.weak, PS.get, PS.obj, PS.lv, lkp_hit, lkp_miss, lkp_nil, lko, wkL, wkC, res1]) (by simp [PS.get, PS.obj, PS.lv, lkp_hit, lkp_miss, lkp_nil, lko, wkL, wkC, PV.weak, wkL, wkC, res1]))
   ·rw [nearL, if_neg (by rw [g2]; exact Bool.false_ne_true)] at he
    simp -implicitDefEqProofs only [push_cast, seval]
    refine callE_bx (others_fs k b) [] [] ?_
    simp -implicitDefEqProofs only [push_cast, seval]
    refine PWP.named (fun Q => (∀ T, Q .normal T → Q (.exit 2) T) ∧ ∀ objs live nx, lkp none objs 0 = some [.int .i64 p] → lkp none objs 1 = some [.int .i64 l] → lkp none objs 2 = some [.int .i64 (cntD p l k b 0 : Nat)] → Q .normal { n := 50, env := [(26, .any), (14, .int .i64 i), (13, .int .i64 L.length), (12, .sl 1 (sts L)), (10, .box 2 0), (8, .int .i64 i), (7, .box 1 0), (6, .box 0 0), (5, .int .i64 0), (4, .int .i64 0), (1, .str b)], objs := objs, live := live, nxt := nx }) ⟨?_, ?_⟩ (fun Q hQ => ?_)
    ·intro T h
     rw [blkC_exit, if_pos rfl]
     exact h
    ·intro objs live nx o0 o1 o2
     simp -implicitDefEqProofs only [push_cast, o0, o1, o2, seval]
     refine condC_split (fun g3 => ?_) (fun g3 => ?_)
     ·rw [if_pos g3] at he
      simp -implicitDefEqProofs only [push_cast, o0, o1, o2, hwi, seval]
      (repeat (first | refine ⟨(by omega : _ ≤ _), ?_⟩ | refine ⟨(by omega : _ < _), ?_⟩ | refine ⟨(by simp only [sts_length, List.length_append, List.length_take, List.length_drop, List.length_cons, List.length_nil]; omega), ?_⟩ | refine ⟨(by simp [sts_length]; omega), ?_⟩ | refine ⟨(by simp [sts_length]), ?_⟩ | refine ⟨by (unfold drawOk; kernel_rfl), ?_⟩))
      refine ⟨⟨i + 1, _, _, hlt, he⟩, by simp only; omega, ?_⟩
      (simp only [NrA.st]; exact Wk.at _ _ _ [(0, 0), (1, 1)] [] [] (by simp) (by simp [wkV, PV.el, PV.weak, PS.get, PS.obj, PS.lv, lkp_hit, lkp_miss, lkp_nil, lko, wkL, wkC, res1, o0, o1, o2]) (by simp [PS.get, PS.obj, PS.lv, lkp_hit, lkp_miss, lkp_nil, lko, wkL, wkC, PV.weak, wkL, wkC, res1, o0, o1, o2]))
     ·rw [if_neg (by rw [g3]; exact Bool.false_ne_true)] at he
      simp -implicitDefEqProofs only [push_cast, o0, o1, o2, hwi, seval]
      refine ⟨⟨i + 1, p, l, hlt, he⟩, by simp only; omega, ?_⟩
      (simp only [NrA.st]; exact Wk.at _ _ _ [(0, 0), (1, 1)] [] [] (by simp) (by simp [wkV, PV.el, PV.weak, PS.get, PS.obj, PS.lv, lkp_hit, lkp_miss, lkp_nil, lko, wkL, wkC, res1, o0, o1, o2]) (by simp [PS.get, PS.obj, PS.lv, lkp_hit, lkp_miss, lkp_nil, lko, wkL, wkC, PV.weak, wkL, wkC, res1, o0, o1, o2]))
    ·obtain ⟨hQ1, hQ2⟩ := hQ
     have hab : k.length = b.length := by simp at g2; omega
     refine PWP.rangeY { n := 50, env := [(26, .fn 79 [.box 3 0, .box 4 0]), (14, .int .i64 i), (13, .int .i64 L.length), (12, .sl 1 (sts L)), (10, .box 2 0), (8, .int .i64 i), (7, .box 1 0), (6, .box 0 0), (5, .int .i64 0), (4, .int .i64 0), (1, .str b)], objs := [(2, some [.int .i64 0]), (0, some [.int .i64 p]), (1, some [.int .i64 l]), (3, some [.str k]), (4, some [.str b])], live := [], nxt := 5 } ?_ 79 [.box 3 0, .box 4 0] rfl Tryz.func79 rfl (by decide) rfl (by decide) ?_
     ·simp only [zipB, upto, List.cons_append, List.nil_append]
      exact Wk.by _ _ _ [(0, 0), (1, 1), (2, 49), (3, 65), (4, 66)] [] [] (by simp) (by simp [wkV, wkL, PV.el, PV.weak, PS.get, PS.obj, PS.lv, lkp_hit, lkp_miss, lkp_nil, lko]) (by simp [PS.get, PS.obj, PS.lv, lkp_hit, lkp_miss, lkp_nil, lko, wkL, wkC, PV.weak]) (by simp) (by rfl) (by rfl) (by simp [lko]) (by simp) (by simp) (by simp) (fun i hi => absurd hi (Nat.not_lt_zero i))
     refine oth (α := NaA k b p l) ⟨by rfl, by rfl, by simp [ycOf]⟩ rfl (fun S pe h => by rcases h.1 with h | h <;> cases h) k b (by omega) hkl 3 4 6 (by simp [ycOf]) (by simp [ycOf]) (by simp [ycOf]) NaA.i (fun x => x.hi) NaA.O (fun _ => []) (fun x => rfl) (fun x => rfl) ⟨0, 0, by omega, by omega, rfl⟩ rfl _ ?_ rfl rfl rfl rfl ?_ ?_ ?_ rfl
     ·intro nx hnx
      (simp only [otS, otE, NaA.O, ycOf, itS]; exact Wk.by _ _ _ [(0, 0), (1, 1), (2, 2), (3, 3), (4, 4), (5, 5)] [] [] (by simp) (by simp [wkV, PV.el, PV.weak, PS.get, PS.obj, PS.lv, lkp_hit, lkp_miss, lkp_nil, lko]) (by simp [PS.get, PS.obj, PS.lv, lkp_hit, lkp_miss, lkp_nil, lko, wkL, wkC, PV.weak]) (by simp) (by rfl) (by rfl) (by simp [lko]) (by simp) (by simp) (by simp) (fun i hi => by have hi' : i < 6 := hi; rcases i with _ | _ | _ | _ | _ | _ | i <;> first | rfl | (exfalso; omega)))
     ·rintro ⟨j, n, hj, hn, hx⟩ nid hjl hne
      simp only at hjl hne
      rw [drop_u8 hjl, drop_u8 (show j < b.length by omega), cntD, if_pos hne] at hx
      have hwn : IntKind.i64.wrap ((n : Int) + 1) = ((n + 1 : Nat) : Int) := by (rw [wrap_i64_id (by omega) (by omega)]; rfl)
      refine RndP.of mixed ⟨by rfl, by rfl, by simp [ycOf]⟩ ?_
      simp only [ycOf, NaA.O, pz]
      simp -implicitDefEqProofs only [push_cast, hwn, seval]
      refine condC_split (fun g3 => ?_) (fun g3 => ?_)
      ·rw [if_pos g3] at hx
       simp -implicitDefEqProofs only [push_cast, seval]
       refine fun env nx hnx => ⟨.inr rfl, hQ1 _ (hQ2 _ _ _ rfl rfl ?_)⟩
       show some [PV.int .i64 ((n : Int) + 1)] = _
       rw [← hx]; rfl
      ·rw [if_neg (by rw [g3]; exact Bool.false_ne_true)] at hx
       simp -implicitDefEqProofs only [push_cast, seval]
       refine ⟨⟨j + 1, n + 1, hjl, by omega, hx⟩, rfl, fun nx hnx => ?_⟩
       (simp only [otS, otE, NaA.O, ycOf, itS]; exact Wk.by _ _ _ [(0, 0), (1, 1), (2, 2), (3, 3), (4, 4), (5, 5)] [] [] (by simp) (by simp [wkV, PV.el, PV.weak, PS.get, PS.obj, PS.lv, lkp_hit, lkp_miss, lkp_nil, lko]) (by simp [PS.get, PS.obj, PS.lv, lkp_hit, lkp_miss, lkp_nil, lko, wkL, wkC, PV.weak]) (by simp) (by rfl) (by rfl) (by simp [lko]) (by simp) (by simp) (by simp) (fun i hi => by have hi' : i < 6 := hi; rcases i with _ | _ | _ | _ | _ | _ | i <;> first | rfl | (exfalso; omega)))
     ·rintro ⟨j, n, hj, hn, hx⟩ hjl hne
      simp only at hjl hne
      rw [drop_u8 hjl, drop_u8 (show j < b.length by omega), cntD, if_neg (by rw [hne]; exact Bool.false_ne_true)] at hx
      refine ⟨⟨j + 1, n, hjl, by omega, hx⟩, rfl, fun nx hnx => ?_⟩
      (simp only [otS, otE, NaA.O, ycOf, itS]; exact Wk.by _ _ _ [(0, 0), (1, 1), (2, 2), (3, 3), (4, 4), (5, 5)] [] [] (by simp) (by simp [wkV, PV.el, PV.weak, PS.get, PS.obj, PS.lv, lkp_hit, lkp_miss, lkp_nil, lko]) (by simp [PS.get, PS.obj, PS.lv, lkp_hit, lkp_miss, lkp_nil, lko, wkL, wkC, PV.weak]) (by simp) (by rfl) (by rfl) (by simp [lko]) (by simp) (by simp) (by simp) (fun i hi => by have hi' : i < 6 := hi; rcases i with _ | _ | _ | _ | _ | _ | i <;> first | rfl | (exfalso; omega)))
     ·rintro ⟨j, n, hj, hn, hx⟩ env nx hjl hnx
      simp only at hjl
      have hR : n = cntD p l k b 0 := by
       rw [← hx, hjl, List.drop_length]
       cases b.drop k.length <;> rfl
      refine ⟨.inl rfl, ?_⟩
      simp -implicitDefEqProofs only [push_cast, ycOf, seval]
      refine hQ2 _ _ _ rfl rfl ?_
      show some [PV.int .i64 ((n : Nat) : Int)] = _
      rw [hR]
  ·have hie : i = L.length := by simp at g1; omega
   subst hie
   rw [List.drop_length] at he
   simp -implicitDefEqProofs only [push_cast, seval]
   refine ⟨by (unfold drawOk; kernel_rfl), ?_⟩
   rw [nearL] at he
   rw [← he]
   all_goals (first | done | rfl | exact ⟨_, rfl, by simp [wkL, res2, res1, PV.weak, PV.el]⟩ | (simp [wkL, res2, res1, PV.weak, PV.el]; done))
end Go.Proofs.Sh
set_option maxRecDepth 100000
set_option linter.unusedSimpArgs false
set_option linter.unusedVariables false
namespace Go.Proofs.Sh
open Go.Pv
theorem isByte_wrap (x : Int) : isByte (PV.int .u8 (IntKind.u8.wrap x)) = true := by
 simp [isByte, IntKind.wrap, IntKind.signed, IntKind.bits, IntKind.max, IntKind.min]
theorem nearL_at (b : Bys) : ∀ (L : List Bys) (i : Nat) (p l : Int) (M : List Bys), (∀ (j : Nat) (x : Bys), L[j]? = some x → M[i + j]? = some x) → (p = -1 ∨ ∃ j : Nat, p = (j : Int) ∧ ∃ x, M[j]? = some x ∧ x.length = b.length) →
 ((nearL b L i p l).1 = -1 ∨ ∃ j : Nat, (nearL b L i p l).1 = (j : Int) ∧ ∃ x, M[j]? = some x ∧ x.length = b.length)
 | [], i, p, l, M, hM, h => h
 | k :: ks, i, p, l, M, hM, h => by
  have hM' : ∀ (j : Nat) (x : Bys), ks[j]? = some x → M[i + 1 + j]? = some x := fun j x hx => by rw [show i + 1 + j = i + (j + 1) by omega]; exact hM (j + 1) x (by simpa using hx)
  unfold nearL
  split
  ·exact nearL_at b ks (i + 1) p l M hM' h
  ·rename_i hne
   split
   ·refine nearL_at b ks (i + 1) _ _ M hM' (.inr ⟨i, rfl, k, by simpa using hM 0 k rfl, ?_⟩)
    simp at hne; omega
   ·exact nearL_at b ks (i + 1) p l M hM' h
def u8w (x : Int) : UInt8 := UInt8.ofNat (IntKind.u8.wrap x).toNat
def chgP : Bys → Bys → Nat → List PV
 | x :: a, y :: b, i => (if (x != y) = true then [.int .u8 (IntKind.u8.wrap ((i : Int).fdiv 256)), .int .u8 (IntKind.u8.wrap (i : Int)), .int .u8 (y.toNat : Int)] else []) ++ chgP a b (i + 1)
 | _, _, _ => []
def Cc.sh (c : Cc) (b : Bys) : Bys :=
 if decide (0 ≤ ixS b c.k 0) = true then [1, u8w (ixS b c.k 0)]
 else if (decide (0 ≤ (nearL b c.k 0 (-1) 0).1) && decide (IntKind.i64.wrap (2 + IntKind.i64.wrap (3 * (nearL b c.k 0 (-1) 0).2)) < IntKind.i64.wrap (1 + (b.length : Int)))) = true then
  [2, u8w (nearL b c.k 0 (-1) 0).1] ++ (chgP (c.k.getD (nearL b c.k 0 (-1) 0).1.toNat []) b 0).map Pv.byteOf
 else 0 :: b
structure PcA (X0 : List PV) (x b : Bys) where
 i : Nat
 X : List PV
 hi : i ≤ x.length
 hX : X.length ≤ 2 + 3 * i
 hb : X.all isByte = true
 e : X ++ chgP (x.drop i) (b.drop i) i = X0 ++ chgP x b 0
def PcA.O {X0 : List PV} {x b : Bys} (m2 : Nat) (L2 : List Bys) (a : PcA X0 x b) : List (Nat × Option (List PV)) := [(2, some [.slt 1 a.X 5]), (1, some [.int .i64 m2, .sl 1 (sts L2)]), (0, some [.int .i64 0, .nilsl]), (3, some [.str x]), (4, some [.str b])]
set_option maxHeartbeats 4000000 in
theorem cput_fs (c : Cc) (b : Bys) (hm0 : 1 ≤ c.m) (hm : c.m ≤ 64) (hk : c.k.length ≤ 1000) (hkb : ∀ x ∈ c.k, x.length ≤ 1000000) (hb : b.length ≤ 65536) : Fsp Tryz.prog 22 [] 0 [c.pv, .str b] [] 0 (.tup [(c.put b).pv, .str (c.sh b), .int .i64 0]) := by
 have hW := with_fs c b hm hk
 have hI := index_fs c.k (by omega) b
 have hN := nearest_fs c b hk hkb (by omega)
 have hix := ixS_lt b c.k 0
 have hnx := nearL_at b c.k 0 (-1) 0 c.k (fun j x hx => by rwa [Nat.zero_add]) (.inl rfl)
 generalize hR : c.sh b = R
 rw [Cc.sh] at hR
 generalize c.put b = c2 at *
 obtain ⟨m2, L2⟩ := c2
 obtain ⟨m, L⟩ := c
 simp only [Cc.pv] at *
 have h0 : ((m : Int) == 0) = false := by simp; omega
 have h1 : decide ((65536 : Int) < (b.length : Int)) = false := by simp; omega
 (refine Fsp.ofs (nx := 0) mixed Tryz.func22 rfl (by simp [Tryz.f22]) ?_; simp -implicitDefEqProofs only [push_cast, Tryz.f22, Int.reduceBEq, Int.reduceBNe, Int.reduceEq, Int.reduceNe, Int.reducePow, Nat.reduceAdd, Nat.reduceMul, Nat.reduceSub, Nat.reduceLT, Nat.reduceLeDiff, Nat.reduceEqDiff, Nat.reduceBEq, Int.reduceLT, Int.reduceLE, Int.reduceAdd, Int.reduceSub, Int.reduceMul, Int.reduceToNat, Int.reduceNeg, reduceIte, reduceCtorEq, reduceBEq])
 simp -implicitDefEqProofs only [push_cast, h0, h1, Int.reduceBEq, Int.reduceBNe, Int.reduceEq, Int.reduceNe, Int.reducePow, Nat.reduceAdd, Nat.reduceMul, Nat.reduceSub, Nat.reduceLT, Nat.reduceLeDiff, Nat.reduceEqDiff, Nat.reduceBEq, Int.reduceLT, Int.reduceLE, Int.reduceAdd, Int.reduceSub, Int.reduceMul, Int.reduceToNat, Int.reduceNeg, reduceIte, reduceCtorEq, reduceBEq]
 refine callE_p hW ?_
 simp -implicitDefEqProofs only [push_cast, Int.reduceBEq, Int.reduceBNe, Int.reduceEq, Int.reduceNe, Int.reducePow, Nat.reduceAdd, Nat.reduceMul, Nat.reduceSub, Nat.reduceLT, Nat.reduceLeDiff, Nat.reduceEqDiff, Nat.reduceBEq, Int.reduceLT, Int.reduceLE, Int.reduceAdd, Int.reduceSub, Int.reduceMul, Int.reduceToNat, Int.reduceNeg, reduceIte, reduceCtorEq, reduceBEq]
 refine callE_p hI ?_
 simp -implicitDefEqProofs only [push_cast, Int.reduceBEq, Int.reduceBNe, Int.reduceEq, Int.reduceNe, Int.reducePow, Nat.reduceAdd, Nat.reduceMul, Nat.reduceSub, Nat.reduceLT, Nat.reduceLeDiff, Nat.reduceEqDiff, Nat.reduceBEq, Int.reduceLT, Int.reduceLE, Int.reduceAdd, Int.reduceSub, Int.reduceMul, Int.reduceToNat, Int.reduceNeg, reduceIte, reduceCtorEq, reduceBEq]
 refine condC_split (fun g1 => ?_) (fun g1 => ?_)
 ·rcases hix with h | ⟨j, hj, -, hj2⟩
  ·rw [h] at g1; exact absurd g1 (by decide)
  rw [if_pos g1] at hR
  have hib := isByte_wrap (ixS b L 0)
  simp -implicitDefEqProofs only [push_cast, hib, Int.reduceBEq, Int.reduceBNe, Int.reduceEq, Int.reduceNe, Int.reducePow, Nat.reduceAdd, Nat.reduceMul, Nat.reduceSub, Nat.reduceLT, Nat.reduceLeDiff, Nat.reduceEqDiff, Nat.reduceBEq, Int.reduceLT, Int.reduceLE, Int.reduceAdd, Int.reduceSub, Int.reduceMul, Int.reduceToNat, Int.reduceNeg, reduceIte, reduceCtorEq, reduceBEq]
  (repeat (first | refine ⟨(by omega : _ ≤ _), ?_⟩ | refine ⟨(by omega : _ < _), ?_⟩ | refine ⟨(by simp only [sts_length, List.length_append, List.length_take, List.length_drop, List.length_cons, List.length_nil]; omega), ?_⟩ | refine ⟨(by simp [sts_length]; omega), ?_⟩ | refine ⟨(by simp [sts_length]), ?_⟩ | refine ⟨(by (unfold drawOk; kernel_rfl)), ?_⟩))
  rw [← hR, u8w]
  all_goals (first | done | rfl | exact ⟨_, rfl, by simp [wkL, res2, res1, PV.weak, PV.el]⟩ | (simp [wkL, res2, res1, PV.weak, PV.el]; done))
 ·rw [if_neg (by rw [g1]; exact Bool.false_ne_true)] at hR
  generalize (nearL b L 0 (-1) 0).1 = pp at *
  generalize (nearL b L 0 (-1) 0).2 = nn at *
  simp -implicitDefEqProofs only [push_cast, Int.reduceBEq, Int.reduceBNe, Int.reduceEq, Int.reduceNe, Int.reducePow, Nat.reduceAdd, Nat.reduceMul, Nat.reduceSub, Nat.reduceLT, Nat.reduceLeDiff, Nat.reduceEqDiff, Nat.reduceBEq, Int.reduceLT, Int.reduceLE, Int.reduceAdd, Int.reduceSub, Int.reduceMul, Int.reduceToNat, Int.reduceNeg, reduceIte, reduceCtorEq, reduceBEq]
  refine callE_p hN ?_
  simp -implicitDefEqProofs only [push_cast, Int.reduceBEq, Int.reduceBNe, Int.reduceEq, Int.reduceNe, Int.reducePow, Nat.reduceAdd, Nat.reduceMul, Nat.reduceSub, Nat.reduceLT, Nat.reduceLeDiff, Nat.reduceEqDiff, Nat.reduceBEq, Int.reduceLT, Int.reduceLE, Int.reduceAdd, Int.reduceSub, Int.reduceMul, Int.reduceToNat, Int.reduceNeg, reduceIte, reduceCtorEq, reduceBEq]
  refine condC_split (fun g2 => ?_) (fun g2 => ?_)
  ·rw [if_pos g2] at hR
   rw [Bool.and_eq_true] at g2
   rcases hnx with rfl | ⟨j, rfl, x, hx1, hx2⟩
   ·exact absurd g2.1 (by decide)
   have hjl : j < L.length := (List.getElem?_eq_some_iff.1 hx1).1
   have hib := isByte_wrap (j : Int)
   have hg := sts_at hjl
   have hxe : L.getD j [] = x := by rw [List.getD_eq_getElem?_getD, hx1]; rfl
   rw [Int.toNat_natCast, hxe] at hR
   rw [hxe] at hg
   simp -implicitDefEqProofs only [push_cast, hg, sts_length, Int.reduceBEq, Int.reduceBNe, Int.reduceEq, Int.reduceNe, Int.reducePow, Nat.reduceAdd, Nat.reduceMul, Nat.reduceSub, Nat.reduceLT, Nat.reduceLeDiff, Nat.reduceEqDiff, Nat.reduceBEq, Int.reduceLT, Int.reduceLE, Int.reduceAdd, Int.reduceSub, Int.reduceMul, Int.reduceToNat, Int.reduceNeg, reduceIte, reduceCtorEq, reduceBEq]
   (repeat (first | refine ⟨(by omega : _ ≤ _), ?_⟩ | refine ⟨(by omega : _ < _), ?_⟩ | refine ⟨(by simp only [sts_length, List.length_append, List.length_take, List.length_drop, List.length_cons, List.length_nil]; omega), ?_⟩ | refine ⟨(by simp [sts_length]; omega), ?_⟩ | refine ⟨(by simp [sts_length]), ?_⟩ | refine ⟨(by (unfold drawOk; kernel_rfl)), ?_⟩))
   refine callE_bx (others_fs x b) [] [] ?_
   simp -implicitDefEqProofs only [push_cast, hg, sts_length, Int.reduceBEq, Int.reduceBNe, Int.reduceEq, Int.reduceNe, Int.reducePow, Nat.reduceAdd, Nat.reduceMul, Nat.reduceSub, Nat.reduceLT, Nat.reduceLeDiff, Nat.reduceEqDiff, Nat.reduceBEq, Int.reduceLT, Int.reduceLE, Int.reduceAdd, Int.reduceSub, Int.reduceMul, Int.reduceToNat, Int.reduceNeg, reduceIte, reduceCtorEq, reduceBEq]
   generalize hX0 : [PV.int IntKind.u8 2, PV.int IntKind.u8 (IntKind.u8.wrap (j : Int))] = X0
   have hX1 : X0.length = 2 := by rw [← hX0]; rfl
   have hX2 : X0.all isByte = true := by rw [← hX0]; simp only [List.all_cons, hib, List.all_nil]; rfl
   have hX3 : X0.map Pv.byteOf = [2, u8w (j : Int)] := by rw [← hX0]; rfl
   have hxl : x.length ≤ 1000000 := hkb x (List.mem_of_getElem? hx1)
   refine PWP.named (fun Q => ∀ objs live nx, lkp none objs 0 = some [.int .i64 0, .nilsl] → lkp none objs 1 = some [.int .i64 m2, .sl 1 (sts L2)] → (∃ X k, lkp none objs 2 = some [.slt 1 X k] ∧ X = X0 ++ chgP x b 0 ∧ X.all isByte = true) → Q .normal { n := 82, env := [(62, .any), (11, .box 2 0), (7, .box 1 0), (4, .box 0 0)], objs := objs, live := live, nxt := nx }) ?_ (fun Q hQ => ?_)
   ·rintro objs live nx o0 o1 ⟨X, k, o2, o3, o4⟩
    simp -implicitDefEqProofs only [push_cast, o0, o1, o2, o4, Int.reduceBEq, Int.reduceBNe, Int.reduceEq, Int.reduceNe, Int.reducePow, Nat.reduceAdd, Nat.reduceMul, Nat.reduceSub, Nat.reduceLT, Nat.reduceLeDiff, Nat.reduceEqDiff, Nat.reduceBEq, Int.reduceLT, Int.reduceLE, Int.reduceAdd, Int.reduceSub, Int.reduceMul, Int.reduceToNat, Int.reduceNeg, reduceIte, reduceCtorEq, reduceBEq]
    (repeat (first | refine ⟨(by omega : _ ≤ _), ?_⟩ | refine ⟨(by omega : _ < _), ?_⟩ | refine ⟨(by simp only [sts_length, List.length_append, List.length_take, List.length_drop, List.length_cons, List.length_nil]; omega), ?_⟩ | refine ⟨(by simp [sts_length]; omega), ?_⟩ | refine ⟨(by simp [sts_length]), ?_⟩ | refine ⟨(by (unfold drawOk; kernel_rfl)), ?_⟩))
    rw [← hR, ← hX3, ← List.map_append, ← o3]
    all_goals (first | done | rfl | exact ⟨_, rfl, by simp [wkL, res2, res1, PV.weak, PV.el]⟩ | (simp [wkL, res2, res1, PV.weak, PV.el]; done))
   ·refine PWP.rangeY { n := 82, env := [(62, .fn 79 [.box 3 0, .box 4 0]), (11, .box 2 0), (7, .box 1 0), (4, .box 0 0)], objs := [(2, some [.slt 1 X0 5]), (1, some [.int .i64 m2, .sl 1 (sts L2)]), (0, some [.int .i64 0, .nilsl]), (3, some [.str x]), (4, some [.str b])], live := [(5, true)], nxt := 6 } ?_ 79 [.box 3 0, .box 4 0] rfl Tryz.func79 rfl (by decide) rfl (by decide) ?_
    ·simp only [zipB, upto, List.cons_append, List.nil_append]
     exact Wk.by _ _ _ [(0, 4), (1, 52), (2, 176), (3, 208), (4, 209)] [(5, 172)] [] (by simp) (by simp [wkV, wkL, PV.el, PV.weak, PS.get, PS.obj, PS.lv, lkp_hit, lkp_miss, lkp_nil, lko]) (by simp [PS.get, PS.obj, PS.lv, lkp_hit, lkp_miss, lkp_nil, lko, wkL, wkC, PV.weak]) (by simp [PS.lv, lkp_hit, lko]) (by rfl) (by rfl) (by simp [lko]) (by simp) (by simp) (by simp) (fun i hi => absurd hi (Nat.not_lt_zero i))
    refine oth (α := PcA X0 x b) ⟨by rfl, by rfl, by simp [ycOf]⟩ rfl (fun S pe h => by rcases h.1 with h | h <;> cases h) x b (by omega) hxl 3 4 7 (by simp [ycOf]) (by simp [ycOf]) (by simp [ycOf]) PcA.i (fun a => a.hi) (PcA.O m2 L2) (fun _ => [(5, true)]) (fun a => rfl) (fun a => rfl) ⟨0, X0, by omega, by omega, hX2, rfl⟩ rfl _ ?_ rfl rfl rfl rfl ?_ ?_ ?_ rfl
    ·intro nx hnx
     (simp only [otS, otE, PcA.O, ycOf, itS]; exact Wk.by _ _ _ [(0, 0), (1, 1), (2, 2), (3, 3), (4, 4), (5, 5), (6, 6)] [(5, 5)] [] (by simp) (by simp [wkV, PV.el, PV.weak, PS.get, PS.obj, PS.lv, lkp_hit, lkp_miss, lkp_nil, lko]) (by simp [PS.get, PS.obj, PS.lv, lkp_hit, lkp_miss, lkp_nil, lko, wkL, wkC, PV.weak]) (by simp [PS.lv, lkp_hit, lko]) (by rfl) (by rfl) (by simp [lko]) (by simp) (by simp) (by simp) (fun i hi => by have hi' : i < 7 := hi; rcases i with _ | _ | _ | _ | _ | _ | _ | i <;> first | rfl | (exfalso; omega)))
    ·rintro ⟨q, X, hq, hl, hba, hx⟩ nid hql hne
     simp only at hql hne
     rw [drop_u8 hql, drop_u8 (show q < b.length by omega), chgP, if_pos hne] at hx
     refine RndP.of mixed ⟨by rfl, by rfl, by simp [ycOf]⟩ ?_
     simp only [ycOf, PcA.O, pz]
     simp -implicitDefEqProofs only [push_cast, Int.reduceBEq, Int.reduceBNe, Int.reduceEq, Int.reduceNe, Int.reducePow, Nat.reduceAdd, Nat.reduceMul, Nat.reduceSub, Nat.reduceLT, Nat.reduceLeDiff, Nat.reduceEqDiff, Nat.reduceBEq, Int.reduceLT, Int.reduceLE, Int.reduceAdd, Int.reduceSub, Int.reduceMul, Int.reduceToNat, Int.reduceNeg, reduceIte, reduceCtorEq, reduceBEq]
     (repeat (first | refine ⟨(by omega : _ ≤ _), ?_⟩ | refine ⟨(by omega : _ < _), ?_⟩ | refine ⟨(by simp only [sts_length, List.length_append, List.length_take, List.length_drop, List.length_cons, List.length_nil]; omega), ?_⟩ | refine ⟨(by simp [sts_length]; omega), ?_⟩ | refine ⟨(by simp [sts_length]), ?_⟩ | refine ⟨(by (unfold drawOk; kernel_rfl)), ?_⟩))
     refine ⟨by simp [lkp], by omega, by omega, ⟨q + 1, _, hql, ?_, ?_, by rw [← hx, ← List.append_assoc]⟩, rfl, fun nx hnx => ?_⟩
     ·simp only [List.length_append, List.length_cons, List.length_nil]; omega
     ·rw [List.all_append, hba, Bool.true_and]
      simp only [List.all_cons, isByte_wrap, List.all_nil, Bool.true_and, Bool.and_true]
      have := (b.getD q 0).toNat_lt
      simp only [isByte, Bool.and_eq_true, decide_eq_true_eq]
     ·(simp only [otS, otE, PcA.O, ycOf, itS]; exact Wk.by _ _ _ [(0, 0), (1, 1), (2, 2), (3, 3), (4, 4), (5, 5), (6, 6)] [(5, nid + 4 + 4 + 32)] [] (by simp) (by simp [wkV, PV.el, PV.weak, PS.get, PS.obj, PS.lv, lkp_hit, lkp_miss, lkp_nil, lko]) (by simp [PS.get, PS.obj, PS.lv, lkp_hit, lkp_miss, lkp_nil, lko, wkL, wkC, PV.weak]) (by simp [PS.lv, lkp_hit, lko]) (by rfl) (by rfl) (by simp [lko]) (by simp) (by simp) (by simp) (fun i hi => by have hi' : i < 7 := hi; rcases i with _ | _ | _ | _ | _ | _ | _ | i <;> first | rfl | (exfalso; omega)))
    ·rintro ⟨q, X, hq, hl, hba, hx⟩ hql hne
     simp only at hql hne
     rw [drop_u8 hql, drop_u8 (show q < b.length by omega), chgP, if_neg (by rw [hne]; exact Bool.false_ne_true), List.nil_append] at hx
     refine ⟨⟨q + 1, X, hql, by omega, hba, hx⟩, rfl, fun nx hnx => ?_⟩
     (simp only [otS, otE, PcA.O, ycOf, itS]; exact Wk.by _ _ _ [(0, 0), (1, 1), (2, 2), (3, 3), (4, 4), (5, 5), (6, 6)] [(5, 5)] [] (by simp) (by simp [wkV, PV.el, PV.weak, PS.get, PS.obj, PS.lv, lkp_hit, lkp_miss, lkp_nil, lko]) (by simp [PS.get, PS.obj, PS.lv, lkp_hit, lkp_miss, lkp_nil, lko, wkL, wkC, PV.weak]) (by simp [PS.lv, lkp_hit, lko]) (by rfl) (by rfl) (by simp [lko]) (by simp) (by simp) (by simp) (fun i hi => by have hi' : i < 7 := hi; rcases i with _ | _ | _ | _ | _ | _ | _ | i <;> first | rfl | (exfalso; omega)))
    ·rintro ⟨q, X, hq, hl, hba, hx⟩ env nx hql hnx
     simp only at hql
     have hR2 : X = X0 ++ chgP x b 0 := by
      rw [← hx, hql, List.drop_length]
      cases b.drop x.length <;> simp [chgP]
     refine ⟨.inl rfl, ?_⟩
     exact hQ _ _ _ rfl rfl ⟨X, 5, rfl, hR2, hba⟩
  ·rw [if_neg (by rw [g2]; exact Bool.false_ne_true)] at hR
   simp -implicitDefEqProofs only [push_cast, Int.reduceBEq, Int.reduceBNe, Int.reduceEq, Int.reduceNe, Int.reducePow, Nat.reduceAdd, Nat.reduceMul, Nat.reduceSub, Nat.reduceLT, Nat.reduceLeDiff, Nat.reduceEqDiff, Nat.reduceBEq, Int.reduceLT, Int.reduceLE, Int.reduceAdd, Int.reduceSub, Int.reduceMul, Int.reduceToNat, Int.reduceNeg, reduceIte, reduceCtorEq, reduceBEq]
   (repeat (first | refine ⟨(by omega : _ ≤ _), ?_⟩ | refine ⟨(by omega : _ < _), ?_⟩ | refine ⟨(by simp only [sts_length, List.length_append, List.length_take, List.length_drop, List.length_cons, List.length_nil]; omega), ?_⟩ | refine ⟨(by simp [sts_length]; omega), ?_⟩ | refine ⟨(by simp [sts_length]), ?_⟩ | refine ⟨(by (unfold drawOk; kernel_rfl)), ?_⟩))
   rw [← hR]
   all_goals (first | done | rfl | exact ⟨_, rfl, by simp [wkL, res2, res1, PV.weak, PV.el]⟩ | (simp [wkL, res2, res1, PV.weak, PV.el]; done))
end Go.Proofs.Sh
