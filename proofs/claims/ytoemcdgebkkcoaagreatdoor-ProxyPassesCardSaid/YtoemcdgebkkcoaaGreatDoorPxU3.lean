/- Packets come over, some of them lost, or twice. -/
import Derived.Test.YtoemcdgebkkcoaaGreatDoorPvYa
import Derived.Test.YtoemcdgebkkcoaaGreatDoorPxQ7
set_option maxRecDepth 100000
set_option linter.unusedSimpArgs false
set_option linter.unusedVariables false
namespace Go.Proofs.Sh
open Go.Pv
open Lk (En Pc)
def lostB (lost k : Nat) : Bool := (bitsI .and .u16 ((lost : Int).fdiv (2 ^ (k % 16))) 1) == 1
def ovK (two : Bool) (n i : Nat) : Nat := if two = true then n - 1 - i else i
def pssL (lost : Nat) (two : Bool) (l : List Bys) : Nat → Nat → List Bys
 | 0, _ => []
 | f + 1, i => (if lostB lost (ovK two l.length i) = true then [] else [l.getD (ovK two l.length i) []]) ++ pssL lost two l f (i + 1)
def reps : Nat → List Bys → List Bys
 | 0, _ => []
 | n + 1, p => p ++ reps n p
def ovL (d lost : Nat) (l : List Bys) : List Bys := reps (if 4 ≤ d % 8 then 2 else 1) (pssL lost (decide (4 ≤ d % 8)) l l.length 0)
theorem tks_app (b : Hf) (l m : List Bys) : b.tks (l ++ m) = (b.tks l).tks m := List.foldl_append
theorem ovK_lt {two : Bool} {n i : Nat} (h : i < n) : ovK two n i < n := by unfold ovK; split <;> omega
theorem pssL_mem (lost : Nat) (two : Bool) (l : List Bys) : ∀ (f i : Nat), i + f ≤ l.length → ∀ p ∈ pssL lost two l f i, p ∈ l
 | 0, i, _, p, hp => by cases hp
 | f + 1, i, h, p, hp => by
  rw [pssL] at hp
  rcases List.mem_append.1 hp with hp | hp
  ·split at hp
   ·cases hp
   ·rw [List.mem_singleton] at hp
    rw [hp]
    exact mem_getD (ovK_lt (by omega))
  ·exact pssL_mem lost two l f (i + 1) (by omega) p hp
theorem reps_mem {p : List Bys} : ∀ (n : Nat) {x : Bys}, x ∈ reps n p → x ∈ p
 | 0, x, h => by cases h
 | n + 1, x, h => by
  rcases List.mem_append.1 h with h | h
  ·exact h
  ·exact reps_mem n h
theorem ovL_mem (d lost : Nat) (l : List Bys) : ∀ p ∈ ovL d lost l, p ∈ l := fun p hp => pssL_mem lost _ l l.length 0 (by omega) p (reps_mem _ hp)
structure OwA (B : Hf) (n : Nat) (p : List Bys) (i0 : Nat) where
 j : Nat
 b : Hf
 hj : j ≤ n
 hb : b.C (i0 + 17 * j)
 e : b.tks (reps (n - j) p) = B
def OwA.O (d lost ka kb : Nat) (a b : Hf) : List (Nat × Option (List PV)) := [(0, some [.int .u8 (d : Int), .int .u16 (lost : Int)]), (1, some (a.cf ka)), (2, some (b.cf kb)), (3, some hzG), (4, some hzG)]
def OwA.st (d lost ka kb : Nat) (a : Hf) (l : List Bys) {B : Hf} {n : Nat} {p : List Bys} {i0 : Nat} (s : OwA B n p i0) : PS := { n := 62, env := [(24, .int .i64 s.j), (23, .int .i64 n), (9, .int .i64 n), (8, .sl 1 (sts l)), (7, .box 4 0), (6, .box 3 0), (5, .box 2 0), (4, .box 1 0), (3, .box 0 0)], objs := OwA.O d lost ka kb a s.b, live := [], nxt := 6 }
structure OxA (B : Hf) (lost : Nat) (two : Bool) (l : List Bys) (i0 : Nat) where
 i : Nat
 b : Hf
 hi : i ≤ l.length
 hb : b.C (i0 + i)
 e : b.tks (pssL lost two l (l.length - i) i) = B
def OxA.st (d ka kb : Nat) (a : Hf) (n j : Nat) {B : Hf} {lost : Nat} {two : Bool} {l : List Bys} {i0 : Nat} (s : OxA B lost two l i0) : PS := { n := 62, env := [(28, .int .i64 s.i), (27, .int .i64 l.length), (24, .int .i64 j), (23, .int .i64 n), (9, .int .i64 n), (8, .sl 1 (sts l)), (7, .box 4 0), (6, .box 3 0), (5, .box 2 0), (4, .box 1 0), (3, .box 0 0)], objs := OwA.O d lost ka kb a s.b, live := [], nxt := 6 }
set_option maxHeartbeats 4000000 in
theorem over_fs (d lost : Nat) (hd : d < 256) (hlo : lost < 65536) (ka kb : Nat) (a b : Hf) (i0 : Nat) (ha : a.C i0) (hb : b.C i0) (hi : i0 ≤ 9000) : Fsp Tryz.prog 54 [] 0 [.agg [.int .u8 (d : Int), .int .u16 (lost : Int)], .agg (a.cf ka), .agg (b.cf kb)] [] 0 (.tup [.agg (a.du.cf ka), .agg ((b.tks (ovL d lost a.e.dueP)).cf kb)]) := by
 have hDa : Fsp Tryz.prog 25 [] 0 [.agg (a.cf ka)] [] 0 (.tup [.agg (a.du.cf ka), .sl 1 (sts a.e.dueP)]) := fdue_fs ka a (by have := ha.e.bd.w; omega) (fun q hq => by have := ha.e.bd.wb q hq; omega)
 have hPa := ha.e.dueP
 have hd8 : Int.tmod (d : Int) 8 = ((d % 8 : Nat) : Int) := by rw [Int.tmod_eq_emod_of_nonneg (by omega)]; rfl
 generalize hR : b.tks (ovL d lost a.e.dueP) = R
 unfold ovL at hR
 generalize a.e.dueP = l at *
 generalize a.du = a1 at *
 (refine Fsp.ofs (nx := 0) mixed Tryz.func54 rfl (by simp [Tryz.f54]) ?_; simp -implicitDefEqProofs only [push_cast, Tryz.f54, cf_len, cf_take, cf_back, cf_drop, List.append_nil, seval])
 refine callE_p hDa ?_
 simp -implicitDefEqProofs only [push_cast, cf_len, cf_take, cf_back, cf_drop, List.append_nil, hd8, seval]
 refine condC_split (fun g1 => ?_) (fun g1 => ?_)
 ·have h4 : 4 ≤ d % 8 := by simp at g1; omega
  rw [if_pos h4, decide_eq_true h4] at hR
  simp -implicitDefEqProofs only [push_cast, cf_len, cf_take, cf_back, cf_drop, List.append_nil, seval]
  refine loopC_of (α := OwA R 2 (pssL lost true l l.length 0) i0) (OwA.st d lost ka kb a1 l) (fun s => 2 - s.j) ⟨0, b, by omega, hb, hR⟩ ?_ ?_
  ·(simp only [OwA.st, OwA.O]; exact Wk.at _ _ _ [(0, 0), (1, 4), (2, 8), (3, 12), (4, 16)] [] [] (by simp) (by simp [wkV, PV.el, PV.weak, PS.get, PS.obj, PS.lv, lkp_hit, lkp_miss, lkp_nil, lko, wkL, wkC, res1, OwA.O, cf_wk, hzG_wk, hzG]) (by simp [PS.get, PS.obj, PS.lv, lkp_hit, lkp_miss, lkp_nil, lko, wkL, wkC, PV.weak, wkL, wkC, res1, OwA.O, cf_wk, hzG_wk, hzG]))
  clear hR
  rintro ⟨j, b, hj, hb, he⟩
  simp only [OwA.st, OwA.O]
  simp -implicitDefEqProofs only [push_cast, sts_length, seval]
  refine condC_split (fun g2 => ?_) (fun g2 => ?_)
  ·have hj2 : j < 2 := by simp at g2; omega
   have hwj : IntKind.i64.wrap ((j : Int) + 1) = ((j + 1 : Nat) : Int) := by (rw [wrap_i64_id (by omega) (by omega)]; rfl)
   rw [show 2 - j = (2 - (j + 1)) + 1 by omega, reps, tks_app] at he
   generalize hB : b.tks (pssL lost true l l.length 0) = B at he
   simp -implicitDefEqProofs only [push_cast, sts_length, seval]
   (repeat refine and_o ?_)
   refine loopC_of (α := OxA B lost true l (i0 + 17 * j)) (OxA.st d ka kb a1 2 j) (fun s => l.length - s.i) ⟨0, b, by omega, hb, by rw [Nat.sub_zero]; exact hB⟩ ?_ ?_
   ·(simp only [OxA.st, OwA.O]; exact Wk.at _ _ _ [(0, 0), (1, 1), (2, 2), (3, 3), (4, 4)] [] [] (by simp) (by simp [wkV, PV.el, PV.weak, PS.get, PS.obj, PS.lv, lkp_hit, lkp_miss, lkp_nil, lko, wkL, wkC, res1, OwA.O, cf_wk, hzG_wk]) (by simp [PS.get, PS.obj, PS.lv, lkp_hit, lkp_miss, lkp_nil, lko, wkL, wkC, PV.weak, wkL, wkC, res1, OwA.O, cf_wk, hzG_wk]))
   clear hB
   rintro ⟨i, b, hil, hb, he3⟩
   simp only [OxA.st, OwA.O]
   simp -implicitDefEqProofs only [push_cast, sts_length, seval]
   refine condC_split (fun g3 => ?_) (fun g3 => ?_)
   ·have hlt : i < l.length := by simp at g3; omega
    have hwi : IntKind.i64.wrap ((i : Int) + 1) = ((i + 1 : Nat) : Int) := by (rw [wrap_i64_id (by omega) (by omega)]; rfl)
    rw [show l.length - i = (l.length - (i + 1)) + 1 by omega, pssL, tks_app] at he3
    have hpl0 := hPa.1
    obtain ⟨k, hkk⟩ : ∃ k, k = l.length - 1 - i := ⟨_, rfl⟩
    have hk : IntKind.i64.wrap (IntKind.i64.wrap ((l.length : Int) - 1) - (i : Int)) = (k : Int) := by rw [wrap_i64_id (n := (l.length : Int) - 1) (by omega) (by omega), wrap_i64_id (by omega) (by omega)]; omega
    have hkl : k < l.length := by omega
    have hkv : ovK true l.length i = k := by rw [hkk]; rfl
    rw [hkv] at he3
    have hgt := sts_at hkl
    have hpl := hPa.2 _ (mem_getD hkl)
    have hG := hb.fs kb (by omega) hpl
    have hb2 := hb.tk hpl
    have hm16 : Int.tmod (k : Int) 16 = ((k % 16 : Nat) : Int) := by rw [Int.tmod_eq_emod_of_nonneg (by omega)]; rfl
    have hif : (if k % 16 ≤ 16 then k % 16 else 16) = k % 16 := if_pos (by omega)
    unfold Hf.tk at hb2
    unfold lostB at he3
    generalize k % 16 = m at *
    cases c5 : (bitsI .and .u16 ((lost : Int).fdiv (2 ^ m)) 1 == 1) with
    | true =>
     rw [if_pos c5] at he3
     simp -implicitDefEqProofs only [push_cast, hk, hm16, hif, c5, cf_len, cf_take, cf_back, cf_drop, List.append_nil, sts_length, seval]
     (repeat refine and_o ?_)
     simp -implicitDefEqProofs only [push_cast, hwi, cf_len, cf_take, cf_back, cf_drop, List.append_nil, c5, seval]
     refine ⟨⟨i + 1, b, hlt, hb.up (by omega), he3⟩, by simp only; omega, ?_⟩
     (simp only [OxA.st, OwA.O]; exact Wk.at _ _ _ [(0, 0), (1, 1), (2, 2), (3, 3), (4, 4)] [] [] (by simp) (by simp [wkV, PV.el, PV.weak, PS.get, PS.obj, PS.lv, lkp_hit, lkp_miss, lkp_nil, lko, wkL, wkC, res1, OwA.O, cf_wk, hzG_wk]) (by simp [PS.get, PS.obj, PS.lv, lkp_hit, lkp_miss, lkp_nil, lko, wkL, wkC, PV.weak, wkL, wkC, res1, OwA.O, cf_wk, hzG_wk]))
    | false =>
     rw [if_neg (by rw [c5]; decide)] at he3
     have he3' : (b.tk (l.getD k [])).tks (pssL lost true l (l.length - (i + 1)) (i + 1)) = B := he3
     clear he3
     unfold Hf.tk at he3'
     generalize l.getD k [] = p at *
     generalize b.got p = G at *
     obtain ⟨b3, g⟩ := G
     simp only at he3' hb2 hG
     simp -implicitDefEqProofs only [push_cast, hk, hm16, hif, c5, hgt, cf_len, cf_take, cf_back, cf_drop, List.append_nil, sts_length, seval]
     (repeat refine and_o ?_)
     refine callE_p hG ?_
     simp -implicitDefEqProofs only [push_cast, cf_len, cf_take, cf_back, cf_drop, List.append_nil, seval]
     (repeat refine and_o ?_)
     cases c : (g == 0) with
     | true =>
      have hg0 : g = 0 := by simpa using c
      rw [if_pos hg0] at he3' hb2
      simp -implicitDefEqProofs only [push_cast, c, hwi, cf_len, cf_take, cf_back, cf_drop, List.append_nil, seval]
      refine ⟨⟨i + 1, b3, hlt, hb2, he3'⟩, by simp only; omega, ?_⟩
      (simp only [OxA.st, OwA.O]; exact Wk.at _ _ _ [(0, 0), (1, 1), (2, 2), (3, 3), (4, 4)] [] [] (by simp) (by simp [wkV, PV.el, PV.weak, PS.get, PS.obj, PS.lv, lkp_hit, lkp_miss, lkp_nil, lko, wkL, wkC, res1, OwA.O, cf_wk, hzG_wk]) (by simp [PS.get, PS.obj, PS.lv, lkp_hit, lkp_miss, lkp_nil, lko, wkL, wkC, PV.weak, wkL, wkC, res1, OwA.O, cf_wk, hzG_wk]))
     | false =>
      have hg0 : ¬ g = 0 := by simpa using c
      rw [if_neg hg0] at he3' hb2
      simp -implicitDefEqProofs only [push_cast, c, hwi, cf_len, cf_take, cf_back, cf_drop, List.append_nil, seval]
      refine ⟨⟨i + 1, b, hlt, hb2, he3'⟩, by simp only; omega, ?_⟩
      (simp only [OxA.st, OwA.O]; exact Wk.at _ _ _ [(0, 0), (1, 1), (2, 2), (3, 3), (4, 4)] [] [] (by simp) (by simp [wkV, PV.el, PV.weak, PS.get, PS.obj, PS.lv, lkp_hit, lkp_miss, lkp_nil, lko, wkL, wkC, res1, OwA.O, cf_wk, hzG_wk]) (by simp [PS.get, PS.obj, PS.lv, lkp_hit, lkp_miss, lkp_nil, lko, wkL, wkC, PV.weak, wkL, wkC, res1, OwA.O, cf_wk, hzG_wk]))
   ·have hie : i = l.length := by simp at g3; omega
    subst hie
    rw [Nat.sub_self] at he3
    have he4 : b = B := he3
    subst he4
    simp -implicitDefEqProofs only [push_cast, hwj, cf_len, cf_take, cf_back, cf_drop, List.append_nil, seval]
    refine ⟨⟨j + 1, b, hj2, hb.up (by have := hPa.1; omega), he⟩, by simp only; omega, ?_⟩
    (simp only [OwA.st, OwA.O]; exact Wk.at _ _ _ [(0, 0), (1, 1), (2, 2), (3, 3), (4, 4)] [] [] (by simp) (by simp [wkV, PV.el, PV.weak, PS.get, PS.obj, PS.lv, lkp_hit, lkp_miss, lkp_nil, lko, wkL, wkC, res1, OwA.O, cf_wk, hzG_wk]) (by simp [PS.get, PS.obj, PS.lv, lkp_hit, lkp_miss, lkp_nil, lko, wkL, wkC, PV.weak, wkL, wkC, res1, OwA.O, cf_wk, hzG_wk]))
  ·have hje : j = 2 := by simp at g2; omega
   subst hje
   rw [Nat.sub_self] at he
   have he4 : b = R := he
   subst he4
   simp -implicitDefEqProofs only [push_cast, cf_len, cf_take, cf_back, cf_drop, List.append_nil, hzG_len, hzG_drop, seval]
   (repeat refine and_o ?_)
   all_goals (first | done | rfl | exact ⟨_, rfl, by simp [wkL, res2, res1, PV.weak, PV.el, Hf.cf, hzG]⟩ | (simp [wkL, res2, res1, PV.weak, PV.el, Hf.cf, hzG]; done))
 ·have h4 : ¬ 4 ≤ d % 8 := by simp at g1; omega
  rw [if_neg h4, decide_eq_false h4] at hR
  simp -implicitDefEqProofs only [push_cast, cf_len, cf_take, cf_back, cf_drop, List.append_nil, seval]
  refine loopC_of (α := OwA R 1 (pssL lost false l l.length 0) i0) (OwA.st d lost ka kb a1 l) (fun s => 1 - s.j) ⟨0, b, by omega, hb, hR⟩ ?_ ?_
  ·(simp only [OwA.st, OwA.O]; exact Wk.at _ _ _ [(0, 0), (1, 4), (2, 8), (3, 12), (4, 16)] [] [] (by simp) (by simp [wkV, PV.el, PV.weak, PS.get, PS.obj, PS.lv, lkp_hit, lkp_miss, lkp_nil, lko, wkL, wkC, res1, OwA.O, cf_wk, hzG_wk, hzG]) (by simp [PS.get, PS.obj, PS.lv, lkp_hit, lkp_miss, lkp_nil, lko, wkL, wkC, PV.weak, wkL, wkC, res1, OwA.O, cf_wk, hzG_wk, hzG]))
  clear hR
  rintro ⟨j, b, hj, hb, he⟩
  simp only [OwA.st, OwA.O]
  simp -implicitDefEqProofs only [push_cast, sts_length, seval]
  refine condC_split (fun g2 => ?_) (fun g2 => ?_)
  ·have hj2 : j < 1 := by simp at g2; omega
   have hwj : IntKind.i64.wrap ((j : Int) + 1) = ((j + 1 : Nat) : Int) := by (rw [wrap_i64_id (by omega) (by omega)]; rfl)
   rw [show 1 - j = (1 - (j + 1)) + 1 by omega, reps, tks_app] at he
   generalize hB : b.tks (pssL lost false l l.length 0) = B at he
   simp -implicitDefEqProofs only [push_cast, sts_length, seval]
   (repeat refine and_o ?_)
   refine loopC_of (α := OxA B lost false l (i0 + 17 * j)) (OxA.st d ka kb a1 1 j) (fun s => l.length - s.i) ⟨0, b, by omega, hb, by rw [Nat.sub_zero]; exact hB⟩ ?_ ?_
   ·(simp only [OxA.st, OwA.O]; exact Wk.at _ _ _ [(0, 0), (1, 1), (2, 2), (3, 3), (4, 4)] [] [] (by simp) (by simp [wkV, PV.el, PV.weak, PS.get, PS.obj, PS.lv, lkp_hit, lkp_miss, lkp_nil, lko, wkL, wkC, res1, OwA.O, cf_wk, hzG_wk]) (by simp [PS.get, PS.obj, PS.lv, lkp_hit, lkp_miss, lkp_nil, lko, wkL, wkC, PV.weak, wkL, wkC, res1, OwA.O, cf_wk, hzG_wk]))
   clear hB
   rintro ⟨i, b, hil, hb, he3⟩
   simp only [OxA.st, OwA.O]
   simp -implicitDefEqProofs only [push_cast, sts_length, seval]
   refine condC_split (fun g3 => ?_) (fun g3 => ?_)
   ·have hlt : i < l.length := by simp at g3; omega
    have hwi : IntKind.i64.wrap ((i : Int) + 1) = ((i + 1 : Nat) : Int) := by (rw [wrap_i64_id (by omega) (by omega)]; rfl)
    rw [show l.length - i = (l.length - (i + 1)) + 1 by omega, pssL, tks_app] at he3
    have hpl0 := hPa.1
    have hk : True := trivial
    have hkl : i < l.length := hlt
    have hkv : ovK false l.length i = i := rfl
    rw [hkv] at he3
    have hgt := sts_at hkl
    have hpl := hPa.2 _ (mem_getD hkl)
    have hG := hb.fs kb (by omega) hpl
    have hb2 := hb.tk hpl
    have hm16 : Int.tmod (i : Int) 16 = ((i % 16 : Nat) : Int) := by rw [Int.tmod_eq_emod_of_nonneg (by omega)]; rfl
    have hif : (if i % 16 ≤ 16 then i % 16 else 16) = i % 16 := if_pos (by omega)
    unfold Hf.tk at hb2
    unfold lostB at he3
    generalize i % 16 = m at *
    cases c5 : (bitsI .and .u16 ((lost : Int).fdiv (2 ^ m)) 1 == 1) with
    | true =>
     rw [if_pos c5] at he3
     simp -implicitDefEqProofs only [push_cast, hk, hm16, hif, c5, cf_len, cf_take, cf_back, cf_drop, List.append_nil, sts_length, seval]
     (repeat refine and_o ?_)
     simp -implicitDefEqProofs only [push_cast, hwi, cf_len, cf_take, cf_back, cf_drop, List.append_nil, c5, seval]
     refine ⟨⟨i + 1, b, hlt, hb.up (by omega), he3⟩, by simp only; omega, ?_⟩
     (simp only [OxA.st, OwA.O]; exact Wk.at _ _ _ [(0, 0), (1, 1), (2, 2), (3, 3), (4, 4)] [] [] (by simp) (by simp [wkV, PV.el, PV.weak, PS.get, PS.obj, PS.lv, lkp_hit, lkp_miss, lkp_nil, lko, wkL, wkC, res1, OwA.O, cf_wk, hzG_wk]) (by simp [PS.get, PS.obj, PS.lv, lkp_hit, lkp_miss, lkp_nil, lko, wkL, wkC, PV.weak, wkL, wkC, res1, OwA.O, cf_wk, hzG_wk]))
    | false =>
     rw [if_neg (by rw [c5]; decide)] at he3
     have he3' : (b.tk (l.getD i [])).tks (pssL lost false l (l.length - (i + 1)) (i + 1)) = B := he3
     clear he3
     unfold Hf.tk at he3'
     generalize l.getD i [] = p at *
     generalize b.got p = G at *
     obtain ⟨b3, g⟩ := G
     simp only at he3' hb2 hG
     simp -implicitDefEqProofs only [push_cast, hk, hm16, hif, c5, hgt, cf_len, cf_take, cf_back, cf_drop, List.append_nil, sts_length, seval]
     (repeat refine and_o ?_)
     refine callE_p hG ?_
     simp -implicitDefEqProofs only [push_cast, cf_len, cf_take, cf_back, cf_drop, List.append_nil, seval]
     (repeat refine and_o ?_)
     cases c : (g == 0) with
     | true =>
      have hg0 : g = 0 := by simpa using c
      rw [if_pos hg0] at he3' hb2
      simp -implicitDefEqProofs only [push_cast, c, hwi, cf_len, cf_take, cf_back, cf_drop, List.append_nil, seval]
      refine ⟨⟨i + 1, b3, hlt, hb2, he3'⟩, by simp only; omega, ?_⟩
      (simp only [OxA.st, OwA.O]; exact Wk.at _ _ _ [(0, 0), (1, 1), (2, 2), (3, 3), (4, 4)] [] [] (by simp) (by simp [wkV, PV.el, PV.weak, PS.get, PS.obj, PS.lv, lkp_hit, lkp_miss, lkp_nil, lko, wkL, wkC, res1, OwA.O, cf_wk, hzG_wk]) (by simp [PS.get, PS.obj, PS.lv, lkp_hit, lkp_miss, lkp_nil, lko, wkL, wkC, PV.weak, wkL, wkC, res1, OwA.O, cf_wk, hzG_wk]))
     | false =>
      have hg0 : ¬ g = 0 := by simpa using c
      rw [if_neg hg0] at he3' hb2
      simp -implicitDefEqProofs only [push_cast, c, hwi, cf_len, cf_take, cf_back, cf_drop, List.append_nil, seval]
      refine ⟨⟨i + 1, b, hlt, hb2, he3'⟩, by simp only; omega, ?_⟩
      (simp only [OxA.st, OwA.O]; exact Wk.at _ _ _ [(0, 0), (1, 1), (2, 2), (3, 3), (4, 4)] [] [] (by simp) (by simp [wkV, PV.el, PV.weak, PS.get, PS.obj, PS.lv, lkp_hit, lkp_miss, lkp_nil, lko, wkL, wkC, res1, OwA.O, cf_wk, hzG_wk]) (by simp [PS.get, PS.obj, PS.lv, lkp_hit, lkp_miss, lkp_nil, lko, wkL, wkC, PV.weak, wkL, wkC, res1, OwA.O, cf_wk, hzG_wk]))
   ·have hie : i = l.length := by simp at g3; omega
    subst hie
    rw [Nat.sub_self] at he3
    have he4 : b = B := he3
    subst he4
    simp -implicitDefEqProofs only [push_cast, hwj, cf_len, cf_take, cf_back, cf_drop, List.append_nil, seval]
    refine ⟨⟨j + 1, b, hj2, hb.up (by have := hPa.1; omega), he⟩, by simp only; omega, ?_⟩
    (simp only [OwA.st, OwA.O]; exact Wk.at _ _ _ [(0, 0), (1, 1), (2, 2), (3, 3), (4, 4)] [] [] (by simp) (by simp [wkV, PV.el, PV.weak, PS.get, PS.obj, PS.lv, lkp_hit, lkp_miss, lkp_nil, lko, wkL, wkC, res1, OwA.O, cf_wk, hzG_wk]) (by simp [PS.get, PS.obj, PS.lv, lkp_hit, lkp_miss, lkp_nil, lko, wkL, wkC, PV.weak, wkL, wkC, res1, OwA.O, cf_wk, hzG_wk]))
  ·have hje : j = 1 := by simp at g2; omega
   subst hje
   rw [Nat.sub_self] at he
   have he4 : b = R := he
   subst he4
   simp -implicitDefEqProofs only [push_cast, cf_len, cf_take, cf_back, cf_drop, List.append_nil, hzG_len, hzG_drop, seval]
   (repeat refine and_o ?_)
   all_goals (first | done | rfl | exact ⟨_, rfl, by simp [wkL, res2, res1, PV.weak, PV.el, Hf.cf, hzG]⟩ | (simp [wkL, res2, res1, PV.weak, PV.el, Hf.cf, hzG]; done))
end Go.Proofs.Sh
set_option maxRecDepth 100000
set_option linter.unusedSimpArgs false
set_option linter.unusedVariables false
namespace Go.Proofs.Sh
open Go.Pv
open Lk (En Pc)
def turnR (d lost : Nat) (a b : Hf) : Hf × Hf :=
 match d % 8 with
 | 0 => (a.du, b.tks (ovL d lost a.e.dueP))
 | 1 => (a.du, b.tks (ovL d lost a.e.dueP))
 | 4 => (a.du, b.tks (ovL d lost a.e.dueP))
 | 6 => (a.ti, b)
 | 7 => (a, b.ti)
 | _ => (a.tks (ovL d lost b.e.dueP), b.du)
set_option maxHeartbeats 4000000 in
theorem turn_fs (d lost : Nat) (hd : d < 256) (hlo : lost < 65536) (ka kb : Nat) (a b : Hf) (i0 : Nat) (ha : a.C i0) (hb : b.C i0) (hi : i0 ≤ 9000) : Fsp Tryz.prog 29 [] 0 [.agg [.int .u8 (d : Int), .int .u16 (lost : Int)], .agg (a.cf ka), .agg (b.cf kb)] [] 0 (.tup [.agg ((turnR d lost a b).1.cf ka), .agg ((turnR d lost a b).2.cf kb)]) := by
 have hO1 := over_fs d lost hd hlo ka kb a b i0 ha hb hi
 have hO2 := over_fs d lost hd hlo kb ka b a i0 hb ha hi
 have hTa : Fsp Tryz.prog 37 [] 0 [.agg (a.cf ka)] [] 0 (.agg (a.ti.cf ka)) := ftick_fs ka a (by have := ha.e.bd.w; omega)
 have hTb : Fsp Tryz.prog 37 [] 0 [.agg (b.cf kb)] [] 0 (.agg (b.ti.cf kb)) := ftick_fs kb b (by have := hb.e.bd.w; omega)
 have hd8 : Int.tmod (d : Int) 8 = ((d % 8 : Nat) : Int) := by rw [Int.tmod_eq_emod_of_nonneg (by omega)]; rfl
 have hr8 : d % 8 = 0 ∨ d % 8 = 1 ∨ d % 8 = 2 ∨ d % 8 = 3 ∨ d % 8 = 4 ∨ d % 8 = 5 ∨ d % 8 = 6 ∨ d % 8 = 7 := by omega
 rcases hr8 with hr | hr | hr | hr | hr | hr | hr | hr
 ·have hR : turnR d lost a b = (a.du, b.tks (ovL d lost a.e.dueP)) := by unfold turnR; rw [hr]; rfl
  rw [hR]
  have hk : Int.tmod (d : Int) 8 = 0 := by rw [hd8, hr]; rfl
  clear hR hd8
  generalize b.tks (ovL d lost a.e.dueP) = b1 at *
  generalize a.du = a1 at *
  (refine Fsp.ofs (nx := 0) mixed Tryz.func29 rfl (by simp [Tryz.f29]) ?_; simp -implicitDefEqProofs only [push_cast, Tryz.f29, hk, cf_len, cf_take, cf_back, cf_drop, List.append_nil, hzG_len, hzG_drop, seval])
  (repeat refine and_o ?_)
  refine callE_p hO1 ?_
  simp -implicitDefEqProofs only [push_cast, cf_len, cf_take, cf_back, cf_drop, List.append_nil, hzG_len, hzG_drop, seval]
  (repeat refine and_o ?_)
  all_goals (first | done | rfl | exact ⟨_, rfl, by simp [wkL, res2, res1, PV.weak, PV.el, Hf.cf, hzG]⟩ | (simp [wkL, res2, res1, PV.weak, PV.el, Hf.cf, hzG]; done))
 ·have hR : turnR d lost a b = (a.du, b.tks (ovL d lost a.e.dueP)) := by unfold turnR; rw [hr]; rfl
  rw [hR]
  have hk : Int.tmod (d : Int) 8 = 1 := by rw [hd8, hr]; rfl
  clear hR hd8
  generalize b.tks (ovL d lost a.e.dueP) = b1 at *
  generalize a.du = a1 at *
  (refine Fsp.ofs (nx := 0) mixed Tryz.func29 rfl (by simp [Tryz.f29]) ?_; simp -implicitDefEqProofs only [push_cast, Tryz.f29, hk, cf_len, cf_take, cf_back, cf_drop, List.append_nil, hzG_len, hzG_drop, seval])
  (repeat refine and_o ?_)
  refine callE_p hO1 ?_
  simp -implicitDefEqProofs only [push_cast, cf_len, cf_take, cf_back, cf_drop, List.append_nil, hzG_len, hzG_drop, seval]
  (repeat refine and_o ?_)
  all_goals (first | done | rfl | exact ⟨_, rfl, by simp [wkL, res2, res1, PV.weak, PV.el, Hf.cf, hzG]⟩ | (simp [wkL, res2, res1, PV.weak, PV.el, Hf.cf, hzG]; done))
 ·have hR : turnR d lost a b = (a.tks (ovL d lost b.e.dueP), b.du) := by unfold turnR; rw [hr]; rfl
  rw [hR]
  have hk : Int.tmod (d : Int) 8 = 2 := by rw [hd8, hr]; rfl
  clear hR hd8
  generalize a.tks (ovL d lost b.e.dueP) = a1 at *
  generalize b.du = b1 at *
  (refine Fsp.ofs (nx := 0) mixed Tryz.func29 rfl (by simp [Tryz.f29]) ?_; simp -implicitDefEqProofs only [push_cast, Tryz.f29, hk, cf_len, cf_take, cf_back, cf_drop, List.append_nil, hzG_len, hzG_drop, seval])
  (repeat refine and_o ?_)
  refine callE_p hO2 ?_
  simp -implicitDefEqProofs only [push_cast, cf_len, cf_take, cf_back, cf_drop, List.append_nil, hzG_len, hzG_drop, seval]
  (repeat refine and_o ?_)
  all_goals (first | done | rfl | exact ⟨_, rfl, by simp [wkL, res2, res1, PV.weak, PV.el, Hf.cf, hzG]⟩ | (simp [wkL, res2, res1, PV.weak, PV.el, Hf.cf, hzG]; done))
 ·have hR : turnR d lost a b = (a.tks (ovL d lost b.e.dueP), b.du) := by unfold turnR; rw [hr]; rfl
  rw [hR]
  have hk : Int.tmod (d : Int) 8 = 3 := by rw [hd8, hr]; rfl
  clear hR hd8
  generalize a.tks (ovL d lost b.e.dueP) = a1 at *
  generalize b.du = b1 at *
  (refine Fsp.ofs (nx := 0) mixed Tryz.func29 rfl (by simp [Tryz.f29]) ?_; simp -implicitDefEqProofs only [push_cast, Tryz.f29, hk, cf_len, cf_take, cf_back, cf_drop, List.append_nil, hzG_len, hzG_drop, seval])
  (repeat refine and_o ?_)
  refine callE_p hO2 ?_
  simp -implicitDefEqProofs only [push_cast, cf_len, cf_take, cf_back, cf_drop, List.append_nil, hzG_len, hzG_drop, seval]
  (repeat refine and_o ?_)
  all_goals (first | done | rfl | exact ⟨_, rfl, by simp [wkL, res2, res1, PV.weak, PV.el, Hf.cf, hzG]⟩ | (simp [wkL, res2, res1, PV.weak, PV.el, Hf.cf, hzG]; done))
 ·have hR : turnR d lost a b = (a.du, b.tks (ovL d lost a.e.dueP)) := by unfold turnR; rw [hr]; rfl
  rw [hR]
  have hk : Int.tmod (d : Int) 8 = 4 := by rw [hd8, hr]; rfl
  clear hR hd8
  generalize b.tks (ovL d lost a.e.dueP) = b1 at *
  generalize a.du = a1 at *
  (refine Fsp.ofs (nx := 0) mixed Tryz.func29 rfl (by simp [Tryz.f29]) ?_; simp -implicitDefEqProofs only [push_cast, Tryz.f29, hk, cf_len, cf_take, cf_back, cf_drop, List.append_nil, hzG_len, hzG_drop, seval])
  (repeat refine and_o ?_)
  refine callE_p hO1 ?_
  simp -implicitDefEqProofs only [push_cast, cf_len, cf_take, cf_back, cf_drop, List.append_nil, hzG_len, hzG_drop, seval]
  (repeat refine and_o ?_)
  all_goals (first | done | rfl | exact ⟨_, rfl, by simp [wkL, res2, res1, PV.weak, PV.el, Hf.cf, hzG]⟩ | (simp [wkL, res2, res1, PV.weak, PV.el, Hf.cf, hzG]; done))
 ·have hR : turnR d lost a b = (a.tks (ovL d lost b.e.dueP), b.du) := by unfold turnR; rw [hr]; rfl
  rw [hR]
  have hk : Int.tmod (d : Int) 8 = 5 := by rw [hd8, hr]; rfl
  clear hR hd8
  generalize a.tks (ovL d lost b.e.dueP) = a1 at *
  generalize b.du = b1 at *
  (refine Fsp.ofs (nx := 0) mixed Tryz.func29 rfl (by simp [Tryz.f29]) ?_; simp -implicitDefEqProofs only [push_cast, Tryz.f29, hk, cf_len, cf_take, cf_back, cf_drop, List.append_nil, hzG_len, hzG_drop, seval])
  (repeat refine and_o ?_)
  refine callE_p hO2 ?_
  simp -implicitDefEqProofs only [push_cast, cf_len, cf_take, cf_back, cf_drop, List.append_nil, hzG_len, hzG_drop, seval]
  (repeat refine and_o ?_)
  all_goals (first | done | rfl | exact ⟨_, rfl, by simp [wkL, res2, res1, PV.weak, PV.el, Hf.cf, hzG]⟩ | (simp [wkL, res2, res1, PV.weak, PV.el, Hf.cf, hzG]; done))
 ·have hR : turnR d lost a b = (a.ti, b) := by unfold turnR; rw [hr]; rfl
  rw [hR]
  have hk : Int.tmod (d : Int) 8 = 6 := by rw [hd8, hr]; rfl
  clear hR hd8
  generalize a.ti = a1 at *
  (refine Fsp.ofs (nx := 0) mixed Tryz.func29 rfl (by simp [Tryz.f29]) ?_; simp -implicitDefEqProofs only [push_cast, Tryz.f29, hk, cf_len, cf_take, cf_back, cf_drop, List.append_nil, hzG_len, hzG_drop, seval])
  (repeat refine and_o ?_)
  refine callE_p hTa ?_
  simp -implicitDefEqProofs only [push_cast, cf_len, cf_take, cf_back, cf_drop, List.append_nil, hzG_len, hzG_drop, seval]
  (repeat refine and_o ?_)
  all_goals (first | done | rfl | exact ⟨_, rfl, by simp [wkL, res2, res1, PV.weak, PV.el, Hf.cf, hzG]⟩ | (simp [wkL, res2, res1, PV.weak, PV.el, Hf.cf, hzG]; done))
 ·have hR : turnR d lost a b = (a, b.ti) := by unfold turnR; rw [hr]; rfl
  rw [hR]
  have hk : Int.tmod (d : Int) 8 = 7 := by rw [hd8, hr]; rfl
  clear hR hd8
  generalize b.ti = b1 at *
  (refine Fsp.ofs (nx := 0) mixed Tryz.func29 rfl (by simp [Tryz.f29]) ?_; simp -implicitDefEqProofs only [push_cast, Tryz.f29, hk, cf_len, cf_take, cf_back, cf_drop, List.append_nil, hzG_len, hzG_drop, seval])
  (repeat refine and_o ?_)
  refine callE_p hTb ?_
  simp -implicitDefEqProofs only [push_cast, cf_len, cf_take, cf_back, cf_drop, List.append_nil, hzG_len, hzG_drop, seval]
  (repeat refine and_o ?_)
  all_goals (first | done | rfl | exact ⟨_, rfl, by simp [wkL, res2, res1, PV.weak, PV.el, Hf.cf, hzG]⟩ | (simp [wkL, res2, res1, PV.weak, PV.el, Hf.cf, hzG]; done))
theorem hasPrefix0_fs (s w : Bys) (h : w <+: s) (hs : s.length ≤ 1000000000000) : Fsp Tryz.prog 55 [] 0 [.str s, .str w] [] 0 (.bool true) := by
 have hl := h.length_le
 have ht : s.take w.length = w := by obtain ⟨y, rfl⟩ := h; exact List.take_left
 have hd : decide ((w.length : Int) ≤ (s.length : Int)) = true := by simp; omega
 (refine Fsp.ofs (nx := 0) mixed Tryz.func55 rfl (by simp [Tryz.f55]) ?_; simp -implicitDefEqProofs only [push_cast, Tryz.f55, hd, ht, seval])
 (repeat refine and_o ?_)
 exact hl
theorem hasPrefix_fs (s w : Bys) (h : w <+: s) (hs : s.length ≤ 1000000000000) : Fsp Tryz.prog 30 [] 0 [.str s, .str w] [] 0 (.bool true) := by
 have h0 := hasPrefix0_fs s w h hs
 (refine Fsp.ofs (nx := 0) mixed Tryz.func30 rfl (by simp [Tryz.f30]) ?_; simp -implicitDefEqProofs only [push_cast, Tryz.f30, seval])
 refine callE_p h0 ?_
 simp -implicitDefEqProofs only [push_cast, seval]
 all_goals (first | done | rfl | exact ⟨_, rfl, by simp [wkL, res2, res1, PV.weak, PV.el]⟩ | (simp [wkL, res2, res1, PV.weak, PV.el]; done))
def otL (K : List Ot) : List PV := K.map Ot.pv
theorem otL_length (K : List Ot) : (otL K).length = K.length := List.length_map _
theorem ot_at {l : List Ot} {i : Nat} (h : i < l.length) : (otL l).getD i PV.any = (l.getD i ot0).pv := by
 rw [otL, List.getD_eq_getElem?_getD, List.getElem?_map, List.getElem?_eq_getElem h, List.getD_eq_getElem?_getD, List.getElem?_eq_getElem h]; rfl
theorem tellS_len (o : Int) (r : Ot) : (tellS o r).1.length ≤ 65544 := by
 unfold tellS
 split
 ·cases hf : mForm r.K r.C with
  | none => rw [tellP_none hf]; simp
  | some f =>
   rw [tellP_some hf]
   unfold tellQ
   split
   ·simp
   ·split
    ·simp
    ·split
     ·simp
     ·rename_i h
      have h' : ¬ ((65536 : Int) < ((fmt o f r.fd).length : Int)) := by simpa using h
      simp only [thd, List.length_append, encB_length]
      omega
 ·simp
theorem sayB_len (o : Int) : ∀ l : List Ot, (sayB o l).length ≤ 65544 * l.length
 | [] => by simp [sayB]
 | r :: l => by
  have := sayB_len o l
  have h := tellS_len o r
  unfold sayB at *
  rw [List.map_cons, List.flatten_cons, List.length_append, List.length_cons]
  omega
structure SyA (l : List Ot) where
 i : Nat
 h : i ≤ l.length
def SyA.st (o : Int) (l : List Ot) (a : SyA l) : PS := { n := 27, env := [(12, .int .i64 a.i), (11, .int .i64 l.length), (10, .sl 6 (otL l)), (5, .str (sayB o (l.take a.i))), (4, .str []), (0, .int .i64 o)], objs := [], live := [], nxt := 60 }
theorem says_fs (o : Int) (l : List Ot) (hl : l.length ≤ 12) (hF : ∀ x ∈ l, x.Few) : Fsp Tryz.prog 28 [] 0 [.int .i64 o, .sl 6 (otL l)] [] 0 (.str (sayB o l)) := by
 have h0 : sayB o (l.take 0) = [] := by simp [sayB]
 (refine Fsp.ofs (nx := 0) mixed Tryz.func28 rfl (by simp [Tryz.f28]) ?_; simp -implicitDefEqProofs only [push_cast, Tryz.f28, otL_length, seval])
 refine loopC_of (α := SyA l) (SyA.st o l) (fun a => l.length - a.i) ⟨0, by omega⟩ ?_ ?_
 ·(simp only [SyA.st, h0]; exact Wk.at _ _ _ [] [] [] (by simp) (by simp [wkV, PV.el, PV.weak, PS.get, PS.obj, PS.lv, lkp_hit, lkp_miss, lkp_nil, lko, wkL, wkC, res1]) (by simp [PS.get, PS.obj, PS.lv, lkp_hit, lkp_miss, lkp_nil, lko, wkL, wkC, PV.weak, wkL, wkC, res1]))
 ·rintro ⟨i, hi⟩
  simp only [SyA.st]
  simp -implicitDefEqProofs only [push_cast, otL_length, seval]
  refine condC_split (fun g1 => ?_) (fun g1 => ?_)
  ·have hlt : i < l.length := by simp at g1; omega
   have hwi : IntKind.i64.wrap ((i : Int) + 1) = ((i + 1 : Nat) : Int) := by (rw [wrap_i64_id (by omega) (by omega)]; rfl)
   have hg := ot_at hlt
   have hm : l.getD i ot0 ∈ l := by rw [List.getD_eq_getElem?_getD, List.getElem?_eq_getElem hlt]; exact List.getElem_mem hlt
   have hP := tellPut_fs o _ (hF _ hm)
   have hS : sayB o (l.take (i + 1)) = sayB o (l.take i) ++ (tellS o (l.getD i ot0)).1 := by
    unfold sayB
    rw [List.take_succ_eq_append_getElem hlt, List.map_append, List.flatten_append, List.getD_eq_getElem?_getD, List.getElem?_eq_getElem hlt]
    simp
   have hA := sayB_len o (l.take i)
   have hAl : (l.take i).length ≤ 12 := by rw [List.length_take]; omega
   have hpl := tellS_len o (l.getD i ot0)
   unfold tellR at hP
   generalize l.getD i ot0 = r at *
   generalize hp1 : (tellS o r).1 = p1 at *
   generalize (tellS o r).2 = p2 at *
   have hal : (sayB o (l.take i)).length + p1.length ≤ 1000000 := by omega
   generalize sayB o (l.take i) = q at *
   simp only [Ot.pv] at hg hP
   simp -implicitDefEqProofs only [push_cast, hg, otL_length, seval]
   (repeat refine and_o ?_)
   refine callE_p hP ?_
   simp -implicitDefEqProofs only [push_cast, hwi, seval]
   refine ⟨by omega, ⟨i + 1, hlt⟩, by simp only; omega, ?_⟩
   (simp only [SyA.st, hS]; exact Wk.at _ _ _ [] [] [] (by simp) (by simp [wkV, PV.el, PV.weak, PS.get, PS.obj, PS.lv, lkp_hit, lkp_miss, lkp_nil, lko, wkL, wkC, res1]) (by simp [PS.get, PS.obj, PS.lv, lkp_hit, lkp_miss, lkp_nil, lko, wkL, wkC, PV.weak, wkL, wkC, res1]))
  ·have hie : i = l.length := by simp at g1; omega
   subst hie
   rw [List.take_length]
   simp -implicitDefEqProofs only [push_cast, otL_length, seval]
   all_goals (first | done | rfl | exact ⟨_, rfl, by simp [wkL, res2, res1, PV.weak, PV.el]⟩ | (simp [wkL, res2, res1, PV.weak, PV.el]; done))
end Go.Proofs.Sh
set_option maxRecDepth 100000
set_option linter.unusedSimpArgs false
set_option linter.unusedVariables false
namespace Go.Proofs.Sh
open Go.Pv
open Lk (En Pc)
theorem sys_turn {M N : List Bys} {a b : Hf} {there back : Bys} (h : Sys M N a b there back) (d lost : Nat) : Sys M N (turnR d lost a b).1 (turnR d lost a b).2 there back := by
 have h1 : Sys M N a.du (b.tks (ovL d lost a.e.dueP)) there back := (h.over (ovL_mem d lost a.e.dueP)).1
 have h2 : Sys M N (a.tks (ovL d lost b.e.dueP)) b.du there back := (h.flip.over (ovL_mem d lost b.e.dueP)).1.flip
 have h3 : Sys M N a.ti b there back := h.tick
 have h4 : Sys M N a b.ti there back := h.flip.tick.flip
 unfold turnR
 split
 ·exact h1
 ·exact h1
 ·exact h1
 ·exact h3
 ·exact h4
 ·exact h2
theorem pssL_len (lost : Nat) (two : Bool) (l : List Bys) : ∀ (f i : Nat), (pssL lost two l f i).length ≤ f
 | 0, i => Nat.le_refl _
 | f + 1, i => by
  have := pssL_len lost two l f (i + 1)
  rw [pssL, List.length_append]
  split
  ·simp only [List.length_nil]; omega
  ·simp only [List.length_cons, List.length_nil]; omega
theorem ovL_len (d lost : Nat) (l : List Bys) : (ovL d lost l).length ≤ 2 * l.length := by
 have h := pssL_len lost (decide (4 ≤ d % 8)) l l.length 0
 unfold ovL
 split
 ·simp only [reps, List.length_append, List.length_nil]; omega
 ·simp only [reps, List.length_append, List.length_nil]; omega
theorem C_over {i : Nat} {a b : Hf} (ha : a.C i) (hb : b.C i) (d lost : Nat) : (b.tks (ovL d lost a.e.dueP)).C (i + 34) := by
 have h1 := ha.e.dueP
 have h2 := ovL_len d lost a.e.dueP
 exact (Hf.C.tks (ovL d lost a.e.dueP) hb fun p hp => h1.2 p (ovL_mem d lost _ p hp)).up (by omega)
theorem C_turn {i : Nat} {a b : Hf} (ha : a.C i) (hb : b.C i) (d lost : Nat) : (turnR d lost a b).1.C (i + 34) ∧ (turnR d lost a b).2.C (i + 34) := by
 have h1 := C_over ha hb d lost
 have h2 := C_over hb ha d lost
 have h3 : a.du.C (i + 34) := ha.du.up (by omega)
 have h4 : b.du.C (i + 34) := hb.du.up (by omega)
 have h5 : a.ti.C (i + 34) := ha.ti.up (by omega)
 have h6 : b.ti.C (i + 34) := hb.ti.up (by omega)
 unfold turnR
 split
 ·exact ⟨h3, h1⟩
 ·exact ⟨h3, h1⟩
 ·exact ⟨h3, h1⟩
 ·exact ⟨h5, hb.up (by omega)⟩
 ·exact ⟨ha.up (by omega), h6⟩
 ·exact ⟨h2, h4⟩
def Hf.ou (h : Hf) : Hf := { h with out := [] }
theorem C_out {i : Nat} {h : Hf} (H : h.C i) : h.ou.C i := ⟨H.e, H.l, by have := H.q; simp only [Hf.ou, List.length_nil]; omega⟩
theorem Sys.begins {M N : List Bys} {a b : Hf} {there back : Bys} (h : Sys M N a b there back) : there ++ b.out <+: M.flatten ∧ b.dd = false := by
 obtain ⟨P, pb, pe, Q, qb, qe, h1, h2⟩ := h
 exact h1.begins
theorem outF_fs (k : Nat) (h : Hf) : Fsp Tryz.prog 13 [] 0 [.agg (h.cf k)] [] 0 (.tup [.agg (h.ou.cf k), .str h.out]) := fout_fs k h
theorem deadF_fs (k : Nat) (h : Hf) (hd : h.dd = false) : Fsp Tryz.prog 14 [] 0 [.agg (h.ou.cf k)] [] 0 (.bool false) := by
 have := fdead_fs k h.ou
 rw [show h.ou.dd = false from hd] at this
 exact this
theorem quietF_fs (k : Nat) (h : Hf) (hw : h.e.way = []) (ha : h.e.ack = false) : Fsp Tryz.prog 17 [] 0 [.agg (h.ou.cf k)] [] 0 (.bool true) := by
 have := fquiet_fs k h.ou
 rw [show h.ou.e.way = [] from hw, show h.ou.e.ack = false from ha] at this
 exact this
structure Tn where
 d : Nat
 l : Nat
def Tn.pv (t : Tn) : PV := .agg [.int .u8 (t.d : Int), .int .u16 (t.l : Int)]
def tnL (l : List Tn) : List PV := l.map Tn.pv
def tn0 : Tn := ⟨0, 0⟩
theorem tnL_length (l : List Tn) : (tnL l).length = l.length := List.length_map _
theorem tn_at {l : List Tn} {i : Nat} (h : i < l.length) : (tnL l).getD i PV.any = (l.getD i tn0).pv := by
 rw [tnL, List.getD_eq_getElem?_getD, List.getElem?_map, List.getElem?_eq_getElem h, List.getD_eq_getElem?_getD, List.getElem?_eq_getElem h]; rfl
structure PsA (K : List Ot) where
 i : Nat
 h : i ≤ K.length
def PsA.st (ord mo : Nat) (l : List Rq) (K : List Ot) (rest : Bys) (T : List Tn) (a : PsA K) : PS := { n := 248, env := [(52, .int .i64 a.i), (51, .int .i64 K.length), (50, .sl 6 (otL K)), (12, .bool false), (0, .int .u8 ord), (1, .sl 4 (rqL l)), (2, .sl 6 (otL K)), (3, .str rest), (4, .sl 2 (tnL T)), (5, .int .u8 mo)], objs := [], live := [], nxt := 5 }
structure PtA (M L : List Bys) (T : List Tn) where
 i : Nat
 a : Hf
 b : Hf
 th : Bys
 bk : Bys
 hi : i ≤ T.length
 ha : a.C (3022 + 34 * i)
 hb : b.C (3022 + 34 * i)
 s : Sys M L a b th bk
def PtA.O (a b : Hf) : List (Nat × Option (List PV)) := [(0, some (a.cf (lenF false))), (1, some (b.cf (lenF true)))]
def PtA.st {M L : List Bys} {T : List Tn} (al an : Bys) (s : PtA M L T) : PS := { n := 248, env := [(163, .int .i64 s.i), (162, .int .i64 T.length), (161, .sl 2 (tnL T)), (28, .str s.bk), (27, .str s.th), (26, .str al), (21, .str an), (18, .box 1 0), (16, .box 0 0), (12, .bool false)], objs := PtA.O s.a s.b, live := [], nxt := 5 }
set_option maxHeartbeats 8000000 in
theorem passes_fs (ord mo : Nat) (l : List Rq) (K : List Ot) (rest : Bys) (T : List Tn) (h1 : ord < 256) (hmo : mo < 256) (hl : l.length ≤ 1000000000000000) (hF : ∀ x ∈ l, x.Few) (hKl : K.length ≤ 1000000000000000) (hKF : ∀ x ∈ K, x.Few) (hTl : T.length ≤ 1000000000000000) (hT : ∀ t ∈ T, t.d < 256 ∧ t.l < 65536) : Fsp Tryz.prog 6 [] 0 [.int .u8 ord, .sl 4 (rqL l), .sl 6 (otL K), .str rest, .sl 2 (tnL T), .int .u8 mo] [] 0 (.bool true) := by
 have hw := awake_fs
 have hf := few_fs l rest hl
 have ho : isOrder (ord % 2 : Nat) := by unfold isOrder; omega
 have hor : IntKind.i64.wrap (Int.tmod (ord : Int) 2) = ((ord % 2 : Nat) : Int) := by rw [Int.tmod_eq_emod_of_nonneg (by omega), wrap_i64_id (by omega) (by omega)]; omega
 cases hfew : fewB l rest with
 | false =>
  rw [hfew] at hf
  (refine Fsp.ofs (nx := 0) mixed Tryz.func6 rfl (by simp [Tryz.f6]) ?_; simp -implicitDefEqProofs only [push_cast, Tryz.f6, otL_length, tnL_length, seval])
  refine callE_p hf ?_
  simp -implicitDefEqProofs only [push_cast, otL_length, tnL_length, seval]
  (repeat refine and_o ?_)
  refine callE_p hw ?_
  simp -implicitDefEqProofs only [push_cast, seval]
  all_goals (first | done | rfl | exact ⟨_, rfl, by simp [wkL, res2, res1, PV.weak, PV.el]⟩ | (simp [wkL, res2, res1, PV.weak, PV.el]; done))
 | true =>
 cases hk12 : decide ((12 : Int) < (K.length : Int)) with
 | true =>
  rw [hfew] at hf
  (refine Fsp.ofs (nx := 0) mixed Tryz.func6 rfl (by simp [Tryz.f6]) ?_; simp -implicitDefEqProofs only [push_cast, Tryz.f6, otL_length, tnL_length, seval])
  refine callE_p hf ?_
  simp -implicitDefEqProofs only [push_cast, otL_length, tnL_length, hk12, seval]
  (repeat refine and_o ?_)
  refine callE_p hw ?_
  simp -implicitDefEqProofs only [push_cast, seval]
  all_goals (first | done | rfl | exact ⟨_, rfl, by simp [wkL, res2, res1, PV.weak, PV.el]⟩ | (simp [wkL, res2, res1, PV.weak, PV.el]; done))
 | false =>
 cases ht20 : decide ((20 : Int) < (T.length : Int)) with
 | true =>
  rw [hfew] at hf
  (refine Fsp.ofs (nx := 0) mixed Tryz.func6 rfl (by simp [Tryz.f6]) ?_; simp -implicitDefEqProofs only [push_cast, Tryz.f6, otL_length, tnL_length, seval])
  refine callE_p hf ?_
  simp -implicitDefEqProofs only [push_cast, otL_length, tnL_length, hk12, ht20, seval]
  (repeat refine and_o ?_)
  refine callE_p hw ?_
  simp -implicitDefEqProofs only [push_cast, seval]
  all_goals (first | done | rfl | exact ⟨_, rfl, by simp [wkL, res2, res1, PV.weak, PV.el]⟩ | (simp [wkL, res2, res1, PV.weak, PV.el]; done))
 | false =>
  rw [hfew] at hf
  have hK12 : K.length ≤ 12 := by simp at hk12; omega
  have hT20 : T.length ≤ 20 := by simp at ht20; omega
  have hl12 : l.length ≤ 12 ∧ rest.length ≤ 100 := by
   unfold fewB at hfew
   simp at hfew
   omega
  (refine Fsp.ofs (nx := 0) mixed Tryz.func6 rfl (by simp [Tryz.f6]) ?_; simp -implicitDefEqProofs only [push_cast, Tryz.f6, otL_length, tnL_length, seval])
  refine callE_p hf ?_
  simp -implicitDefEqProofs only [push_cast, otL_length, tnL_length, hk12, ht20, seval]
  (repeat refine and_o ?_)
  refine loopC_of (α := PsA K) (PsA.st ord mo l K rest T) (fun a => K.length - a.i) ⟨0, by omega⟩ ?_ ?_
  ·(simp only [PsA.st]; exact Wk.at _ _ _ [] [] [] (by simp) (by simp [wkV, PV.el, PV.weak, PS.get, PS.obj, PS.lv, lkp_hit, lkp_miss, lkp_nil, lko, wkL, wkC, res1]) (by simp [PS.get, PS.obj, PS.lv, lkp_hit, lkp_miss, lkp_nil, lko, wkL, wkC, PV.weak, wkL, wkC, res1]))
  rintro ⟨i, hi⟩
  simp only [PsA.st]
  simp -implicitDefEqProofs only [push_cast, otL_length, seval]
  refine condC_split (fun g1 => ?_) (fun g1 => ?_)
  ·have hlt : i < K.length := by simp at g1; omega
   have hwi : IntKind.i64.wrap ((i : Int) + 1) = ((i + 1 : Nat) : Int) := by (rw [wrap_i64_id (by omega) (by omega)]; rfl)
   have hg := ot_at hlt
   generalize K.getD i ot0 = r at *
   simp only [Ot.pv] at hg
   simp -implicitDefEqProofs only [push_cast, hg, otL_length, seval]
   (repeat refine and_o ?_)
   refine condC_split (fun g1 => ?_) (fun g1 => ?_)
   ·simp -implicitDefEqProofs only [push_cast, seval]
    refine callE_p hw ?_
    simp -implicitDefEqProofs only [push_cast, seval]
    all_goals (first | done | rfl | exact ⟨_, rfl, by simp [wkL, res2, res1, PV.weak, PV.el]⟩ | (simp [wkL, res2, res1, PV.weak, PV.el]; done))
   ·simp -implicitDefEqProofs only [push_cast, hwi, seval]
    refine ⟨⟨i + 1, hlt⟩, by simp only; omega, ?_⟩
    (simp only [PsA.st]; exact Wk.at _ _ _ [] [] [] (by simp) (by simp [wkV, PV.el, PV.weak, PS.get, PS.obj, PS.lv, lkp_hit, lkp_miss, lkp_nil, lko, wkL, wkC, res1]) (by simp [PS.get, PS.obj, PS.lv, lkp_hit, lkp_miss, lkp_nil, lko, wkL, wkC, PV.weak, wkL, wkC, res1]))
  have hA := asks_fs ho l rest hl12.1 hl12.2 hF
  have hSy := says_fs (ord % 2 : Nat) K hK12 hKF
  generalize hB : beg (ord % 2 : Nat) ++ asksB (ord % 2 : Nat) l ++ rest = B at *
  have hwm : IntKind.i64.wrap (mo : Int) = mo := wrap_i64_id (by omega) (by omega)
  have hw16 : IntKind.i64.wrap (16 + (mo : Int)) = 16 + (mo : Int) := wrap_i64_id (by omega) (by omega)
  have hNa := hnewM_fs false ho (m := 16 + (mo : Int)) (by omega) (by omega)
  have hNb := hnewM_fs true ho (m := 16 + (mo : Int)) (by omega) (by omega)
  have hsl := sayL_flat (ord % 2 : Nat) K
  have hsm : ∀ x ∈ sayL (ord % 2 : Nat) K, 4 ≤ x.length ∧ ∀ y, tlenR (ord % 2 : Nat) (x ++ y) = ((x.length : Int), 0) := fun x hx => sayL_mem hx
  generalize sayL (ord % 2 : Nat) K = L at *
  rw [← hsl] at hSy
  have hm1 : (16 : Int) ≤ 16 + (mo : Int) := by omega
  have hm2 : 16 + (mo : Int) ≤ 1024 := by omega
  generalize hmm : 16 + (mo : Int) = m at hNa hNb hm1 hm2
  have hw16' : IntKind.i64.wrap (16 + (mo : Int)) = m := by rw [hw16]; exact hmm
  clear hw16
  generalize (ord % 2 : Nat) = o at *
  simp -implicitDefEqProofs only [push_cast, hor, hwm, hw16', cf_len, cf_take, cf_back, cf_drop, List.append_nil, seval]
  refine callE_p hNa ?_
  simp -implicitDefEqProofs only [push_cast, hwm, hw16', cf_len, cf_take, cf_back, cf_drop, List.append_nil, seval]
  (repeat refine and_o ?_)
  refine callE_p hNb ?_
  simp -implicitDefEqProofs only [push_cast, cf_len, cf_take, cf_back, cf_drop, List.append_nil, seval]
  (repeat refine and_o ?_)
  refine callE_p hA ?_
  simp -implicitDefEqProofs only [push_cast, cf_len, cf_take, cf_back, cf_drop, List.append_nil, seval]
  refine callE_p hSy ?_
  cases c1 : decide ((3000 : Int) < (B.length : Int)) with
  | true =>
   simp -implicitDefEqProofs only [push_cast, c1, cf_len, cf_take, cf_back, cf_drop, List.append_nil, seval]
   (repeat refine and_o ?_)
   refine callE_p hw ?_
   simp -implicitDefEqProofs only [push_cast, seval]
   all_goals (first | done | rfl | exact ⟨_, rfl, by simp [wkL, res2, res1, PV.weak, PV.el]⟩ | (simp [wkL, res2, res1, PV.weak, PV.el]; done))
  | false =>
  cases c2 : decide ((3000 : Int) < (L.flatten.length : Int)) with
  | true =>
   simp -implicitDefEqProofs only [push_cast, c1, c2, cf_len, cf_take, cf_back, cf_drop, List.append_nil, seval]
   (repeat refine and_o ?_)
   refine callE_p hw ?_
   simp -implicitDefEqProofs only [push_cast, seval]
   all_goals (first | done | rfl | exact ⟨_, rfl, by simp [wkL, res2, res1, PV.weak, PV.el]⟩ | (simp [wkL, res2, res1, PV.weak, PV.el]; done))
  | false =>
   have hB3 : B.length ≤ 3000 := by simp at c1; omega
   have hL3 : L.flatten.length ≤ 3000 := by have := of_decide_eq_false c2; omega
   obtain ⟨M, e1, ⟨e2, e3⟩, e4, e5⟩ := near_is (m := m) ho (by omega) hm2 (x := B) hB3
   obtain ⟨n1, n2⟩ := nearT_is (m := m) ho (by omega) hm2 hsm hL3
   have hNear := near_fs (hfM false m o) B rfl (hfM_ok false ho (by omega) hm2 (0 + B.length) (by omega))
   have hNearT := nearT_fs (hfM true m o) L.flatten rfl rfl (hfM_ok true ho (by omega) hm2 (0 + L.flatten.length) (by omega))
   have hReq := reqs_fs ho B (by omega)
   have hMl := mem4_len M e2
   have hJoin := join_fs M [] (by omega) (by rw [join_flat]; omega)
   rw [join_flat] at hJoin
   rw [e1] at hReq
   have hNear' : Fsp Tryz.prog 11 [] 0 [.agg ((hfM false m o).cf (lenF false)), .str B] [] 0 (.tup [.agg (((hfM false m o).near B).cf (lenF false)), .int .i64 0]) := hNear
   have hNearT' : Fsp Tryz.prog 11 [] 0 [.agg ((hfM true m o).cf (lenF true)), .str L.flatten] [] 0 (.tup [.agg (((hfM true m o).nearT L.flatten).cf (lenF true)), .int .i64 0]) := hNearT
   clear hNear hNearT
   generalize (hfM false m o).near B = W at *
   generalize (hfM true m o).nearT L.flatten = V at *
   generalize hfM false m o = h0 at *
   generalize hfM true m o = hS at *
   have hDb := fdead_fs (lenF true) V
   have hDa := fdead_fs (lenF false) W
   rw [n1.dd] at hDb
   simp only at hReq
   cases hd : W.dd with
   | true =>
    rw [hd] at hDa hReq
    simp -implicitDefEqProofs only [push_cast, c1, c2, cf_len, cf_take, cf_back, cf_drop, List.append_nil, seval]
    (repeat refine and_o ?_)
    refine callE_p hNear' ?_
    simp -implicitDefEqProofs only [push_cast, cf_len, cf_take, cf_back, cf_drop, List.append_nil, seval]
    (repeat refine and_o ?_)
    refine callE_p hNearT' ?_
    simp -implicitDefEqProofs only [push_cast, cf_len, cf_take, cf_back, cf_drop, List.append_nil, seval]
    (repeat refine and_o ?_)
    refine callE_p hDb ?_
    simp -implicitDefEqProofs only [push_cast, cf_len, cf_take, cf_back, cf_drop, List.append_nil, seval]
    refine callE_p hReq ?_
    simp -implicitDefEqProofs only [push_cast, cf_len, cf_take, cf_back, cf_drop, List.append_nil, seval]
    refine callE_p hJoin ?_
    simp -implicitDefEqProofs only [push_cast, cf_len, cf_take, cf_back, cf_drop, List.append_nil, seval]
    refine callE_p hDa ?_
    simp -implicitDefEqProofs only [push_cast, bne_self_eq_false, cf_len, cf_take, cf_back, cf_drop, List.append_nil, seval]
    (repeat refine and_o ?_)
    refine callE_p hDa ?_
    simp -implicitDefEqProofs only [push_cast, beq_self_eq_true, cf_len, cf_take, cf_back, cf_drop, List.append_nil, seval]
    refine callE_p hw ?_
    simp -implicitDefEqProofs only [push_cast, seval]
    all_goals (first | done | rfl | exact ⟨_, rfl, by simp [wkL, res2, res1, PV.weak, PV.el]⟩ | (simp [wkL, res2, res1, PV.weak, PV.el]; done))
   | false =>
    have hSys := sys_new (e4 hd) n1 hm1 hm2
    rw [hd] at hDa hReq
    simp -implicitDefEqProofs only [push_cast, c1, c2, cf_len, cf_take, cf_back, cf_drop, List.append_nil, seval]
    (repeat refine and_o ?_)
    refine callE_p hNear' ?_
    simp -implicitDefEqProofs only [push_cast, cf_len, cf_take, cf_back, cf_drop, List.append_nil, seval]
    (repeat refine and_o ?_)
    refine callE_p hNearT' ?_
    simp -implicitDefEqProofs only [push_cast, cf_len, cf_take, cf_back, cf_drop, List.append_nil, seval]
    (repeat refine and_o ?_)
    refine callE_p hDb ?_
    simp -implicitDefEqProofs only [push_cast, cf_len, cf_take, cf_back, cf_drop, List.append_nil, seval]
    refine callE_p hReq ?_
    simp -implicitDefEqProofs only [push_cast, cf_len, cf_take, cf_back, cf_drop, List.append_nil, seval]
    refine callE_p hJoin ?_
    simp -implicitDefEqProofs only [push_cast, cf_len, cf_take, cf_back, cf_drop, List.append_nil, seval]
    refine callE_p hDa ?_
    simp -implicitDefEqProofs only [push_cast, bne_self_eq_false, cf_len, cf_take, cf_back, cf_drop, List.append_nil, tnL_length, seval]
    (repeat refine and_o ?_)
    clear e1 e4 n1 hReq hNear' hNearT' hDa hDb hJoin
    refine loopC_of (α := PtA M L T) (PtA.st M.flatten L.flatten) (fun s => T.length - s.i) ⟨0, W, V, [], [], by omega, e5, n2, hSys⟩ ?_ ?_
    ·(simp only [PtA.st, PtA.O]; exact Wk.at _ _ _ [(0, 57), (1, 101)] [] [] (by simp) (by simp [wkV, PV.el, PV.weak, PS.get, PS.obj, PS.lv, lkp_hit, lkp_miss, lkp_nil, lko, wkL, wkC, res1, PtA.O, cf_wk]) (by simp [PS.get, PS.obj, PS.lv, lkp_hit, lkp_miss, lkp_nil, lko, wkL, wkC, PV.weak, wkL, wkC, res1, PtA.O, cf_wk]))
    clear hSys n2 e5
    rintro ⟨i, a, b, th, bk, hi, ha, hb, hs⟩
    simp only [PtA.st, PtA.O]
    simp -implicitDefEqProofs only [push_cast, tnL_length, seval]
    refine condC_split (fun g2 => ?_) (fun g2 => ?_)
    ·have hlt : i < T.length := by simp at g2; omega
     have hgt := tn_at hlt
     have hwi : IntKind.i64.wrap ((i : Int) + 1) = ((i + 1 : Nat) : Int) := by (rw [wrap_i64_id (by omega) (by omega)]; rfl)
     have ht : (T.getD i tn0).d < 256 ∧ (T.getD i tn0).l < 65536 := by
      refine hT _ ?_
      rw [List.getD_eq_getElem?_getD, List.getElem?_eq_getElem hlt]
      exact List.getElem_mem hlt
     generalize T.getD i tn0 = t at *
     obtain ⟨d, lo⟩ := t
     simp only at ht
     have hTu := turn_fs d lo ht.1 ht.2 (lenF false) (lenF true) a b (3022 + 34 * i) ha hb (by omega)
     have hs1 := sys_turn hs d lo
     obtain ⟨hc1, hc2⟩ := C_turn ha hb d lo
     generalize turnR d lo a b = R at *
     obtain ⟨a1, b1⟩ := R
     simp only at hTu hs1 hc1 hc2
     obtain ⟨p1, d1⟩ := hs1.begins
     obtain ⟨p2, d2⟩ := hs1.flip.begins
     have hl1 := p1.length_le
     have hl2 := p2.length_le
     rw [List.length_append] at hl1 hl2
     have hP1 := hasPrefix_fs _ _ p1 (by omega)
     have hP2 := hasPrefix_fs _ _ p2 (by omega)
     have hOb := outF_fs (lenF true) b1
     have hOa := outF_fs (lenF false) a1
     have hDb := deadF_fs (lenF true) b1 d1
     have hDa := deadF_fs (lenF false) a1 d2
     have hs3 : Sys M L a1.ou b1.ou (th ++ b1.out) (bk ++ a1.out) := hs1.outs.flip.outs.flip
     have hc3 : a1.ou.C (3022 + 34 * (i + 1)) := (C_out hc1).up (by omega)
     have hc4 : b1.ou.C (3022 + 34 * (i + 1)) := (C_out hc2).up (by omega)
     clear hs1 hc1 hc2 p1 p2 d1 d2
     generalize b1.out = xo at *
     generalize a1.out = yo at *
     generalize a1.ou = a2 at *
     generalize b1.ou = b2 at *
     simp only [Tn.pv] at hgt
     simp -implicitDefEqProofs only [push_cast, hgt, cf_len, cf_take, cf_back, cf_drop, List.append_nil, tnL_length, seval]
     (repeat refine and_o ?_)
     refine callE_p hTu ?_
     simp -implicitDefEqProofs only [push_cast, cf_len, cf_take, cf_back, cf_drop, List.append_nil, seval]
     (repeat refine and_o ?_)
     refine callE_p hOb ?_
     simp -implicitDefEqProofs only [push_cast, cf_len, cf_take, cf_back, cf_drop, List.append_nil, seval]
     (repeat refine and_o ?_)
     refine callE_p hOa ?_
     simp -implicitDefEqProofs only [push_cast, cf_len, cf_take, cf_back, cf_drop, List.append_nil, seval]
     (repeat refine and_o ?_)
     refine callE_p hP1 ?_
     simp -implicitDefEqProofs only [push_cast, cf_len, cf_take, cf_back, cf_drop, List.append_nil, seval]
     refine callE_p hP2 ?_
     simp -implicitDefEqProofs only [push_cast, cf_len, cf_take, cf_back, cf_drop, List.append_nil, seval]
     refine callE_p hDa ?_
     simp -implicitDefEqProofs only [push_cast, cf_len, cf_take, cf_back, cf_drop, List.append_nil, seval]
     refine callE_p hDb ?_
     simp -implicitDefEqProofs only [push_cast, cf_len, cf_take, cf_back, cf_drop, List.append_nil, hwi, seval]
     (repeat refine and_o ?_)
     refine ⟨⟨i + 1, a2, b2, th ++ xo, bk ++ yo, hlt, hc3, hc4, hs3⟩, by simp only; omega, ?_⟩
     (simp only [PtA.st, PtA.O]; exact Wk.at _ _ _ [(0, 0), (1, 1)] [] [] (by simp) (by simp [wkV, PV.el, PV.weak, PS.get, PS.obj, PS.lv, lkp_hit, lkp_miss, lkp_nil, lko, wkL, wkC, res1, PtA.O, cf_wk]) (by simp [PS.get, PS.obj, PS.lv, lkp_hit, lkp_miss, lkp_nil, lko, wkL, wkC, PV.weak, wkL, wkC, res1, PtA.O, cf_wk]))
    ·have hie : i = T.length := by simp at g2; omega
     subst hie
     have hCalm := calm_fs (lenF false) (lenF true) 80 a b (3022 + 34 * T.length) ha hb (by omega)
     obtain ⟨x, y, hxy, q1, q2, w1, w2, k1, k2⟩ := calm_end hs
     rw [hxy] at hCalm
     have hOy := outF_fs (lenF true) y
     have hOx := outF_fs (lenF false) x
     have hQx := quietF_fs (lenF false) x w1 k1
     have hQy := quietF_fs (lenF true) y w2 k2
     have hl1 := congrArg List.length q1
     have hl2 := congrArg List.length q2
     rw [List.length_append] at hl1 hl2
     simp only at hCalm
     generalize y.out = xo at *
     generalize x.out = yo at *
     generalize x.ou = a2 at *
     generalize y.ou = b2 at *
     simp -implicitDefEqProofs only [push_cast, cf_len, cf_take, cf_back, cf_drop, List.append_nil, seval]
     refine callE_p hCalm ?_
     simp -implicitDefEqProofs only [push_cast, cf_len, cf_take, cf_back, cf_drop, List.append_nil, seval]
     (repeat refine and_o ?_)
     refine callE_p hOy ?_
     simp -implicitDefEqProofs only [push_cast, cf_len, cf_take, cf_back, cf_drop, List.append_nil, seval]
     (repeat refine and_o ?_)
     refine callE_p hOx ?_
     simp -implicitDefEqProofs only [push_cast, q1, q2, beq_self_eq_true, cf_len, cf_take, cf_back, cf_drop, List.append_nil, seval]
     (repeat refine and_o ?_)
     refine callE_p hQx ?_
     simp -implicitDefEqProofs only [push_cast, cf_len, cf_take, cf_back, cf_drop, List.append_nil, seval]
     refine callE_p hQy ?_
     simp -implicitDefEqProofs only [push_cast, cf_len, cf_take, cf_back, cf_drop, List.append_nil, seval]
     refine callE_p hw ?_
     simp -implicitDefEqProofs only [push_cast, seval]
     (repeat (first | refine ⟨(by omega : _ ≤ _), ?_⟩ | refine ⟨(by omega : _ < _), ?_⟩ | refine ⟨(by simp; omega), ?_⟩ | refine ⟨(by simp; done), ?_⟩ | refine ⟨(by (unfold drawOk; kernel_rfl)), ?_⟩))
     all_goals (first | done | rfl | exact ⟨_, rfl, by simp [wkL, res2, res1, PV.weak, PV.el]⟩ | (simp [wkL, res2, res1, PV.weak, PV.el]; done))
end Go.Proofs.Sh
