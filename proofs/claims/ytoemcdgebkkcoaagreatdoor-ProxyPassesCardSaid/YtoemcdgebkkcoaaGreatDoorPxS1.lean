/- A half beside a client: whole messages. -/
import Derived.Test.YtoemcdgebkkcoaaGreatDoorPvYa
import Derived.Test.YtoemcdgebkkcoaaGreatDoorPxC5
import Derived.Test.YtoemcdgebkkcoaaGreatDoorPkPLen
import Derived.Test.YtoemcdgebkkcoaaGreatDoorLkNumd
set_option maxRecDepth 100000
set_option linter.unusedSimpArgs false
set_option linter.unusedVariables false
namespace Go.Proofs.Sh
open Go.Pv
open Lk (En Pc)
structure Hf where
 o : Int
 bg : Bool
 s : Cc
 l : Cc
 e : En
 nr : Bys
 fr : Bys
 out : Bys
 dd : Bool
def Hf.cs (h : Hf) : List PV :=
 [.fn 33 [], .int .i64 h.o, .bool h.bg, .int .i64 h.s.m, .sl 1 (sts h.s.k), .int .i64 h.l.m, .sl 1 (sts h.l.k),
  .int .i64 h.e.most, .sl 3 (h.e.way.map Lk.Pc.pv), .int .i64 h.e.next, .str h.e.rest, .int .i64 h.e.exp, .str (h.e.aside 0), .str (h.e.aside 1), .str (h.e.aside 2), .str (h.e.aside 3), .str (h.e.aside 4), .str (h.e.aside 5), .str (h.e.aside 6), .str (h.e.aside 7),
  .str (h.e.aside 8), .str (h.e.aside 9), .str (h.e.aside 10), .str (h.e.aside 11), .str (h.e.aside 12), .str (h.e.aside 13), .str (h.e.aside 14), .str (h.e.aside 15), .str h.e.read, .bool h.e.ack,
  .str h.nr, .str h.fr, .str h.out, .bool h.dd]
def Hf.pv (h : Hf) : PV := .agg h.cs
def beg (o : Int) : Bys := if (o == 0) = true then [108, 1, 0, 0] else [66, 1, 0, 0]
theorem beg_length (o : Int) : (beg o).length = 4 := by unfold beg; split <;> rfl
theorem begin_fs {o : Int} (ho : isOrder o) : Fsp Tryz.prog 31 [] 0 [.int .i64 o] [] 0 (.str (beg o)) := by
 rcases ho with rfl | rfl
 ·exact run0_fs (by kernel_rfl)
 ·exact run0_fs (by kernel_rfl)
theorem messages_fs (h : Hf) : Fsp Tryz.prog 35 [h.cs] 0 [.box 0 0] [h.cs, [.box 0 0]] 0 (.fn 64 [.box 1 0]) := by
 (refine Fsp.of (nx := 1) mixed Tryz.func35 rfl (by decide) (by first | exact Nat.le_refl _ | simp) (by simp [Tryz.f35]) ⟨by simp, by simp⟩ ?_; simp -implicitDefEqProofs only [push_cast, Tryz.f35, Hf.cs, seval])
 exact endK_box [] [0, 1] rfl rfl (by simp [PS.lv, lkp_hit, lkp_miss, lkp_nil]) rfl rfl (by rfl) (fun i j ps h1 h2 => by (rcases i with _ | _ | i <;> simp at h1 h2 <;> (subst h1; subst h2; exact ⟨_, rfl, (by (repeat' (first | exact wkL_nil | refine wkL_cons ?_ ?_)); all_goals (first | rfl | exact ⟨rfl, rfl⟩ | exact ⟨rfl, rfl, rfl⟩ | exact .inl rfl))⟩))) ⟨by simp [resOk, PS.get, lkp_hit, lkp_miss, PS.ev], by simp [resPV, PS.get, lkp_hit, lkp_miss, PS.ev], by simp [resOf, resPV, one', res3, res2, res1, PS.get, lkp_hit, lkp_miss, PS.ev, PV.weak, PV.el, wkL]⟩
def Hf.wh (h : Hf) : Int × Bool × Bool :=
 if h.bg = true then
  (if ((lenR h.o h.nr).2 == 3) = true then (0, false, h.dd) else ((lenR h.o h.nr).1, (!((lenR h.o h.nr).2 != 0)) && decide ((lenR h.o h.nr).1 ≤ (h.nr.length : Int)), (lenR h.o h.nr).2 != 0))
 else (if decide ((h.nr.length : Int) < 4) = true then (0, false, h.dd) else (4, !(h.nr.take 4 != beg h.o), h.nr.take 4 != beg h.o))
theorem whole_fs (h : Hf) (ho : isOrder h.o) : Fsp Tryz.prog 65 [h.cs] 0 [.box 0 0] [({ h with dd := h.wh.2.2 } : Hf).cs] 0 (.tup [.int .i64 h.wh.1, .bool h.wh.2.1]) := by
 have hb := begin_fs ho
 have hl := packLen_fs h.o h.nr
 have hbl := beg_length h.o
 generalize hW : h.wh = W
 rw [Hf.wh] at hW
 obtain ⟨o, bg, s, l, e, nr, fr, out, dd⟩ := h
 simp only at *
 cases bg with
 | false =>
  rw [if_neg (by decide)] at hW
  (refine Fsp.of (nx := 1) mixed Tryz.func65 rfl (by decide) (by first | exact Nat.le_refl _ | simp) (by simp [Tryz.f65]) ⟨by simp, by simp⟩ ?_; simp -implicitDefEqProofs only [push_cast, Tryz.f65, Hf.cs, seval])
  refine callE_p hb ?_
  simp -implicitDefEqProofs only [push_cast, hbl, seval]
  refine condC_split (fun g1 => ?_) (fun g1 => ?_)
  ·rw [if_pos g1] at hW
   subst hW
   simp -implicitDefEqProofs only [push_cast, seval]
   exact endK_box [] [0] rfl rfl (by simp [PS.lv, lkp_hit, lkp_miss, lkp_nil]) rfl rfl (by rfl) (fun i j ps h1 h2 => by (rcases i with _ | i <;> simp at h1 h2 <;> (subst h1; subst h2; exact ⟨_, rfl, (by (repeat' (first | exact wkL_nil | refine wkL_cons ?_ ?_)); all_goals (first | rfl | exact ⟨rfl, rfl⟩ | exact ⟨rfl, rfl, rfl⟩ | exact .inl rfl))⟩))) ⟨by simp [resOk, PS.get, lkp_hit, lkp_miss, PS.ev], by simp [resPV, PS.get, lkp_hit, lkp_miss, PS.ev], by simp [resOf, resPV, one', res3, res2, res1, PS.get, lkp_hit, lkp_miss, PS.ev, PV.weak, PV.el, wkL]⟩
  ·rw [if_neg (by rw [g1]; exact Bool.false_ne_true)] at hW
   subst hW
   have h4 : 4 ≤ nr.length := by simp at g1; omega
   simp -implicitDefEqProofs only [push_cast, hbl, seval]
   (repeat (first | refine ⟨(by omega : _ ≤ _), ?_⟩ | refine ⟨(by omega : _ < _), ?_⟩ | refine ⟨(by simp [sts_length]; omega), ?_⟩ | refine ⟨(by simp [sts_length]), ?_⟩ | refine ⟨(by (unfold drawOk; kernel_rfl)), ?_⟩))
   exact endK_box [] [0] rfl rfl (by simp [PS.lv, lkp_hit, lkp_miss, lkp_nil]) rfl rfl (by rfl) (fun i j ps h1 h2 => by (rcases i with _ | i <;> simp at h1 h2 <;> (subst h1; subst h2; exact ⟨_, rfl, (by (repeat' (first | exact wkL_nil | refine wkL_cons ?_ ?_)); all_goals (first | rfl | exact ⟨rfl, rfl⟩ | exact ⟨rfl, rfl, rfl⟩ | exact .inl rfl))⟩))) ⟨by simp [resOk, PS.get, lkp_hit, lkp_miss, PS.ev], by simp [resPV, PS.get, lkp_hit, lkp_miss, PS.ev], by simp [resOf, resPV, one', res3, res2, res1, PS.get, lkp_hit, lkp_miss, PS.ev, PV.weak, PV.el, wkL]⟩
 | true =>
  rw [if_pos rfl] at hW
  generalize (lenR o nr).1 = n1 at *
  generalize (lenR o nr).2 = n2 at *
  (refine Fsp.of (nx := 1) mixed Tryz.func65 rfl (by decide) (by first | exact Nat.le_refl _ | simp) (by simp [Tryz.f65]) ⟨by simp, by simp⟩ ?_; simp -implicitDefEqProofs only [push_cast, Tryz.f65, Hf.cs, seval])
  refine callE_p hl ?_
  simp -implicitDefEqProofs only [push_cast, seval]
  (repeat (first | refine ⟨(by omega : _ ≤ _), ?_⟩ | refine ⟨(by omega : _ < _), ?_⟩ | refine ⟨(by simp [sts_length]; omega), ?_⟩ | refine ⟨(by simp [sts_length]), ?_⟩ | refine ⟨(by (unfold drawOk; kernel_rfl)), ?_⟩))
  refine condC_split (fun g1 => ?_) (fun g1 => ?_)
  ·rw [if_pos g1] at hW
   subst hW
   simp -implicitDefEqProofs only [push_cast, seval]
   exact endK_box [] [0] rfl rfl (by simp [PS.lv, lkp_hit, lkp_miss, lkp_nil]) rfl rfl (by rfl) (fun i j ps h1 h2 => by (rcases i with _ | i <;> simp at h1 h2 <;> (subst h1; subst h2; exact ⟨_, rfl, (by (repeat' (first | exact wkL_nil | refine wkL_cons ?_ ?_)); all_goals (first | rfl | exact ⟨rfl, rfl⟩ | exact ⟨rfl, rfl, rfl⟩ | exact .inl rfl))⟩))) ⟨by simp [resOk, PS.get, lkp_hit, lkp_miss, PS.ev], by simp [resPV, PS.get, lkp_hit, lkp_miss, PS.ev], by simp [resOf, resPV, one', res3, res2, res1, PS.get, lkp_hit, lkp_miss, PS.ev, PV.weak, PV.el, wkL]⟩
  ·rw [if_neg (by rw [g1]; exact Bool.false_ne_true)] at hW
   subst hW
   simp -implicitDefEqProofs only [push_cast, seval]
   (repeat (first | refine ⟨(by omega : _ ≤ _), ?_⟩ | refine ⟨(by omega : _ < _), ?_⟩ | refine ⟨(by simp [sts_length]; omega), ?_⟩ | refine ⟨(by simp [sts_length]), ?_⟩ | refine ⟨(by (unfold drawOk; kernel_rfl)), ?_⟩))
   exact endK_box [] [0] rfl rfl (by simp [PS.lv, lkp_hit, lkp_miss, lkp_nil]) rfl rfl (by rfl) (fun i j ps h1 h2 => by (rcases i with _ | i <;> simp at h1 h2 <;> (subst h1; subst h2; exact ⟨_, rfl, (by (repeat' (first | exact wkL_nil | refine wkL_cons ?_ ?_)); all_goals (first | rfl | exact ⟨rfl, rfl⟩ | exact ⟨rfl, rfl, rfl⟩ | exact .inl rfl))⟩))) ⟨by simp [resOk, PS.get, lkp_hit, lkp_miss, PS.ev], by simp [resPV, PS.get, lkp_hit, lkp_miss, PS.ev], by simp [resOf, resPV, one', res3, res2, res1, PS.get, lkp_hit, lkp_miss, PS.ev, PV.weak, PV.el, wkL]⟩
end Go.Proofs.Sh
set_option maxRecDepth 100000
set_option linter.unusedSimpArgs false
set_option linter.unusedVariables false
namespace Go.Proofs.Sh
open Go.Pv
open Lk (En Pc)
theorem chgP_len : ∀ (a b : Bys) (i : Nat), (chgP a b i).length ≤ 3 * a.length
 | [], b, i => by cases b <;> simp [chgP]
 | x :: a, [], i => by simp [chgP]
 | x :: a, y :: b, i => by
  have := chgP_len a b (i + 1)
  unfold chgP
  split
  ·simp only [List.length_append, List.length_cons, List.length_nil]; omega
  ·simp only [List.length_append, List.length_cons, List.length_nil]; omega
theorem sh_len (c : Cc) (b : Bys) : (c.sh b).length ≤ 2 + 3 * b.length := by
 have hnx := nearL_at b c.k 0 (-1) 0 c.k (fun j x hx => by rwa [Nat.zero_add]) (.inl rfl)
 unfold Cc.sh
 split
 ·simp
 ·split
  ·rename_i h1 h2
   rcases hnx with h | ⟨j, h, x, hx, hl⟩
   ·rw [h] at h2; exact absurd (by rw [Bool.and_eq_true] at h2; exact h2.1) (by decide)
   ·rw [h, Int.toNat_natCast, List.getD_eq_getElem?_getD, hx]
    have := chgP_len x b 0
    simp only [Option.getD_some, List.length_append, List.length_map, List.length_cons, List.length_nil]
    omega
  ·simp only [List.length_cons]; omega
structure Cc.Ok (c : Cc) : Prop where
 m0 : 1 ≤ c.m
 m1 : c.m ≤ 64
 k : c.k.length ≤ 64
 b : ∀ x ∈ c.k, x.length ≤ 65536
theorem wiL_mem (b : Bys) (L : List Bys) : ∀ x ∈ wiL b L, x = b ∨ x ∈ L := by
 intro x hx
 unfold wiL at hx
 split at hx
 ·rcases List.mem_cons.1 hx with h | h
  ·exact .inl h
  ·rcases List.mem_append.1 h with h | h
   ·exact .inr (List.mem_of_mem_take h)
   ·exact .inr (List.mem_of_mem_drop h)
 ·rcases List.mem_cons.1 hx with h | h
  ·exact .inl h
  ·exact .inr h
theorem Cc.Ok.put {c : Cc} (h : c.Ok) {b : Bys} (hb : b.length ≤ 65536) : (c.put b).Ok :=
 ⟨h.m0, h.m1, by have := h.m1; show ((wiL b c.k).take c.m).length ≤ 64; rw [List.length_take]; omega, fun x hx => by
   rcases wiL_mem b c.k x (List.mem_of_mem_take hx) with h1 | h1
   ·rw [h1]; exact hb
   ·exact h.b x h1⟩
theorem Cc.Ok.fs {c : Cc} (h : c.Ok) {b : Bys} (hb : b.length ≤ 65536) : Fsp Tryz.prog 22 [] 0 [c.pv, .str b] [] 0 (.tup [(c.put b).pv, .str (c.sh b), .int .i64 0]) :=
 cput_fs c b h.m0 h.m1 (by have := h.k; omega) (fun x hx => by have := h.b x hx; omega) hb
structure EnR (e : En) (r : Nat) : Prop where
 m0 : 1 ≤ e.most
 m1 : e.most ≤ 1000000
 w : e.way.length ≤ 16
 wb : ∀ p ∈ e.way, p.b.length ≤ 1000000
 n0 : 0 ≤ e.next
 n1 : e.next + 17 * r ≤ 1000000000
 q : e.tot + 5 * r ≤ 65536
 e0 : 0 ≤ e.exp
 e1 : e.exp ≤ 1000000000
 a16 : ∀ j, 16 ≤ j → e.aside j = []
 al : ∀ j, (e.aside j).length ≤ 1000000
 rl : e.read.length ≤ 1000000000
theorem EnR.ok {e : En} {r : Nat} (h : EnR e r) : e.Ok :=
 ⟨by have := h.m0; omega, h.m1, h.w, h.wb, h.n0, by have := h.n1; omega, by have := h.q; unfold En.tot at this; omega, h.e0, h.e1, h.a16, h.al, h.rl⟩
theorem EnR.send {e : En} {r n : Nat} (h : EnR e r) (hn : 4 ≤ n) (hr : n ≤ r) {b : Bys} (hb : b.length ≤ 6 + 3 * n) : EnR (e.sendE b) (r - n) := by
 have hq := h.q
 have hm := h.m0
 have i1 := Lk.numL_numd 17 { e with rest := e.rest ++ b } (by simp only; omega) h.w
 have e1 : (e.sendE b) = Lk.numL 17 { e with rest := e.rest ++ b } := rfl
 rw [e1]
 generalize Lk.numL 17 { e with rest := e.rest ++ b } = f at *
 have im := i1.most; have ie := i1.exp; have ia := i1.aside; have ir := i1.read; have it := i1.tot; have il := i1.le; have inn := i1.next
 simp only at im ie ia ir il inn
 have ht : En.tot { e with rest := e.rest ++ b } = e.tot + b.length := by unfold En.tot; simp only [List.length_append]; omega
 rw [ht] at it
 refine ⟨by omega, by have := h.m1; omega, i1.way, i1.bs 1000000 h.wb (by have := h.m1; simp only; omega), by have := h.n0; omega, ?_, by omega, by have := h.e0; omega, by have := h.e1; omega, by rw [ia]; exact h.a16, by rw [ia]; exact h.al, by rw [ir]; exact h.rl⟩
 have h1 := h.n1
 have h2 : (17 : Int) * ((r - n : Nat) : Int) = 17 * (r : Int) - 17 * (n : Int) := by rw [Int.ofNat_sub hr]; omega
 rw [h2]
 omega
theorem EnR.fs {e : En} {r n : Nat} (h : EnR e r) (hn : 4 ≤ n) (hr : n ≤ r) {b : Bys} (hb : b.length ≤ 6 + 3 * n) : Fsp Tryz.prog 23 [] 0 [e.pv, .str b] [] 0 (.tup [(e.sendE b).pv, .int .i64 0]) := by
 have hq := h.q
 have hm := h.m0
 have := Lk.send_fs e b h.ok (by omega)
 unfold Lk.sendR at this
 rw [if_neg (by simp; omega), if_neg (by unfold En.tot at hq; simp only [decide_eq_true_eq]; omega)] at this
 exact this
def frame (s : Bys) : Bys := putS 1 4 (s.length : Int) ++ s
theorem putS_4 {n : Nat} (h : n ≤ 1000000) : (putS 1 4 (n : Int)).length = 4 ∧ putE 4 (n : Int) = 0 := by
 have hf : fitsN 4 (n : Int) = true := by simp [fitsN, low, high]; omega
 unfold putS putE
 rw [if_pos hf, if_pos hf, encB_length]
 exact ⟨rfl, rfl⟩
def Hf.stp (h : Hf) (m : Bys) : Hf := { h with s := h.s.put m, e := h.e.sendE (frame (h.s.sh m)) }
structure Hf.Ok (h : Hf) (r : Nat) : Prop where
 o : isOrder h.o
 s : h.s.Ok
 e : EnR h.e r
theorem wh_n {h : Hf} (ho : isOrder h.o) (hw : h.wh.2.1 = true) : ∃ n : Nat, h.wh.1 = (n : Int) ∧ 4 ≤ n ∧ n ≤ h.nr.length ∧ n ≤ 65536 ∧ h.wh.2.2 = false := by
 obtain ⟨o, bg, s, l, e, nr, fr, out, dd⟩ := h
 unfold Hf.wh at hw ⊢
 simp only at *
 have hO : isOrd o = true := by rcases ho with rfl | rfl <;> rfl
 cases bg with
 | false =>
  simp only [Bool.false_eq_true, if_false] at hw ⊢
  split at hw
  ·cases hw
  ·rename_i h1
   rw [if_neg h1]
   simp only at hw ⊢
   have h4 : 4 ≤ nr.length := by simp at h1; omega
   refine ⟨4, rfl, Nat.le_refl _, h4, by omega, ?_⟩
   simpa using hw
 | true =>
  simp only [if_true] at hw ⊢
  split at hw
  ·cases hw
  ·rename_i h1
   rw [if_neg h1]
   simp only at hw ⊢
   unfold lenR at hw h1 ⊢
   rw [if_pos hO] at hw h1 ⊢
   split at hw
   ·rename_i h2; rw [if_pos h2] at h1; exact absurd rfl h1
   ·rename_i h2
    rw [if_neg h2] at h1 ⊢
    split at hw
    ·simp at hw
    ·rename_i h3
     rw [if_neg h3] at h1 ⊢
     split at hw
     ·simp at hw
     ·rename_i h5
      rw [if_neg h5]
      simp only at hw ⊢
      have : ((4 * lenN o nr : Nat) : Int) ≤ (nr.length : Int) := by simpa using hw
      exact ⟨4 * lenN o nr, rfl, by omega, by omega, by omega, rfl⟩
def Hf.run : Nat → Hf → Hf
 | 0, h => h
 | f + 1, h =>
  if h.dd = true then h
  else if h.wh.2.1 = true then Hf.run f (Hf.stp { h with dd := h.wh.2.2, bg := true, nr := h.nr.drop h.wh.1.toNat } (h.nr.take h.wh.1.toNat))
  else { h with dd := h.wh.2.2 }
theorem Hf.Ok.stp {h : Hf} {r n : Nat} (H : h.Ok r) (hn : 4 ≤ n) (hr : n ≤ r) {m : Bys} (hm : m.length = n) (hm2 : n ≤ 65536) (nr : Bys) : (Hf.stp { h with dd := false, bg := true, nr := nr } m).Ok (r - n) := by
 have hs := sh_len h.s m
 have h4 := (putS_4 (n := (h.s.sh m).length) (by have := H.e.q; omega)).1
 exact ⟨H.o, H.s.put (by omega), H.e.send hn hr (by unfold frame; rw [List.length_append, h4]; simp only; omega)⟩
end Go.Proofs.Sh
set_option maxRecDepth 100000
set_option linter.unusedSimpArgs false
set_option linter.unusedVariables false
namespace Go.Proofs.Sh
open Go.Pv
open Lk (En Pc)
def Hf.cut (h : Hf) : Hf := if h.dd = true then { h with nr := [] } else h
def Hf.near (h : Hf) (b : Bys) : Hf := (Hf.run (h.nr.length + b.length + 1) { h with nr := h.nr ++ b }).cut
def hzC : List PV := [.nilfn, .int .i64 0, .bool false, .int .i64 0, .nilsl, .int .i64 0, .nilsl, .int .i64 0, .nilsl, .int .i64 0, .str [], .int .i64 0, .str [], .str [], .str [], .str [], .str [], .str [], .str [], .str [], .str [], .str [], .str [], .str [], .str [], .str [], .str [], .str [], .str [], .bool false, .str [], .str [], .str [], .bool false]
structure NmA (R : Hf) where
 h : Hf
 f : Nat
 hf : h.nr.length < f
 ok : h.Ok h.nr.length
 e : Hf.run f h = R
def NmA.O (h : Hf) : List (Nat × Option (List PV)) := [(0, some h.cs), (1, some hzC), (2, some [.int .i64 0]), (3, some [.box 0 0])]
def NmA.st {R : Hf} (a : NmA R) : PS := { n := 40, env := [(1, .box 3 0), (0, .yld 4)], objs := NmA.O a.h, live := [], nxt := 5 }
set_option maxHeartbeats 4000000 in
theorem near_fs (h : Hf) (b : Bys) (hd : h.dd = false) (H : h.Ok (h.nr.length + b.length)) : Fsp Tryz.prog 11 [] 0 [h.pv, .str b] [] 0 (.tup [(h.near b).pv, .int .i64 0]) := by
 have hM := messages_fs { h with nr := h.nr ++ b }
 unfold Hf.pv
 generalize hR : h.near b = R
 unfold Hf.near at hR
 obtain ⟨o, bg, s, l, e, nr, fr, out, dd⟩ := h
 simp only at hd hM hR H
 subst hd
 simp only [Hf.cs] at hM ⊢
 (refine Fsp.ofs (nx := 0) mixed Tryz.func11 rfl (by simp [Tryz.f11]) ?_; simp -implicitDefEqProofs only [push_cast, Tryz.f11, seval])
 have hnb : nr.length + b.length ≤ 13108 := by have := H.e.q; simp only at this; omega
 refine ⟨by omega, ?_⟩
 refine callE_bx hM [0] [] ?_
 simp -implicitDefEqProofs only [push_cast, seval]
 generalize hRR : Hf.run (nr.length + b.length + 1) { o := o, bg := bg, s := s, l := l, e := e, nr := nr ++ b, fr := fr, out := out, dd := false } = RR at hR
 have H0 : ({ o := o, bg := bg, s := s, l := l, e := e, nr := nr ++ b, fr := fr, out := out, dd := false } : Hf).Ok (nr ++ b).length := by
  rw [List.length_append]; exact ⟨H.o, H.s, H.e⟩
 refine PWP.named (fun Q => ∀ objs live nx, lkp none objs 0 = some RR.cs → lkp none objs 1 = some hzC → lkp none objs 2 = some [.int .i64 0] → Q .normal { n := 68, env := [(26, .any), (5, .box 2 0), (4, .box 1 0), (2, .box 0 0)], objs := objs, live := live, nxt := nx }) ?_ (fun Q hQ => ?_)
 ·intro objs live nx o0 o1 o2
  clear H0 hRR hM
  obtain ⟨o', bg', s', l', e', nr', fr', out', dd'⟩ := RR
  unfold Hf.cut at hR
  simp only [Hf.cs] at o0
  unfold hzC at o1
  cases dd' with
  | false =>
   simp only [Bool.false_eq_true, if_false] at hR
   subst hR
   simp -implicitDefEqProofs only [push_cast, o0, o1, o2, seval]
   all_goals (first | done | rfl | exact ⟨_, rfl, by simp [wkL, res2, res1, PV.weak, PV.el]⟩ | (simp [wkL, res2, res1, PV.weak, PV.el]; done))
  | true =>
   simp only [if_true] at hR
   subst hR
   simp -implicitDefEqProofs only [push_cast, o0, o1, o2, seval]
   all_goals (first | done | rfl | exact ⟨_, rfl, by simp [wkL, res2, res1, PV.weak, PV.el]⟩ | (simp [wkL, res2, res1, PV.weak, PV.el]; done))
 ·refine PWP.rangeY { n := 68, env := [(26, .fn 64 [.box 3 0]), (5, .box 2 0), (4, .box 1 0), (2, .box 0 0)], objs := NmA.O { o := o, bg := bg, s := s, l := l, e := e, nr := nr ++ b, fr := fr, out := out, dd := false }, live := [], nxt := 4 } ?_ 64 [.box 3 0] rfl Tryz.func64 rfl (by decide) rfl (by decide) ?_
  ·simp only [zipB, upto, List.cons_append, List.nil_append, NmA.O, Hf.cs, hzC]
   exact Wk.by _ _ _ [(0, 0), (1, 4), (2, 8), (3, 68)] [] [] (by simp) (by simp [wkV, wkL, PV.el, PV.weak, PS.get, PS.obj, PS.lv, lkp_hit, lkp_miss, lkp_nil, lko]) (by simp [PS.get, PS.obj, PS.lv, lkp_hit, lkp_miss, lkp_nil, lko, wkL, wkC, PV.weak]) (by simp) (by rfl) (by rfl) (by simp [lko]) (by simp) (by simp) (by simp) (fun i hi => absurd hi (Nat.not_lt_zero i))
  refine VCY_sound mixed ?_
  simp -implicitDefEqProofs only [push_cast, itS, seval]
  refine YWP.loop (α := NmA RR) NmA.st (fun _ => none) (fun a => a.h.nr.length) ⟨_, nr.length + b.length + 1, by simp, H0, hRR⟩ ?_ rfl ?_
  ·simp only [NmA.st, NmA.O, ycOf]
   exact Wk.by _ _ _ [(0, 0), (1, 1), (2, 2), (3, 3), (4, 4)] [] [] (by simp) (by simp [wkV, PV.el, PV.weak, PS.get, PS.obj, PS.lv, lkp_hit, lkp_miss, lkp_nil, lko]) (by simp [PS.get, PS.obj, PS.lv, lkp_hit, lkp_miss, lkp_nil, lko, wkL, wkC, PV.weak, Hf.cs, hzC]) (by simp) (by rfl) (by rfl) (by simp [lko]) (by simp) (by simp) (by simp) (fun i hi => by have hi' : i < 5 := hi; rcases i with _ | _ | _ | _ | _ | i <;> first | rfl | (exfalso; omega))
  clear H0 hRR H hnb
  rintro ⟨h, f, hf, hok, he⟩
  have hW := whole_fs h hok.o
  have hwn := wh_n (h := h) hok.o
  cases f with
  | zero => exact absurd hf (Nat.not_lt_zero _)
  | succ f =>
  rw [Hf.run] at he
  generalize h.wh = W at *
  obtain ⟨w1, w2, w3⟩ := W
  obtain ⟨o1, bg1, s1, l1, e1, nr1, fr1, out1, dd1⟩ := h
  simp only [Hf.cs] at hW
  simp only at he hwn hok hf
  refine VCY_sound mixed ?_
  simp only [NmA.st, NmA.O, Hf.cs]
  cases dd1 with
  | true =>
   rw [if_pos rfl] at he
   simp -implicitDefEqProofs only [push_cast, seval]
   refine ⟨.inl rfl, hQ _ _ _ ?_ rfl rfl⟩
   rw [← he]; rfl
  | false =>
   rw [if_neg (by decide)] at he
   simp -implicitDefEqProofs only [push_cast, seval]
   refine YWP.reg mixed ?_
   simp -implicitDefEqProofs only [push_cast, seval]
   refine callE_bx hW [0] [] ?_
   cases w2 with
   | false =>
    rw [if_neg (by decide)] at he
    simp -implicitDefEqProofs only [push_cast, seval]
    refine ⟨.inr rfl, hQ _ _ _ ?_ rfl rfl⟩
    rw [← he]; rfl
   | true =>
    rw [if_pos rfl] at he
    obtain ⟨n, rfl, hn4, hnl, hn6, rfl⟩ := hwn rfl
    rw [Int.toNat_natCast] at he
    simp -implicitDefEqProofs only [push_cast, seval]
    (repeat (first | refine ⟨(by omega : _ ≤ _), ?_⟩ | refine ⟨(by omega : _ < _), ?_⟩ | refine ⟨(by simp [sts_length]; omega), ?_⟩ | refine ⟨(by simp [sts_length]), ?_⟩ | refine ⟨(by (unfold drawOk; kernel_rfl)), ?_⟩))
    have hml : (nr1.take n).length = n := by rw [List.length_take]; omega
    have hsl := sh_len s1 (nr1.take n)
    have hPut := hok.s.fs (b := nr1.take n) (by omega)
    have hp4 := putS_4 (n := (s1.sh (nr1.take n)).length) (by have := hok.e.q; simp only at this; omega)
    have hOrd := put_fs (o := 1) (s := 4) (.inr rfl) (by unfold isSize; omega) ((s1.sh (nr1.take n)).length : Int)
    have hSend := hok.e.fs hn4 hnl (b := frame (s1.sh (nr1.take n))) (by unfold frame; rw [List.length_append, hp4.1]; omega)
    have hok2 := Hf.Ok.stp hok hn4 hnl hml hn6 (nr1.drop n)
    rw [hp4.2] at hOrd
    unfold frame at hSend
    unfold Hf.stp frame at he hok2
    simp only at he hok2 hPut hSend
    have hml2 : (putS 1 4 ((s1.sh (nr1.take n)).length : Int)).length + (s1.sh (nr1.take n)).length ≤ 1000000 := by rw [hp4.1]; have := hok.e.q; simp only at this; omega
    generalize hsp : s1.put (nr1.take n) = s2 at *
    generalize s1.sh (nr1.take n) = sh2 at *
    generalize hes : En.sendE e1 (putS 1 4 (sh2.length : Int) ++ sh2) = e2 at *
    generalize putS 1 4 (sh2.length : Int) = pl at *
    simp only [Cc.pv] at hPut
    simp only [Lk.En.pv, Lk.En.cs, Lk.pcs] at hSend
    generalize nr1.take n = mm at *
    have hdl : (nr1.drop n).length = nr1.length - n := List.length_drop
    generalize nr1.drop n = rr at *
    refine YWP.reg_y 2 mixed ⟨by rfl, by rfl, by simp [ycOf]⟩ ?_ ?_ ?_
    ·intro S pe h
     have h' : ryK _ _ Exit.outgrown S pe := h
     rcases h'.1 with h | h <;> cases h
    ·decide
    simp -implicitDefEqProofs only [push_cast, seval]
    refine yldE_of _ (.tmp 36) #[.tmp 37] #[9] 38 rfl rfl (by rfl) rfl (by rfl) (by rfl) (by rfl) (by rfl) (by simp) ?_
    refine RndP.of mixed ⟨by rfl, by rfl, by simp [ycOf]⟩ ?_
    simp only [ycOf, ybeg]
    simp -implicitDefEqProofs only [push_cast, pz, seval]
    refine callE_p hPut ?_
    simp -implicitDefEqProofs only [push_cast, seval]
    refine callE_p hOrd ?_
    simp -implicitDefEqProofs only [push_cast, seval]
    (repeat (first | refine ⟨(by omega : _ ≤ _), ?_⟩ | refine ⟨(by omega : _ < _), ?_⟩ | refine ⟨(by simp [sts_length]; omega), ?_⟩ | refine ⟨(by simp [sts_length]), ?_⟩ | refine ⟨(by (unfold drawOk; kernel_rfl)), ?_⟩))
    refine callE_p hSend ?_
    simp -implicitDefEqProofs only [push_cast, seval]
    (repeat (first | refine ⟨(by omega : _ ≤ _), ?_⟩ | refine ⟨(by omega : _ < _), ?_⟩ | refine ⟨(by simp [sts_length]; omega), ?_⟩ | refine ⟨(by simp [sts_length]), ?_⟩ | refine ⟨(by (unfold drawOk; kernel_rfl)), ?_⟩))
    have htk : rr.take (nr1.length - n) = rr := List.take_of_length_le (by omega)
    rw [← hdl] at hok2
    refine ⟨⟨_, f, ?_, hok2, he⟩, ?_, ?_, rfl⟩
    ·simp only at hf ⊢; omega
    ·simp only; omega
    ·simp only [NmA.st, NmA.O, Hf.cs]
     exact Wk.by _ _ _ [(0, 0), (1, 1), (2, 2), (3, 3), (4, 4)] [] [] (by simp) (by simp [wkV, PV.el, PV.weak, PS.get, PS.obj, PS.lv, lkp_hit, lkp_miss, lkp_nil, lko]) (by simp [PS.get, PS.obj, PS.lv, lkp_hit, lkp_miss, lkp_nil, lko, wkL, wkC, PV.weak, hzC, htk]) (by simp) (by rfl) (by rfl) (by simp [lko]) (by simp) (by simp) (by simp) (fun i hi => by have hi' : i < 5 := hi; rcases i with _ | _ | _ | _ | _ | i <;> first | rfl | (exfalso; omega))
end Go.Proofs.Sh
set_option maxRecDepth 100000
set_option linter.unusedSimpArgs false
set_option linter.unusedVariables false
namespace Go.Proofs.Sh
open Go.Pv
theorem u8_lt' (x : UInt8) : (x.toNat : Int) < 256 := by have := x.toNat_lt; omega
theorem number0_fs (x y : UInt8) : Fsp Tryz.prog 76 [] 0 [.int .i64 0, .str [x, y]] [] 0 (.int .i64 (x.toNat + 256 * y.toNat : Nat)) := by
 have h1 := u8_lt' x
 have h2 := u8_lt' y
 have w1 : IntKind.i64.wrap (y.toNat : Int) = y.toNat := wrap_i64_id (by omega) (by omega)
 have w2 : IntKind.i64.wrap (256 * (y.toNat : Int)) = 256 * y.toNat := wrap_i64_id (by omega) (by omega)
 have w3 : IntKind.i64.wrap (x.toNat : Int) = x.toNat := wrap_i64_id (by omega) (by omega)
 have w4 : IntKind.i64.wrap (256 * (y.toNat : Int) + x.toNat) = 256 * y.toNat + x.toNat := wrap_i64_id (by omega) (by omega)
 have c1 : ¬ ((4294967296 : Int) < (y.toNat : Int)) := by omega
 have c2 : ¬ ((4294967296 : Int) < 256 * (y.toNat : Int) + x.toNat) := by omega
 (refine Fsp.ofs (nx := 0) mixed Tryz.func76 rfl (by simp [Tryz.f76]) ?_; simp -implicitDefEqProofs only [push_cast, Tryz.f76, seval])
 refine loopC_un 3 ?_
 simp -implicitDefEqProofs only [push_cast, seval]
 simp only [Int.zero_add, w1, w3, if_neg c1, w2, w4, if_neg c2]
 omega
theorem number1_fs (x y : UInt8) : Fsp Tryz.prog 76 [] 0 [.int .i64 1, .str [x, y]] [] 0 (.int .i64 (y.toNat + 256 * x.toNat : Nat)) := by
 have h1 := u8_lt' x
 have h2 := u8_lt' y
 have w1 : IntKind.i64.wrap (x.toNat : Int) = x.toNat := wrap_i64_id (by omega) (by omega)
 have w2 : IntKind.i64.wrap (256 * (x.toNat : Int)) = 256 * x.toNat := wrap_i64_id (by omega) (by omega)
 have w3 : IntKind.i64.wrap (y.toNat : Int) = y.toNat := wrap_i64_id (by omega) (by omega)
 have w4 : IntKind.i64.wrap (256 * (x.toNat : Int) + y.toNat) = 256 * x.toNat + y.toNat := wrap_i64_id (by omega) (by omega)
 have c1 : ¬ ((4294967296 : Int) < (x.toNat : Int)) := by omega
 have c2 : ¬ ((4294967296 : Int) < 256 * (x.toNat : Int) + y.toNat) := by omega
 (refine Fsp.ofs (nx := 0) mixed Tryz.func76 rfl (by simp [Tryz.f76]) ?_; simp -implicitDefEqProofs only [push_cast, Tryz.f76, seval])
 refine loopC_un 3 ?_
 simp -implicitDefEqProofs only [push_cast, seval]
 simp only [Int.zero_add, w1, w3, if_neg c1, w2, w4, if_neg c2]
 omega
theorem number_fs' {o : Int} (ho : isOrder o) {b : Bys} (h : 4 ≤ b.length) : Fsp Tryz.prog 76 [] 0 [.int .i64 o, .str ((b.drop 2).take 2)] [] 0 (.int .i64 (lenN o b : Nat)) := by
 rw [two_of h]
 rcases ho with rfl | rfl
 ·rw [lenN_0 h]; exact number0_fs _ _
 ·rw [lenN_1 h]; exact number1_fs _ _
def reqN (o : Int) (b : Bys) : Int := if b.length < 4 then 0 else if lenN o b = 0 ∨ 16384 < lenN o b then -1 else ((4 * lenN o b : Nat) : Int)
theorem refReq_fs {o : Int} (ho : isOrder o) (b : Bys) : Fsp Tryz.prog 42 [] 0 [.int .i64 o, .str b] [] 0 (.int .i64 (reqN o b)) := by
 unfold reqN
 by_cases h : b.length < 4
 ·rw [if_pos h]
  have h' : decide ((b.length : Int) < 4) = true := by simp; omega
  (refine Fsp.ofs (nx := 0) mixed Tryz.func42 rfl (by simp [Tryz.f42]) ?_; simp -implicitDefEqProofs only [push_cast, Tryz.f42, h', seval])
  all_goals (first | done | rfl | exact ⟨_, rfl, by simp [wkL, res2, res1, PV.weak, PV.el]⟩ | (simp [wkL, res2, res1, PV.weak, PV.el]; done))
 ·rw [if_neg h]
  have hn := number_fs' ho (b := b) (by omega)
  have hl : lenN o b < 65536 := lenN_lt (by omega)
  have h' : decide ((b.length : Int) < 4) = false := by simp; omega
  generalize lenN o b = n at *
  have w1 : IntKind.i64.wrap (4 * (n : Int)) = 4 * n := wrap_i64_id (by omega) (by omega)
  (refine Fsp.ofs (nx := 0) mixed Tryz.func42 rfl (by simp [Tryz.f42]) ?_; simp -implicitDefEqProofs only [push_cast, Tryz.f42, h', seval])
  (repeat (first | refine ⟨(by omega : _ ≤ _), ?_⟩ | refine ⟨(by omega : _ < _), ?_⟩ | refine ⟨(by simp; omega), ?_⟩ | refine ⟨(by simp; done), ?_⟩ | refine ⟨(by (unfold drawOk; kernel_rfl)), ?_⟩))
  refine callE_p hn ?_
  simp -implicitDefEqProofs only [push_cast, w1, seval]
  refine condC_split (fun g1 => ?_) (fun g1 => ?_)
  ·rw [if_pos (by simp at g1; omega)]
   simp -implicitDefEqProofs only [push_cast, seval]
   all_goals (first | done | rfl | exact ⟨_, rfl, by simp [wkL, res2, res1, PV.weak, PV.el]⟩ | (simp [wkL, res2, res1, PV.weak, PV.el]; done))
  ·rw [if_neg (by simp at g1; omega)]
   simp -implicitDefEqProofs only [push_cast, w1, seval]
   all_goals (first | done | rfl | exact ⟨_, rfl, by simp [wkL, res2, res1, PV.weak, PV.el]⟩ | (simp [wkL, res2, res1, PV.weak, PV.el]; done))
def rqs (o : Int) : Nat → Bys → List Bys × Bool
 | 0, _ => ([], false)
 | f + 1, b => if reqN o b < 0 then ([], true) else if reqN o b = 0 ∨ (b.length : Int) < reqN o b then ([], false) else (b.take (reqN o b).toNat :: (rqs o f (b.drop (reqN o b).toNat)).1, (rqs o f (b.drop (reqN o b).toNat)).2)
def reqs (o : Int) (b : Bys) : List Bys × Bool := if b.length < 4 then ([], false) else if (b.take 4 != beg o) = true then ([], true) else (beg o :: (rqs o b.length (b.drop 4)).1, (rqs o b.length (b.drop 4)).2)
theorem reqN_big {o : Int} {b : Bys} (h : ¬ reqN o b < 0) (h2 : ¬ (reqN o b = 0 ∨ (b.length : Int) < reqN o b)) : ∃ n : Nat, reqN o b = n ∧ 4 ≤ n ∧ n ≤ b.length := by
 unfold reqN at *
 split at h
 ·rename_i h1; rw [if_pos h1] at h2; exact absurd (.inl rfl) h2
 ·rename_i h1
  rw [if_neg h1] at h2 ⊢
  split at h
  ·exact absurd (by decide) h
  ·rename_i h3
   rw [if_neg h3] at h2 ⊢
   exact ⟨_, rfl, by omega, by omega⟩
structure RqA (o : Int) (R : List Bys × Bool) where
 f : Nat
 out : List Bys
 b : Bys
 hf : b.length < f
 hb : out.length + b.length ≤ 100000
 e : (out ++ (rqs o f b).1, (rqs o f b).2) = R
def RqA.st {o : Int} {R : List Bys × Bool} (a : RqA o R) : PS := { n := 46, env := [(7, .slt 1 (sts a.out) 50), (5, .bool false), (4, .nilsl), (1, .str a.b), (0, .int .i64 o)], objs := [], live := [(50, true)], nxt := 60 }
set_option maxHeartbeats 2000000 in
theorem reqs_fs0 (b : Bys) (hb : b.length ≤ 50000) : Fsp Tryz.prog 20 [] 0 [.int .i64 0, .str b] [] 0 (.tup [.sl 1 (sts (reqs 0 b).1), .bool (reqs 0 b).2]) := by
 generalize hR : reqs 0 b = R
 have ho : isOrder 0 := by unfold isOrder; omega
 unfold reqs at hR
 have hfirst : beg 0 = [108, 1, 0, 0] := rfl
 by_cases h : b.length < 4
 ·rw [if_pos h] at hR
  subst hR
  have h' : decide ((b.length : Int) < 4) = true := by simp; omega
  (refine Fsp.ofs (nx := 0) mixed Tryz.func20 rfl (by simp [Tryz.f20]) ?_; simp -implicitDefEqProofs only [push_cast, Tryz.f20, h', seval])
  all_goals (first | done | rfl | exact ⟨_, rfl, by simp [wkL, res2, res1, PV.weak, PV.el, sts]⟩ | (simp [wkL, res2, res1, PV.weak, PV.el, sts]; done))
 ·rw [if_neg h, hfirst] at hR
  have h' : decide ((b.length : Int) < 4) = false := by simp; omega
  (refine Fsp.ofs (nx := 0) mixed Tryz.func20 rfl (by simp [Tryz.f20]) ?_; simp -implicitDefEqProofs only [push_cast, Tryz.f20, h', seval])
  (repeat (first | refine ⟨(by omega : _ ≤ _), ?_⟩ | refine ⟨(by omega : _ < _), ?_⟩ | refine ⟨(by simp; omega), ?_⟩ | refine ⟨(by simp; done), ?_⟩ | refine ⟨(by (unfold drawOk; kernel_rfl)), ?_⟩))
  refine condC_split (fun g1 => ?_) (fun g1 => ?_)
  ·rw [if_pos g1] at hR
   subst hR
   simp -implicitDefEqProofs only [push_cast, seval]
   all_goals (first | done | rfl | exact ⟨_, rfl, by simp [wkL, res2, res1, PV.weak, PV.el, sts]⟩ | (simp [wkL, res2, res1, PV.weak, PV.el, sts]; done))
  ·rw [if_neg (by rw [g1]; exact Bool.false_ne_true)] at hR
   have hdl : (b.drop 4).length = b.length - 4 := List.length_drop
   have hfu : rqs 0 b.length (b.drop 4) = rqs 0 ((b.length - 1) + 1) (b.drop 4) := by rw [show b.length - 1 + 1 = b.length by omega]
   have htk0 : (b.drop 4).take (b.length - 4) = b.drop 4 := List.take_of_length_le (by omega)
   simp -implicitDefEqProofs only [push_cast, htk0, seval]
   (repeat (first | refine ⟨(by omega : _ ≤ _), ?_⟩ | refine ⟨(by omega : _ < _), ?_⟩ | refine ⟨(by simp; omega), ?_⟩ | refine ⟨(by simp; done), ?_⟩ | refine ⟨(by (unfold drawOk; kernel_rfl)), ?_⟩))
   refine loopC_of (α := RqA 0 R) RqA.st (fun a => a.f) ⟨b.length, [[108, 1, 0, 0]], b.drop 4, by omega, by rw [hdl]; simp; omega, by rw [← hR]; rfl⟩ ?_ ?_
   ·(simp only [RqA.st, sts]; exact Wk.at _ _ _ [] [(50, 52)] [] (by simp) (by simp [wkV, PV.el, PV.weak, PS.get, PS.obj, PS.lv, lkp_hit, lkp_miss, lkp_nil, lko, wkL, wkC, res1]) (by simp [PS.get, PS.obj, PS.lv, lkp_hit, lkp_miss, lkp_nil, lko, wkL, wkC, PV.weak, wkL, wkC, res1]))
   ·rintro ⟨f, out, c, hf, hc, he⟩
    simp only [RqA.st]
    cases f with
    | zero => exact absurd hf (Nat.not_lt_zero _)
    | succ f =>
    have hQ := refReq_fs ho c
    have hbig := reqN_big (o := 0) (b := c)
    rw [rqs] at he
    generalize reqN 0 c = n at *
    simp -implicitDefEqProofs only [push_cast, seval]
    refine callE_p hQ ?_
    simp -implicitDefEqProofs only [push_cast, seval]
    refine condC_split (fun g1 => ?_) (fun g1 => ?_)
    ·rw [if_pos (by simpa using g1)] at he
     subst he
     simp -implicitDefEqProofs only [push_cast, seval]
     all_goals (first | done | rfl | exact ⟨_, rfl, by simp [wkL, res2, res1, PV.weak, PV.el, List.append_nil]⟩ | (simp [wkL, res2, res1, PV.weak, PV.el, List.append_nil]; done))
    ·rw [if_neg (by simpa using g1)] at he
     simp -implicitDefEqProofs only [push_cast, seval]
     refine condC_split (fun g2 => ?_) (fun g2 => ?_)
     ·rw [if_pos (by simpa using g2)] at he
      subst he
      simp -implicitDefEqProofs only [push_cast, seval]
      all_goals (first | done | rfl | exact ⟨_, rfl, by simp [wkL, res2, res1, PV.weak, PV.el, List.append_nil]⟩ | (simp [wkL, res2, res1, PV.weak, PV.el, List.append_nil]; done))
     ·rw [if_neg (by simpa using g2)] at he
      obtain ⟨m, rfl, hm4, hml⟩ := hbig (by simpa using g1) (by simpa using g2)
      rw [Int.toNat_natCast] at he
      have hol : (sts out).length = out.length := sts_length out
      have htk : (c.drop m).take (c.length - m) = c.drop m := List.take_of_length_le (by rw [List.length_drop]; omega)
      have hcd : (c.drop m).length = c.length - m := List.length_drop
      have hsa : sts out ++ [PV.str (c.take m)] = sts (out ++ [c.take m]) := by simp [sts]
      simp -implicitDefEqProofs only [push_cast, hsa, htk, hol, seval]
      (repeat (first | refine ⟨(by omega : _ ≤ _), ?_⟩ | refine ⟨(by omega : _ < _), ?_⟩ | refine ⟨(by simp; omega), ?_⟩ | refine ⟨(by simp; done), ?_⟩ | refine ⟨(by (unfold drawOk; kernel_rfl)), ?_⟩))
      refine ⟨⟨f, out ++ [c.take m], c.drop m, by omega, by rw [hcd, List.length_append, List.length_singleton]; omega, by rw [List.append_assoc]; exact he⟩, by simp only; omega, ?_⟩
      (simp only [RqA.st]; exact Wk.at _ _ _ [] [(50, 136)] [] (by simp) (by simp [wkV, PV.el, PV.weak, PS.get, PS.obj, PS.lv, lkp_hit, lkp_miss, lkp_nil, lko, wkL, wkC, res1]) (by simp [PS.get, PS.obj, PS.lv, lkp_hit, lkp_miss, lkp_nil, lko, wkL, wkC, PV.weak, wkL, wkC, res1]))
set_option maxHeartbeats 2000000 in
theorem reqs_fs1 (b : Bys) (hb : b.length ≤ 50000) : Fsp Tryz.prog 20 [] 0 [.int .i64 1, .str b] [] 0 (.tup [.sl 1 (sts (reqs 1 b).1), .bool (reqs 1 b).2]) := by
 generalize hR : reqs 1 b = R
 have ho : isOrder 1 := by unfold isOrder; omega
 unfold reqs at hR
 have hfirst : beg 1 = [66, 1, 0, 0] := rfl
 by_cases h : b.length < 4
 ·rw [if_pos h] at hR
  subst hR
  have h' : decide ((b.length : Int) < 4) = true := by simp; omega
  (refine Fsp.ofs (nx := 0) mixed Tryz.func20 rfl (by simp [Tryz.f20]) ?_; simp -implicitDefEqProofs only [push_cast, Tryz.f20, h', seval])
  all_goals (first | done | rfl | exact ⟨_, rfl, by simp [wkL, res2, res1, PV.weak, PV.el, sts]⟩ | (simp [wkL, res2, res1, PV.weak, PV.el, sts]; done))
 ·rw [if_neg h, hfirst] at hR
  have h' : decide ((b.length : Int) < 4) = false := by simp; omega
  (refine Fsp.ofs (nx := 0) mixed Tryz.func20 rfl (by simp [Tryz.f20]) ?_; simp -implicitDefEqProofs only [push_cast, Tryz.f20, h', seval])
  (repeat (first | refine ⟨(by omega : _ ≤ _), ?_⟩ | refine ⟨(by omega : _ < _), ?_⟩ | refine ⟨(by simp; omega), ?_⟩ | refine ⟨(by simp; done), ?_⟩ | refine ⟨(by (unfold drawOk; kernel_rfl)), ?_⟩))
  refine condC_split (fun g1 => ?_) (fun g1 => ?_)
  ·rw [if_pos g1] at hR
   subst hR
   simp -implicitDefEqProofs only [push_cast, seval]
   all_goals (first | done | rfl | exact ⟨_, rfl, by simp [wkL, res2, res1, PV.weak, PV.el, sts]⟩ | (simp [wkL, res2, res1, PV.weak, PV.el, sts]; done))
  ·rw [if_neg (by rw [g1]; exact Bool.false_ne_true)] at hR
   have hdl : (b.drop 4).length = b.length - 4 := List.length_drop
   have hfu : rqs 1 b.length (b.drop 4) = rqs 1 ((b.length - 1) + 1) (b.drop 4) := by rw [show b.length - 1 + 1 = b.length by omega]
   have htk0 : (b.drop 4).take (b.length - 4) = b.drop 4 := List.take_of_length_le (by omega)
   simp -implicitDefEqProofs only [push_cast, htk0, seval]
   (repeat (first | refine ⟨(by omega : _ ≤ _), ?_⟩ | refine ⟨(by omega : _ < _), ?_⟩ | refine ⟨(by simp; omega), ?_⟩ | refine ⟨(by simp; done), ?_⟩ | refine ⟨(by (unfold drawOk; kernel_rfl)), ?_⟩))
   refine loopC_of (α := RqA 1 R) RqA.st (fun a => a.f) ⟨b.length, [[66, 1, 0, 0]], b.drop 4, by omega, by rw [hdl]; simp; omega, by rw [← hR]; rfl⟩ ?_ ?_
   ·(simp only [RqA.st, sts]; exact Wk.at _ _ _ [] [(50, 56)] [] (by simp) (by simp [wkV, PV.el, PV.weak, PS.get, PS.obj, PS.lv, lkp_hit, lkp_miss, lkp_nil, lko, wkL, wkC, res1]) (by simp [PS.get, PS.obj, PS.lv, lkp_hit, lkp_miss, lkp_nil, lko, wkL, wkC, PV.weak, wkL, wkC, res1]))
   ·rintro ⟨f, out, c, hf, hc, he⟩
    simp only [RqA.st]
    cases f with
    | zero => exact absurd hf (Nat.not_lt_zero _)
    | succ f =>
    have hQ := refReq_fs ho c
    have hbig := reqN_big (o := 1) (b := c)
    rw [rqs] at he
    generalize reqN 1 c = n at *
    simp -implicitDefEqProofs only [push_cast, seval]
    refine callE_p hQ ?_
    simp -implicitDefEqProofs only [push_cast, seval]
    refine condC_split (fun g1 => ?_) (fun g1 => ?_)
    ·rw [if_pos (by simpa using g1)] at he
     subst he
     simp -implicitDefEqProofs only [push_cast, seval]
     all_goals (first | done | rfl | exact ⟨_, rfl, by simp [wkL, res2, res1, PV.weak, PV.el, List.append_nil]⟩ | (simp [wkL, res2, res1, PV.weak, PV.el, List.append_nil]; done))
    ·rw [if_neg (by simpa using g1)] at he
     simp -implicitDefEqProofs only [push_cast, seval]
     refine condC_split (fun g2 => ?_) (fun g2 => ?_)
     ·rw [if_pos (by simpa using g2)] at he
      subst he
      simp -implicitDefEqProofs only [push_cast, seval]
      all_goals (first | done | rfl | exact ⟨_, rfl, by simp [wkL, res2, res1, PV.weak, PV.el, List.append_nil]⟩ | (simp [wkL, res2, res1, PV.weak, PV.el, List.append_nil]; done))
     ·rw [if_neg (by simpa using g2)] at he
      obtain ⟨m, rfl, hm4, hml⟩ := hbig (by simpa using g1) (by simpa using g2)
      rw [Int.toNat_natCast] at he
      have hol : (sts out).length = out.length := sts_length out
      have htk : (c.drop m).take (c.length - m) = c.drop m := List.take_of_length_le (by rw [List.length_drop]; omega)
      have hcd : (c.drop m).length = c.length - m := List.length_drop
      have hsa : sts out ++ [PV.str (c.take m)] = sts (out ++ [c.take m]) := by simp [sts]
      simp -implicitDefEqProofs only [push_cast, hsa, htk, hol, seval]
      (repeat (first | refine ⟨(by omega : _ ≤ _), ?_⟩ | refine ⟨(by omega : _ < _), ?_⟩ | refine ⟨(by simp; omega), ?_⟩ | refine ⟨(by simp; done), ?_⟩ | refine ⟨(by (unfold drawOk; kernel_rfl)), ?_⟩))
      refine ⟨⟨f, out ++ [c.take m], c.drop m, by omega, by rw [hcd, List.length_append, List.length_singleton]; omega, by rw [List.append_assoc]; exact he⟩, by simp only; omega, ?_⟩
      (simp only [RqA.st]; exact Wk.at _ _ _ [] [(50, 136)] [] (by simp) (by simp [wkV, PV.el, PV.weak, PS.get, PS.obj, PS.lv, lkp_hit, lkp_miss, lkp_nil, lko, wkL, wkC, res1]) (by simp [PS.get, PS.obj, PS.lv, lkp_hit, lkp_miss, lkp_nil, lko, wkL, wkC, PV.weak, wkL, wkC, res1]))
theorem reqs_fs {o : Int} (ho : isOrder o) (b : Bys) (hb : b.length ≤ 50000) : Fsp Tryz.prog 20 [] 0 [.int .i64 o, .str b] [] 0 (.tup [.sl 1 (sts (reqs o b).1), .bool (reqs o b).2]) := by
 rcases ho with rfl | rfl
 ·exact reqs_fs0 b hb
 ·exact reqs_fs1 b hb
end Go.Proofs.Sh
