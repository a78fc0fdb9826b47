/- How great an end becomes, by how much is done with it. -/
import Derived.Test.YtoemcdgebkkcoaaGreatDoorLkNumd
import Derived.Test.YtoemcdgebkkcoaaGreatDoorPxG6
import Derived.Test.YtoemcdgebkkcoaaGreatDoorPvYa
set_option maxRecDepth 100000
set_option linter.unusedSimpArgs false
set_option linter.unusedVariables false
namespace Go.Proofs.Lk
open Go.Pv Go.Proofs.Sh
structure En.Bd (i : Nat) (e : En) : Prop where
 m0 : 0 ≤ e.most
 m1 : e.most ≤ 1024
 w : e.way.length ≤ 16
 wb : ∀ p ∈ e.way, p.b.length ≤ 1024
 n0 : 0 ≤ e.next
 n1 : e.next ≤ 17 * i
 r : e.rest.length ≤ 3000 * i
 e0 : 0 ≤ e.exp
 e1 : e.exp ≤ 17 * i
 a16 : ∀ j, 16 ≤ j → e.aside j = []
 al : ∀ j, (e.aside j).length ≤ 3000
 rl : e.read.length ≤ 51000 * i
theorem En.Bd.up {i k : Nat} {e : En} (h : e.Bd i) (hk : i ≤ k) : e.Bd k :=
 ⟨h.m0, h.m1, h.w, h.wb, h.n0, by have := h.n1; omega, by have := h.r; omega, h.e0, by have := h.e1; omega, h.a16, h.al, by have := h.rl; omega⟩
theorem Bd.numd {i k : Nat} {e f : En} (h : Numd e f k) (hm0 : 0 ≤ e.most) (hm1 : e.most ≤ 1024) (wb : ∀ p ∈ e.way, p.b.length ≤ 1024) (n0 : 0 ≤ e.next) (n1 : e.next + k ≤ 17 * i) (r : e.rest.length ≤ 3000 * i) (e0 : 0 ≤ e.exp) (e1 : e.exp ≤ 17 * i)
 (a16 : ∀ j, 16 ≤ j → e.aside j = []) (al : ∀ j, (e.aside j).length ≤ 3000) (rl : e.read.length ≤ 51000 * i) : f.Bd i := by
 have im := h.most; have ie := h.exp; have ia := h.aside; have ir := h.read; have il := h.le; have inx := h.next; have irs := h.rest
 exact ⟨by omega, by omega, h.way, h.bs 1024 wb hm1, by omega, by omega, by omega, by omega, by omega, by rw [ia]; exact a16, by rw [ia]; exact al, by rw [ir]; exact rl⟩
structure Shd (e f : En) (k : Nat) : Prop where
 exp0 : e.exp ≤ f.exp
 exp1 : f.exp ≤ e.exp + k
 read : f.read.length ≤ e.read.length + 3000 * k
 a16 : ∀ j, 16 ≤ j → f.aside j = []
 al : ∀ j, (f.aside j).length ≤ 3000
theorem shL_shd : ∀ (k : Nat) (e : En), (∀ j, 16 ≤ j → e.aside j = []) → (∀ j, (e.aside j).length ≤ 3000) → Shd e (shL k e) k
 | 0, e, h1, h2 => ⟨Int.le_refl _, by simp [shL], by simp [shL], h1, h2⟩
 | k + 1, e, h1, h2 => by
  unfold shL
  split
  ·have i := shL_shd k e.shift (fun j hj => h1 (j + 1) (by omega)) (fun j => h2 (j + 1))
   have a := i.exp0; have b := i.exp1; have c := i.read
   have e1 : e.shift.exp = e.exp + 1 := rfl
   have e2 : e.shift.read.length ≤ e.read.length + 3000 := by
    have := h2 0
    simp only [En.shift, List.length_append]; omega
   exact ⟨by omega, by omega, by omega, i.a16, i.al⟩
  ·exact ⟨Int.le_refl _, by omega, by omega, h1, h2⟩
theorem took_shd (e : En) (n : Int) (b : List UInt8) (hn : n ≤ e.exp + 15) (hb : b.length ≤ 3000) (h1 : ∀ j, 16 ≤ j → e.aside j = []) (h2 : ∀ j, (e.aside j).length ≤ 3000) : Shd e (e.took n b) 17 := by
 unfold En.took
 split
 ·exact ⟨Int.le_refl _, by show e.exp ≤ e.exp + 17; omega, by show e.read.length ≤ _; omega, h1, h2⟩
 ·rename_i h
  have hge : e.exp ≤ n := by simp at h; omega
  split
  ·exact ⟨Int.le_refl _, by show e.exp ≤ e.exp + 17; omega, by show e.read.length ≤ _; omega, h1, h2⟩
  ·have i := shL_shd 17 (e.acked.lay (n - e.exp).toNat b) (fun j hj => by
    show (if _ then _ else _) = _
    rw [if_neg (by omega)]
    exact h1 j hj) (fun j => by
    show (if _ then _ else _ : List UInt8).length ≤ _
    split
    ·exact hb
    ·exact h2 j)
   exact ⟨i.exp0, i.exp1, i.read, i.a16, i.al⟩
theorem En.Bd.got {i : Nat} {e : En} (h : e.Bd i) {p : List UInt8} (hp : p.length ≤ 3000) (hg : gotN e p = 0) : (e.gotE p).Bd (i + 1) := by
 have hbl : (bd p).length ≤ 3000 := by rw [bd, List.length_drop]; omega
 have hak : ∀ q ∈ (e.ackn (tol p)).way, q ∈ e.way := fun q hq => (List.dropWhile_sublist _).subset hq
 have hakl : (e.ackn (tol p)).way.length ≤ 16 := Nat.le_trans (List.dropWhile_sublist _).length_le h.w
 unfold En.gotE
 split
 ·rename_i hk
  have hr : nu p ≤ e.exp + 15 := by
   unfold gotN at hg
   repeat' split at hg
   all_goals first | (exfalso; omega) | skip
   rename_i hx
   have hk' : (kd p == 0) = true := hk
   simp [hk'] at hx
   omega
  have s := took_shd (e.ackn (tol p)) (nu p) (bd p) hr hbl h.a16 h.al
  obtain ⟨q1, q2, q3, q4⟩ := took_same (e.ackn (tol p)) (nu p) (bd p)
  have i1 := numL_numd 17 ((e.ackn (tol p)).took (nu p) (bd p)) (by rw [q2]; exact h.m0) (by rw [q1]; exact hakl)
  have x0 := s.exp0; have x1 := s.exp1; have x2 := s.read
  have y0 : (e.ackn (tol p)).exp = e.exp := rfl
  have y1 : (e.ackn (tol p)).read = e.read := rfl
  have z1 := h.e0; have z2 := h.e1; have z3 := h.rl; have z4 := h.n1; have z5 := h.r
  rw [y1] at x2
  refine Bd.numd (k := 17) i1 (by rw [q2]; exact h.m0) (by rw [q2]; exact h.m1) (fun q hq => h.wb q (hak q (by rw [← q1]; exact hq))) (by rw [q4]; exact h.n0) ?_ ?_ (by omega) (by omega) s.a16 s.al (by omega)
  ·rw [q4]; show e.next + _ ≤ _; omega
  ·rw [q3]; show e.rest.length ≤ _; omega
 ·have i1 := numL_numd 17 (e.ackn (tol p)) h.m0 hakl
  have z2 := h.e1; have z3 := h.rl; have z4 := h.n1; have z5 := h.r
  exact Bd.numd (k := 17) i1 h.m0 h.m1 (fun q hq => h.wb q (hak q hq)) h.n0 (by show e.next + _ ≤ _; omega) (by show e.rest.length ≤ _; omega) h.e0 (by show e.exp ≤ _; omega) h.a16 h.al (by show e.read.length ≤ _; omega)
theorem En.Bd.due {i : Nat} {e : En} (h : e.Bd i) : e.due.Bd i :=
 ⟨h.m0, h.m1, by rw [En.due, dueL_len]; exact h.w, fun p hp => by
   obtain ⟨q, hq, rfl⟩ := List.mem_map.1 hp
   exact h.wb q hq, h.n0, h.n1, h.r, h.e0, h.e1, h.a16, h.al, h.rl⟩
theorem En.Bd.tick {i : Nat} {e : En} (h : e.Bd i) : e.tick.Bd i :=
 ⟨h.m0, h.m1, by rw [En.tick, tickL_len]; exact h.w, fun p hp => by
   obtain ⟨q, hq, rfl⟩ := List.mem_map.1 hp
   exact h.wb q hq, h.n0, h.n1, h.r, h.e0, h.e1, h.a16, h.al, h.rl⟩
theorem En.Bd.clear {i : Nat} {e : En} (h : e.Bd i) : ({ e with read := [] } : En).Bd i :=
 ⟨h.m0, h.m1, h.w, h.wb, h.n0, h.n1, h.r, h.e0, h.e1, h.a16, h.al, Nat.zero_le _⟩
end Go.Proofs.Lk
set_option maxRecDepth 100000
set_option linter.unusedSimpArgs false
set_option linter.unusedVariables false
namespace Go.Proofs.Sh
open Go.Pv
open Lk (En Pc)
end Go.Proofs.Sh
set_option maxRecDepth 100000
set_option linter.unusedSimpArgs false
set_option linter.unusedVariables false
namespace Go.Proofs.Sh
open Go.Pv
open Lk (En Pc)
structure EnC (i : Nat) (e : En) : Prop where
 bd : e.Bd i
 q : e.rest.length ≤ 65536
 rd : e.read = []
theorem EnC.ok {i : Nat} {e : En} (h : EnC i e) (hi : i ≤ 10000) : e.Ok :=
 ⟨h.bd.m0, by have := h.bd.m1; omega, h.bd.w, fun p hp => by have := h.bd.wb p hp; omega, h.bd.n0, by have := h.bd.n1; omega, by have := h.q; omega, h.bd.e0, by have := h.bd.e1; omega, h.bd.a16, fun j => by have := h.bd.al j; omega, by rw [h.rd]; simp⟩
theorem EnC.up {i k : Nat} {e : En} (h : EnC i e) (hk : i ≤ k) : EnC k e := ⟨h.bd.up hk, h.q, h.rd⟩
theorem got_rest {e : En} (p : Bys) (hm : 0 ≤ e.most) (hw : e.way.length ≤ 16) : (e.gotE p).rest.length ≤ e.rest.length := by
 have hakl : (e.ackn (Lk.tol p)).way.length ≤ 16 := Nat.le_trans (List.dropWhile_sublist _).length_le hw
 unfold Lk.En.gotE
 split
 ·obtain ⟨q1, q2, q3, q4⟩ := Lk.took_same (e.ackn (Lk.tol p)) (Lk.nu p) (Lk.bd p)
  have i1 := (Lk.numL_numd 17 ((e.ackn (Lk.tol p)).took (Lk.nu p) (Lk.bd p)) (by rw [q2]; exact hm) (by rw [q1]; exact hakl)).rest
  rw [q3] at i1
  exact i1
 ·exact (Lk.numL_numd 17 (e.ackn (Lk.tol p)) hm hakl).rest
theorem got_read {i : Nat} {e : En} (h : e.Bd i) (hr0 : e.read = []) {p : Bys} (hp : p.length ≤ 3000) (hg : Lk.gotN e p = 0) : (e.gotE p).read.length ≤ 51000 := by
 have hbl : (Lk.bd p).length ≤ 3000 := by rw [Lk.bd, List.length_drop]; omega
 have hakl : (e.ackn (Lk.tol p)).way.length ≤ 16 := Nat.le_trans (List.dropWhile_sublist _).length_le h.w
 have e0 : (e.ackn (Lk.tol p)).read = [] := hr0
 unfold Lk.En.gotE
 split
 ·rename_i hk
  have hr : Lk.nu p ≤ e.exp + 15 := by
   unfold Lk.gotN at hg
   repeat' split at hg
   all_goals first | (exfalso; omega) | skip
   rename_i hx
   have hk' : (Lk.kd p == 0) = true := hk
   simp [hk'] at hx
   omega
  have s := (Lk.took_shd (e.ackn (Lk.tol p)) (Lk.nu p) (Lk.bd p) hr hbl h.a16 h.al).read
  obtain ⟨q1, q2, q3, q4⟩ := Lk.took_same (e.ackn (Lk.tol p)) (Lk.nu p) (Lk.bd p)
  have i1 := (Lk.numL_numd 17 ((e.ackn (Lk.tol p)).took (Lk.nu p) (Lk.bd p)) (by rw [q2]; exact h.m0) (by rw [q1]; exact hakl)).read
  rw [e0] at s
  rw [Lk.En.number, i1]
  simpa using s
 ·have i1 := (Lk.numL_numd 17 (e.ackn (Lk.tol p)) h.m0 hakl).read
  rw [Lk.En.number, i1, e0]
  simp
theorem EnC.due {i : Nat} {e : En} (h : EnC i e) : EnC i e.due := ⟨h.bd.due, h.q, h.rd⟩
theorem EnC.tick {i : Nat} {e : En} (h : EnC i e) : EnC i e.tick := ⟨h.bd.tick, h.q, h.rd⟩
theorem EnC.got {i : Nat} {e : En} (h : EnC i e) {p : Bys} (hp : p.length ≤ 3000) (hg : Lk.gotN e p = 0) : EnC (i + 1) { (e.gotE p) with read := [] } :=
 ⟨(h.bd.got hp hg).clear, Nat.le_trans (got_rest p h.bd.m0 h.bd.w) h.q, rfl⟩
theorem EnC.dueP {i : Nat} {e : En} (h : EnC i e) : e.dueP.length ≤ 17 ∧ ∀ x ∈ e.dueP, x.length ≤ 3000 := by
 unfold Lk.En.dueP
 split
 ·refine ⟨by simp, fun x hx => ?_⟩
  rw [List.mem_singleton] at hx
  subst hx
  have := pkt_len 1 0 e.exp []
  simp only [List.length_nil] at this
  omega
 ·refine ⟨?_, fun x hx => ?_⟩
  ·have := Lk.dueStr_len e e.way
   have := h.bd.w
   omega
  ·unfold Lk.dueStr at hx
   obtain ⟨p, hp, rfl⟩ := List.mem_map.1 hx
   have h1 := pkt_len 0 p.n e.exp p.b
   have h2 := h.bd.wb p (List.mem_filter.1 hp).1
   omega
structure Hf.C (i : Nat) (h : Hf) : Prop where
 e : EnC i h.e
 l : h.l.Ok
 q : h.out.length + 65536 * h.fr.length ≤ 3342336000 * i
theorem Hf.C.up {i k : Nat} {h : Hf} (H : h.C i) (hk : i ≤ k) : h.C k := ⟨H.e.up hk, H.l, by have := H.q; omega⟩
theorem shr_le : ∀ (f : Nat) (h : Hf), h.l.Ok → (Hf.shr f h).l.Ok ∧ (Hf.shr f h).out.length + 65536 * (Hf.shr f h).fr.length ≤ h.out.length + 65536 * h.fr.length
 | 0, h, hk => ⟨hk, Nat.le_refl _⟩
 | f + 1, h, hk => by
  unfold Hf.shr
  split
  ·rename_i h4
   have h4' : 4 ≤ h.fr.length := by simp at h4; omega
   split
   ·exact ⟨hk, Nat.le_refl _⟩
   ·split
    ·exact ⟨hk, Nat.le_refl _⟩
    ·split
     ·refine ⟨hk, ?_⟩
      simp only [List.length_drop]
      omega
     ·have g := Cc.Ok.get hk ((h.fr.drop 4).take (fourN h.fr).toNat)
      have g2 := g.2
      have ih := shr_le f { h with fr := h.fr.drop (4 + (fourN h.fr).toNat), l := (h.l.get ((h.fr.drop 4).take (fourN h.fr).toNat)).1, out := h.out ++ (h.l.get ((h.fr.drop 4).take (fourN h.fr).toNat)).2.1 } g.1
      refine ⟨ih.1, Nat.le_trans ih.2 ?_⟩
      simp only [List.length_append, List.length_drop]
      omega
  ·exact ⟨hk, Nat.le_refl _⟩
def Hf.tk (h : Hf) (p : Bys) : Hf := if (h.got p).2 = 0 then (h.got p).1 else h
def Hf.tks (h : Hf) (l : List Bys) : Hf := l.foldl Hf.tk h
def Hf.du (h : Hf) : Hf := { h with e := h.e.due }
def Hf.ti (h : Hf) : Hf := { h with e := h.e.tick }
theorem Hf.C.got {i : Nat} {h : Hf} (H : h.C i) {p : Bys} (hp : p.length ≤ 3000) (hg : (h.got p).2 = 0) : (h.got p).1.C (i + 1) := by
 unfold Hf.got at hg ⊢
 by_cases hd : h.dd = true
 ·rw [if_pos hd] at hg; exact absurd hg (by show ¬ (20 : Int) = 0; decide)
 ·rw [if_neg hd] at hg ⊢
  by_cases hn : Lk.gotN h.e p = 0
  ·rw [if_pos hn]
   simp only
   have h1 := H.e.got hp hn
   have h2 := got_read H.e.bd H.e.rd hp hn
   have h3 := H.q
   obtain ⟨k1, k2, k3, k4, k5⟩ := shr_keep (h.fr.length + (h.e.gotE p).read.length + 1) { h with e := { (h.e.gotE p) with read := [] }, fr := h.fr ++ (h.e.gotE p).read }
   obtain ⟨s1, s2⟩ := shr_le (h.fr.length + (h.e.gotE p).read.length + 1) { h with e := { (h.e.gotE p) with read := [] }, fr := h.fr ++ (h.e.gotE p).read } H.l
   generalize Hf.shr _ _ = r at *
   simp only [List.length_append] at k4 s2
   split
   ·refine ⟨by show EnC _ r.e; rw [k4]; exact h1, s1, ?_⟩
    simp only [List.length_nil]
    omega
   ·refine ⟨by rw [k4]; exact h1, s1, ?_⟩
    omega
  ·rw [if_neg hn] at hg; exact absurd hg hn
theorem Hf.C.tk {i : Nat} {h : Hf} (H : h.C i) {p : Bys} (hp : p.length ≤ 3000) : (h.tk p).C (i + 1) := by
 unfold Hf.tk
 split
 ·rename_i hg; exact H.got hp hg
 ·exact H.up (Nat.le_succ i)
theorem Hf.C.tks : ∀ (l : List Bys) {i : Nat} {h : Hf}, h.C i → (∀ p ∈ l, p.length ≤ 3000) → (h.tks l).C (i + l.length)
 | [], i, h, H, _ => H
 | p :: l, i, h, H, hl => by
  have := Hf.C.tks l (H.tk (hl p List.mem_cons_self)) fun q hq => hl q (List.mem_cons_of_mem _ hq)
  rw [List.length_cons, show i + (l.length + 1) = i + 1 + l.length by omega]
  exact this
theorem Hf.C.du {i : Nat} {h : Hf} (H : h.C i) : h.du.C i := ⟨H.e.due, H.l, H.q⟩
theorem Hf.C.ti {i : Nat} {h : Hf} (H : h.C i) : h.ti.C i := ⟨H.e.tick, H.l, H.q⟩
def xch (p : Hf × Hf) : Hf × Hf := (p.1.du.tks (p.2.tks p.1.e.dueP).e.dueP, (p.2.tks p.1.e.dueP).du)
def xchs : Nat → Hf × Hf → Hf × Hf
 | 0, p => p
 | n + 1, p => xchs n (xch p)
def calmR : Nat → Hf × Hf → Hf × Hf
 | 0, p => p
 | n + 1, p => calmR n (xchs 2 (p.1.ti, p.2.ti))
theorem Hf.C.fs (k : Nat) {i : Nat} {h : Hf} (H : h.C i) (hi : i ≤ 10000) {p : Bys} (hp : p.length ≤ 3000) : Fsp Tryz.prog 15 [] 0 [.agg (h.cf k), .str p] [] 0 (.tup [.agg ((h.got p).1.cf k), .int .i64 (h.got p).2]) := by
 by_cases hd : h.dd = true
 ·have := fgotdead_fs k h p hd
  unfold Hf.got
  rw [if_pos hd]
  exact this
 ·have hd' : h.dd = false := by simpa using hd
  by_cases hn : Lk.gotN h.e p = 0
  ·have h2 := got_read H.e.bd H.e.rd hp hn
   have h3 := H.q
   have := fgot_fs k h p hd' (H.e.ok hi) (by omega) hn (by omega) H.l (by omega)
   have h0 : (h.got p).2 = 0 := by unfold Hf.got; rw [if_neg hd, if_pos hn]
   rw [h0]
   exact this
  ·have := fgoterr_fs k h p hd' (H.e.ok hi) (by omega) hn
   unfold Hf.got
   rw [if_neg hd, if_neg hn]
   exact this
end Go.Proofs.Sh
set_option maxRecDepth 100000
set_option linter.unusedSimpArgs false
set_option linter.unusedVariables false
namespace Go.Proofs.Sh
open Go.Pv
open Lk (En Pc)
theorem cf_len (k : Nat) (h : Hf) : (h.cf k).length = 34 := rfl
theorem cf_take (k : Nat) (h : Hf) : (h.cf k).take 34 = h.cf k := rfl
theorem cf_drop (k : Nat) (h : Hf) : (h.cf k).drop 34 = [] := rfl
theorem cf_back (k : Nat) (h : Hf) (a : List Nat) (b c : Nat) : (h.cf k).map (PV.back1 a b c) = h.cf k := by simp [Hf.cf, PV.back1, PV.weak]
theorem cf_wk (k : Nat) (h : Hf) (β τ : List (Nat × Nat)) (em : List Nat) : wkL (wkC β τ em) (h.cf k) (h.cf k) := by simp [Hf.cf, wkL, wkC, PV.weak]
theorem hzG_wk (β τ : List (Nat × Nat)) (em : List Nat) : wkL (wkC β τ em) hzG hzG := by simp [hzG, wkL, wkC, PV.weak]
theorem hzG_len : hzG.length = 34 := rfl
theorem hzG_drop : hzG.drop 34 = [] := rfl
structure CmA (R : Hf × Hf) (n i0 : Nat) where
 j : Nat
 a : Hf
 b : Hf
 hj : j ≤ n
 ha : a.C (i0 + 34 * j)
 hb : b.C (i0 + 34 * j)
 e : calmR (n - j) (a, b) = R
def CmA.O (ka kb : Nat) (a b : Hf) : List (Nat × Option (List PV)) := [(0, some (a.cf ka)), (1, some (b.cf kb)), (2, some hzG), (3, some hzG)]
def CmA.st (ka kb : Nat) {R : Hf × Hf} {n i0 : Nat} (s : CmA R n i0) : PS := { n := 72, env := [(18, .int .i64 s.j), (17, .int .i64 n), (7, .box 3 0), (6, .box 2 0), (4, .box 1 0), (3, .box 0 0)], objs := CmA.O ka kb s.a s.b, live := [], nxt := 5 }
structure CnA (R : Hf × Hf) (i0 : Nat) where
 j : Nat
 a : Hf
 b : Hf
 hj : j ≤ 2
 ha : a.C (i0 + 17 * j)
 hb : b.C (i0 + 17 * j)
 e : xchs (2 - j) (a, b) = R
def CnA.st (ka kb : Nat) (n j0 : Nat) {R : Hf × Hf} {i0 : Nat} (s : CnA R i0) : PS := { n := 72, env := [(24, .int .i64 s.j), (18, .int .i64 j0), (17, .int .i64 n), (7, .box 3 0), (6, .box 2 0), (4, .box 1 0), (3, .box 0 0)], objs := CmA.O ka kb s.a s.b, live := [], nxt := 5 }
structure CpA (B : Hf) (l : List Bys) (i0 : Nat) where
 i : Nat
 b : Hf
 hi : i ≤ l.length
 hb : b.C (i0 + i)
 e : b.tks (l.drop i) = B
def CpA.st1 (ka kb : Nat) (n j0 j1 : Nat) (a : Hf) {B : Hf} {l : List Bys} {i0 : Nat} (s : CpA B l i0) : PS := { n := 72, env := [(33, .int .i64 s.i), (32, .int .i64 l.length), (31, .sl 1 (sts l)), (24, .int .i64 j1), (18, .int .i64 j0), (17, .int .i64 n), (7, .box 3 0), (6, .box 2 0), (4, .box 1 0), (3, .box 0 0)], objs := CmA.O ka kb a s.b, live := [], nxt := 5 }
def CpA.st2 (ka kb : Nat) (n j0 j1 : Nat) (b : Hf) {B : Hf} {l : List Bys} {i0 : Nat} (s : CpA B l i0) : PS := { n := 72, env := [(54, .int .i64 s.i), (53, .int .i64 l.length), (52, .sl 1 (sts l)), (24, .int .i64 j1), (18, .int .i64 j0), (17, .int .i64 n), (7, .box 3 0), (6, .box 2 0), (4, .box 1 0), (3, .box 0 0)], objs := CmA.O ka kb s.b b, live := [], nxt := 5 }
theorem tks_at {l : List Bys} {i : Nat} (h : i < l.length) (b : Hf) : b.tks (l.drop i) = (b.tk (l.getD i [])).tks (l.drop (i + 1)) := by
 rw [drop_at h]; rfl
theorem mem_getD {l : List Bys} {i : Nat} (h : i < l.length) : l.getD i [] ∈ l := by rw [List.getD_eq_getElem?_getD, List.getElem?_eq_getElem h]; exact List.getElem_mem h
set_option maxHeartbeats 4000000 in
theorem calm_fs (ka kb n : Nat) (a b : Hf) (i0 : Nat) (ha : a.C i0) (hb : b.C i0) (hi : i0 + 34 * n ≤ 10000) : Fsp Tryz.prog 12 [] 0 [.agg (a.cf ka), .agg (b.cf kb), .int .i64 (n : Int)] [] 0 (.tup [.agg ((calmR n (a, b)).1.cf ka), .agg ((calmR n (a, b)).2.cf kb)]) := by
 generalize hR : calmR n (a, b) = R
 (refine Fsp.ofs (nx := 0) mixed Tryz.func12 rfl (by simp [Tryz.f12]) ?_; simp -implicitDefEqProofs only [push_cast, Tryz.f12, cf_len, cf_take, cf_back, seval])
 refine loopC_of (α := CmA R n i0) (CmA.st ka kb) (fun s => n - s.j) ⟨0, a, b, by omega, ha, hb, hR⟩ ?_ ?_
 ·(simp only [CmA.st, CmA.O]; exact Wk.at _ _ _ [(0, 0), (1, 4), (2, 8), (3, 12)] [] [] (by simp) (by simp [wkV, PV.el, PV.weak, PS.get, PS.obj, PS.lv, lkp_hit, lkp_miss, lkp_nil, lko, wkL, wkC, res1, CmA.O, cf_wk, hzG_wk, hzG]) (by simp [PS.get, PS.obj, PS.lv, lkp_hit, lkp_miss, lkp_nil, lko, wkL, wkC, PV.weak, wkL, wkC, res1, CmA.O, cf_wk, hzG_wk, hzG]))
 clear hR ha hb
 rintro ⟨j, a, b, hj, ha, hb, he⟩
 simp only [CmA.st, CmA.O]
 simp -implicitDefEqProofs only [push_cast, seval]
 refine condC_split (fun g1 => ?_) (fun g1 => ?_)
 ·have hjl : j < n := by simp at g1; omega
  have hwj : IntKind.i64.wrap ((j : Int) + 1) = ((j + 1 : Nat) : Int) := by (rw [wrap_i64_id (by omega) (by omega)]; rfl)
  have hTa : Fsp Tryz.prog 37 [] 0 [.agg (a.cf ka)] [] 0 (.agg (a.ti.cf ka)) := ftick_fs ka a (by have := ha.e.bd.w; omega)
  have hTb : Fsp Tryz.prog 37 [] 0 [.agg (b.cf kb)] [] 0 (.agg (b.ti.cf kb)) := ftick_fs kb b (by have := hb.e.bd.w; omega)
  have ha1 := ha.ti
  have hb1 := hb.ti
  rw [show n - j = (n - (j + 1)) + 1 by omega, calmR] at he
  generalize a.ti = a1 at *
  generalize b.ti = b1 at *
  generalize hR2 : xchs 2 (a1, b1) = R2 at he
  simp -implicitDefEqProofs only [push_cast, cf_len, cf_take, cf_back, cf_drop, List.append_nil, seval]
  (repeat refine and_o ?_)
  refine callE_p hTa ?_
  simp -implicitDefEqProofs only [push_cast, cf_len, cf_take, cf_back, cf_drop, List.append_nil, seval]
  refine callE_p hTb ?_
  simp -implicitDefEqProofs only [push_cast, cf_len, cf_take, cf_back, cf_drop, List.append_nil, seval]
  (repeat refine and_o ?_)
  refine loopC_of (α := CnA R2 (i0 + 34 * j)) (CnA.st ka kb n j) (fun s => 2 - s.j) ⟨0, a1, b1, by omega, ha1, hb1, hR2⟩ ?_ ?_
  ·(simp only [CnA.st, CmA.O]; exact Wk.at _ _ _ [(0, 0), (1, 1), (2, 2), (3, 3)] [] [] (by simp) (by simp [wkV, PV.el, PV.weak, PS.get, PS.obj, PS.lv, lkp_hit, lkp_miss, lkp_nil, lko, wkL, wkC, res1, CmA.O, cf_wk, hzG_wk]) (by simp [PS.get, PS.obj, PS.lv, lkp_hit, lkp_miss, lkp_nil, lko, wkL, wkC, PV.weak, wkL, wkC, res1, CmA.O, cf_wk, hzG_wk]))
  clear hR2 hTa hTb
  rintro ⟨j1, a, b, hj1, ha, hb, he2⟩
  simp only [CnA.st, CmA.O]
  simp -implicitDefEqProofs only [push_cast, seval]
  refine condC_split (fun g2 => ?_) (fun g2 => ?_)
  ·have hj2 : j1 < 2 := by simp at g2; omega
   have hwj1 : IntKind.i64.wrap ((j1 : Int) + 1) = ((j1 + 1 : Nat) : Int) := by (rw [wrap_i64_id (by omega) (by omega)]; rfl)
   have hDa : Fsp Tryz.prog 25 [] 0 [.agg (a.cf ka)] [] 0 (.tup [.agg (a.du.cf ka), .sl 1 (sts a.e.dueP)]) := fdue_fs ka a (by have := ha.e.bd.w; omega) (fun q hq => by have := ha.e.bd.wb q hq; omega)
   have hPa := ha.e.dueP
   have ha1 := ha.du
   rw [show 2 - j1 = (2 - (j1 + 1)) + 1 by omega, xchs] at he2
   unfold xch at he2
   simp only at he2
   generalize hB : b.tks a.e.dueP = B at he2
   generalize a.e.dueP = l at *
   generalize a.du = a1 at *
   simp -implicitDefEqProofs only [push_cast, cf_len, cf_take, cf_back, cf_drop, List.append_nil, seval]
   refine callE_p hDa ?_
   simp -implicitDefEqProofs only [push_cast, cf_len, cf_take, cf_back, cf_drop, List.append_nil, sts_length, seval]
   (repeat refine and_o ?_)
   refine loopC_of (α := CpA B l (i0 + 34 * j + 17 * j1)) (CpA.st1 ka kb n j j1 a1) (fun s => l.length - s.i) ⟨0, b, by omega, hb, by rw [List.drop_zero]; exact hB⟩ ?_ ?_
   ·(simp only [CpA.st1, CmA.O]; exact Wk.at _ _ _ [(0, 0), (1, 1), (2, 2), (3, 3)] [] [] (by simp) (by simp [wkV, PV.el, PV.weak, PS.get, PS.obj, PS.lv, lkp_hit, lkp_miss, lkp_nil, lko, wkL, wkC, res1, CmA.O, cf_wk, hzG_wk]) (by simp [PS.get, PS.obj, PS.lv, lkp_hit, lkp_miss, lkp_nil, lko, wkL, wkC, PV.weak, wkL, wkC, res1, CmA.O, cf_wk, hzG_wk]))
   clear hB hDa
   rintro ⟨i, b, hil, hb, he3⟩
   simp only [CpA.st1, CmA.O]
   simp -implicitDefEqProofs only [push_cast, sts_length, seval]
   refine condC_split (fun g3 => ?_) (fun g3 => ?_)
   ·have hlt : i < l.length := by simp at g3; omega
    have hgt := sts_at hlt
    have hwi : IntKind.i64.wrap ((i : Int) + 1) = ((i + 1 : Nat) : Int) := by (rw [wrap_i64_id (by omega) (by omega)]; rfl)
    have hpl := hPa.2 _ (mem_getD hlt)
    rw [tks_at hlt] at he3
    have hG := hb.fs kb (by omega) hpl
    have hb2 := hb.tk hpl
    unfold Hf.tk at he3 hb2
    generalize l.getD i [] = p at *
    generalize b.got p = G at *
    obtain ⟨b3, g⟩ := G
    simp only at he3 hb2 hG
    simp -implicitDefEqProofs only [push_cast, hgt, cf_len, cf_take, cf_back, cf_drop, List.append_nil, sts_length, seval]
    (repeat refine and_o ?_)
    refine callE_p hG ?_
    simp -implicitDefEqProofs only [push_cast, cf_len, cf_take, cf_back, cf_drop, List.append_nil, seval]
    cases c : (g == 0) with
    | true =>
     have hg0 : g = 0 := by simpa using c
     rw [if_pos hg0] at he3 hb2
     simp -implicitDefEqProofs only [push_cast, c, hwi, cf_len, cf_take, cf_back, cf_drop, List.append_nil, seval]
     refine ⟨⟨i + 1, b3, hlt, hb2, he3⟩, by simp only; omega, ?_⟩
     (simp only [CpA.st1, CmA.O]; exact Wk.at _ _ _ [(0, 0), (1, 1), (2, 2), (3, 3)] [] [] (by simp) (by simp [wkV, PV.el, PV.weak, PS.get, PS.obj, PS.lv, lkp_hit, lkp_miss, lkp_nil, lko, wkL, wkC, res1, CmA.O, cf_wk, hzG_wk]) (by simp [PS.get, PS.obj, PS.lv, lkp_hit, lkp_miss, lkp_nil, lko, wkL, wkC, PV.weak, wkL, wkC, res1, CmA.O, cf_wk, hzG_wk]))
    | false =>
     have hg0 : ¬ g = 0 := by simpa using c
     rw [if_neg hg0] at he3 hb2
     simp -implicitDefEqProofs only [push_cast, c, hwi, cf_len, cf_take, cf_back, cf_drop, List.append_nil, seval]
     refine ⟨⟨i + 1, b, hlt, hb2, he3⟩, by simp only; omega, ?_⟩
     (simp only [CpA.st1, CmA.O]; exact Wk.at _ _ _ [(0, 0), (1, 1), (2, 2), (3, 3)] [] [] (by simp) (by simp [wkV, PV.el, PV.weak, PS.get, PS.obj, PS.lv, lkp_hit, lkp_miss, lkp_nil, lko, wkL, wkC, res1, CmA.O, cf_wk, hzG_wk]) (by simp [PS.get, PS.obj, PS.lv, lkp_hit, lkp_miss, lkp_nil, lko, wkL, wkC, PV.weak, wkL, wkC, res1, CmA.O, cf_wk, hzG_wk]))
   ·have hie : i = l.length := by simp at g3; omega
    subst hie
    rw [List.drop_length] at he3
    have he4 : b = B := he3
    subst he4
    have hb4 := hb.up (show i0 + 34 * j + 17 * j1 + l.length ≤ i0 + 34 * j + 17 * (j1 + 1) by have := hPa.1; omega)
    clear hPa
    have hDb : Fsp Tryz.prog 25 [] 0 [.agg (b.cf kb)] [] 0 (.tup [.agg (b.du.cf kb), .sl 1 (sts b.e.dueP)]) := fdue_fs kb b (by have := hb4.e.bd.w; omega) (fun q hq => by have := hb4.e.bd.wb q hq; omega)
    have hPb := hb4.e.dueP
    have hb1 := hb4.du
    generalize hA : a1.tks b.e.dueP = A at he2
    generalize b.e.dueP = l2 at *
    generalize b.du = b1 at *
    simp -implicitDefEqProofs only [push_cast, cf_len, cf_take, cf_back, cf_drop, List.append_nil, seval]
    refine callE_p hDb ?_
    simp -implicitDefEqProofs only [push_cast, cf_len, cf_take, cf_back, cf_drop, List.append_nil, sts_length, seval]
    (repeat refine and_o ?_)
    refine loopC_of (α := CpA A l2 (i0 + 34 * j + 17 * j1)) (CpA.st2 ka kb n j j1 b1) (fun s => l2.length - s.i) ⟨0, a1, by omega, ha1, by rw [List.drop_zero]; exact hA⟩ ?_ ?_
    ·(simp only [CpA.st2, CmA.O]; exact Wk.at _ _ _ [(0, 0), (1, 1), (2, 2), (3, 3)] [] [] (by simp) (by simp [wkV, PV.el, PV.weak, PS.get, PS.obj, PS.lv, lkp_hit, lkp_miss, lkp_nil, lko, wkL, wkC, res1, CmA.O, cf_wk, hzG_wk]) (by simp [PS.get, PS.obj, PS.lv, lkp_hit, lkp_miss, lkp_nil, lko, wkL, wkC, PV.weak, wkL, wkC, res1, CmA.O, cf_wk, hzG_wk]))
    clear hA hDb
    rintro ⟨i, a, hil, ha, he3⟩
    simp only [CpA.st2, CmA.O]
    simp -implicitDefEqProofs only [push_cast, sts_length, seval]
    refine condC_split (fun g4 => ?_) (fun g4 => ?_)
    ·have hlt : i < l2.length := by simp at g4; omega
     have hgt := sts_at hlt
     have hwi : IntKind.i64.wrap ((i : Int) + 1) = ((i + 1 : Nat) : Int) := by (rw [wrap_i64_id (by omega) (by omega)]; rfl)
     have hpl := hPb.2 _ (mem_getD hlt)
     rw [tks_at hlt] at he3
     have hG := ha.fs ka (by omega) hpl
     have ha2 := ha.tk hpl
     unfold Hf.tk at he3 ha2
     generalize l2.getD i [] = p at *
     generalize a.got p = G at *
     obtain ⟨a3, g⟩ := G
     simp only at he3 ha2 hG
     simp -implicitDefEqProofs only [push_cast, hgt, cf_len, cf_take, cf_back, cf_drop, List.append_nil, sts_length, seval]
     (repeat refine and_o ?_)
     refine callE_p hG ?_
     simp -implicitDefEqProofs only [push_cast, cf_len, cf_take, cf_back, cf_drop, List.append_nil, seval]
     cases c : (g == 0) with
     | true =>
      have hg0 : g = 0 := by simpa using c
      rw [if_pos hg0] at he3 ha2
      simp -implicitDefEqProofs only [push_cast, c, hwi, cf_len, cf_take, cf_back, cf_drop, List.append_nil, seval]
      refine ⟨⟨i + 1, a3, hlt, ha2, he3⟩, by simp only; omega, ?_⟩
      (simp only [CpA.st2, CmA.O]; exact Wk.at _ _ _ [(0, 0), (1, 1), (2, 2), (3, 3)] [] [] (by simp) (by simp [wkV, PV.el, PV.weak, PS.get, PS.obj, PS.lv, lkp_hit, lkp_miss, lkp_nil, lko, wkL, wkC, res1, CmA.O, cf_wk, hzG_wk]) (by simp [PS.get, PS.obj, PS.lv, lkp_hit, lkp_miss, lkp_nil, lko, wkL, wkC, PV.weak, wkL, wkC, res1, CmA.O, cf_wk, hzG_wk]))
     | false =>
      have hg0 : ¬ g = 0 := by simpa using c
      rw [if_neg hg0] at he3 ha2
      simp -implicitDefEqProofs only [push_cast, c, hwi, cf_len, cf_take, cf_back, cf_drop, List.append_nil, seval]
      refine ⟨⟨i + 1, a, hlt, ha2, he3⟩, by simp only; omega, ?_⟩
      (simp only [CpA.st2, CmA.O]; exact Wk.at _ _ _ [(0, 0), (1, 1), (2, 2), (3, 3)] [] [] (by simp) (by simp [wkV, PV.el, PV.weak, PS.get, PS.obj, PS.lv, lkp_hit, lkp_miss, lkp_nil, lko, wkL, wkC, res1, CmA.O, cf_wk, hzG_wk]) (by simp [PS.get, PS.obj, PS.lv, lkp_hit, lkp_miss, lkp_nil, lko, wkL, wkC, PV.weak, wkL, wkC, res1, CmA.O, cf_wk, hzG_wk]))
    ·have hie : i = l2.length := by simp at g4; omega
     subst hie
     rw [List.drop_length] at he3
     have he4 : a = A := he3
     subst he4
     have ha4 := ha.up (show i0 + 34 * j + 17 * j1 + l2.length ≤ i0 + 34 * j + 17 * (j1 + 1) by have := hPb.1; omega)
     simp -implicitDefEqProofs only [push_cast, hwj1, cf_len, cf_take, cf_back, cf_drop, List.append_nil, seval]
     refine ⟨⟨j1 + 1, a, b1, hj2, ha4, hb1, he2⟩, by simp only; omega, ?_⟩
     (simp only [CnA.st, CmA.O]; exact Wk.at _ _ _ [(0, 0), (1, 1), (2, 2), (3, 3)] [] [] (by simp) (by simp [wkV, PV.el, PV.weak, PS.get, PS.obj, PS.lv, lkp_hit, lkp_miss, lkp_nil, lko, wkL, wkC, res1, CmA.O, cf_wk, hzG_wk]) (by simp [PS.get, PS.obj, PS.lv, lkp_hit, lkp_miss, lkp_nil, lko, wkL, wkC, PV.weak, wkL, wkC, res1, CmA.O, cf_wk, hzG_wk]))
  ·have hje : j1 = 2 := by simp at g2; omega
   subst hje
   have he4 : (a, b) = R2 := he2
   subst he4
   simp -implicitDefEqProofs only [push_cast, hwj, cf_len, cf_take, cf_back, cf_drop, List.append_nil, seval]
   refine ⟨⟨j + 1, a, b, hjl, ha.up (by omega), hb.up (by omega), he⟩, by simp only; omega, ?_⟩
   (simp only [CmA.st, CmA.O]; exact Wk.at _ _ _ [(0, 0), (1, 1), (2, 2), (3, 3)] [] [] (by simp) (by simp [wkV, PV.el, PV.weak, PS.get, PS.obj, PS.lv, lkp_hit, lkp_miss, lkp_nil, lko, wkL, wkC, res1, CmA.O, cf_wk, hzG_wk]) (by simp [PS.get, PS.obj, PS.lv, lkp_hit, lkp_miss, lkp_nil, lko, wkL, wkC, PV.weak, wkL, wkC, res1, CmA.O, cf_wk, hzG_wk]))
 ·have hje : j = n := by simp at g1; omega
  subst hje
  rw [Nat.sub_self] at he
  have he4 : (a, b) = R := he
  subst he4
  simp -implicitDefEqProofs only [push_cast, cf_len, cf_take, cf_back, cf_drop, List.append_nil, hzG_len, hzG_drop, seval]
  (repeat refine and_o ?_)
  all_goals (first | done | rfl | exact ⟨_, rfl, by simp [wkL, res2, res1, PV.weak, PV.el, Hf.cf, hzG]⟩ | (simp [wkL, res2, res1, PV.weak, PV.el, Hf.cf, hzG]; done))
end Go.Proofs.Sh
set_option maxRecDepth 100000
set_option linter.unusedSimpArgs false
set_option linter.unusedVariables false
namespace Go.Proofs.Sh
open Go.Pv
open Lk (En Pc)
def enM (m : Int) : En := { most := m, way := [], next := 0, rest := [], exp := 0, aside := fun _ => [], read := [], ack := false }
def hfM (sv : Bool) (m o : Int) : Hf := { o := o, bg := sv, s := ⟨8, []⟩, l := ⟨8, []⟩, e := enM m, nr := [], fr := [], out := [], dd := false }
theorem lnewM_fs {m : Int} (h1 : 1 ≤ m) (h2 : m ≤ 1024) : Fsp Tryz.prog 19 [] 0 [.int .i64 m] [] 0 (.tup [(enM m).pv, .int .i64 0]) := by
 have h := Lk.new_fs m
 unfold Lk.newR at h
 rw [if_neg (by simp; omega)] at h
 exact h
def lenF (sv : Bool) : Nat := if sv = true then 34 else 33
theorem hnewM_fs (sv : Bool) {o m : Int} (ho : isOrder o) (hm1 : 1 ≤ m) (hm2 : m ≤ 1024) : Fsp Tryz.prog 10 [] 0 [.bool sv, .int .i64 o, .int .i64 8, .int .i64 m] [] 0 (.tup [.agg ((hfM sv m o).cf (lenF sv)), .int .i64 0]) := by
 have h1 := cnew8_fs
 have h2 := lnewM_fs hm1 hm2
 simp only [Cc.pv] at h1
 simp only [Lk.En.pv, Lk.En.cs, Lk.pcs, enM] at h2
 unfold Hf.cf hfM enM lenF
 rcases ho with rfl | rfl <;> cases sv
 ·(refine Fsp.ofs (nx := 0) mixed Tryz.func10 rfl (by simp [Tryz.f10]) ?_; simp -implicitDefEqProofs only [push_cast, Tryz.f10, Hf.cs, seval])
  refine callE_p h1 ?_
  simp -implicitDefEqProofs only [push_cast, seval]
  refine callE_p h2 ?_
  simp -implicitDefEqProofs only [push_cast, seval]
  all_goals (first | done | rfl | exact ⟨_, rfl, by simp [wkL, res2, res1, PV.weak, PV.el]⟩ | (simp [wkL, res2, res1, PV.weak, PV.el]; done))
 ·(refine Fsp.ofs (nx := 0) mixed Tryz.func10 rfl (by simp [Tryz.f10]) ?_; simp -implicitDefEqProofs only [push_cast, Tryz.f10, Hf.cs, seval])
  refine callE_p h1 ?_
  simp -implicitDefEqProofs only [push_cast, seval]
  refine callE_p h2 ?_
  simp -implicitDefEqProofs only [push_cast, seval]
  all_goals (first | done | rfl | exact ⟨_, rfl, by simp [wkL, res2, res1, PV.weak, PV.el]⟩ | (simp [wkL, res2, res1, PV.weak, PV.el]; done))
 ·(refine Fsp.ofs (nx := 0) mixed Tryz.func10 rfl (by simp [Tryz.f10]) ?_; simp -implicitDefEqProofs only [push_cast, Tryz.f10, Hf.cs, seval])
  refine callE_p h1 ?_
  simp -implicitDefEqProofs only [push_cast, seval]
  refine callE_p h2 ?_
  simp -implicitDefEqProofs only [push_cast, seval]
  all_goals (first | done | rfl | exact ⟨_, rfl, by simp [wkL, res2, res1, PV.weak, PV.el]⟩ | (simp [wkL, res2, res1, PV.weak, PV.el]; done))
 ·(refine Fsp.ofs (nx := 0) mixed Tryz.func10 rfl (by simp [Tryz.f10]) ?_; simp -implicitDefEqProofs only [push_cast, Tryz.f10, Hf.cs, seval])
  refine callE_p h1 ?_
  simp -implicitDefEqProofs only [push_cast, seval]
  refine callE_p h2 ?_
  simp -implicitDefEqProofs only [push_cast, seval]
  all_goals (first | done | rfl | exact ⟨_, rfl, by simp [wkL, res2, res1, PV.weak, PV.el]⟩ | (simp [wkL, res2, res1, PV.weak, PV.el]; done))
theorem enM_bd {m : Int} (h1 : 1 ≤ m) (h2 : m ≤ 1024) (i : Nat) : (enM m).Bd i :=
 ⟨by show 0 ≤ m; omega, h2, Nat.zero_le _, fun p hp => (by cases hp), Int.le_refl _, by show (0 : Int) ≤ 17 * i; omega, Nat.zero_le _, Int.le_refl _, by show (0 : Int) ≤ 17 * i; omega, fun _ _ => rfl, fun _ => Nat.zero_le _, Nat.zero_le _⟩
theorem cc8_ok : (⟨8, []⟩ : Cc).Ok := ⟨by show 1 ≤ 8; omega, by show 8 ≤ 64; omega, Nat.zero_le _, fun x hx => (by cases hx)⟩
theorem hfM_ok (sv : Bool) {o m : Int} (ho : isOrder o) (h1 : 1 ≤ m) (h2 : m ≤ 1024) (r : Nat) (hr : r ≤ 13107) : (hfM sv m o).Ok r where
 o := ho
 s := cc8_ok
 e := ⟨h1, by show m ≤ 1000000; omega, Nat.zero_le _, fun x hx => (by cases hx), Int.le_refl _, by show (0 : Int) + 17 * r ≤ 1000000000; omega, by show 0 + 0 + 5 * r ≤ 65536; omega, Int.le_refl _, by show (0 : Int) ≤ 1000000000; omega, fun _ _ => rfl, fun _ => Nat.zero_le _, Nat.zero_le _⟩
theorem send_bd {i : Nat} {e : En} (h : e.Bd i) (hi : 22 ≤ i) {b : Bys} (hr : (e.sendE b).rest.length ≤ 65536) : (e.sendE b).Bd (i + 1) := by
 have i1 := Lk.numL_numd 17 { e with rest := e.rest ++ b } h.m0 h.w
 have e1 : e.sendE b = Lk.numL 17 { e with rest := e.rest ++ b } := rfl
 rw [e1] at hr ⊢
 generalize Lk.numL 17 { e with rest := e.rest ++ b } = f at *
 have im := i1.most; have ie := i1.exp; have ia := i1.aside; have ir := i1.read; have il := i1.le; have inn := i1.next
 simp only at im ie ia ir il inn
 have h1 := h.m0; have h2 := h.m1; have h3 := h.n0; have h4 := h.n1; have h5 := h.e0; have h6 := h.e1; have h7 := h.rl
 exact ⟨by omega, by omega, i1.way, i1.bs 1024 h.wb h.m1, by omega, by omega, by omega, by omega, by omega, by rw [ia]; exact h.a16, by rw [ia]; exact h.al, by rw [ir]; omega⟩
theorem fdm_bd : ∀ (M : List Bys) (c : Cc) (e : En) (i r : Nat), c.Ok → EnR e r → M.flatten.length ≤ r → (∀ m ∈ M, 4 ≤ m.length ∧ m.length ≤ 65536) → e.Bd i → 22 ≤ i → (fdm (c, e) M).2.Bd (i + M.length) ∧ (fdm (c, e) M).2.read = e.read
 | [], c, e, i, r, _, _, _, _, hb, _ => ⟨hb, rfl⟩
 | m :: M, c, e, i, r, hc, he, hr, hm, hb, hi => by
  have hm4 := hm m List.mem_cons_self
  rw [List.flatten_cons, List.length_append] at hr
  have hsl := sh_len c m
  have hq := he.q
  have hfl : (frame (c.sh m)).length ≤ 6 + 3 * m.length := by
   unfold frame
   rw [List.length_append, (putS_4 (n := (c.sh m).length) (by omega)).1]
   omega
  have her2 := he.send hm4.1 (by omega) hfl
  have hq2 := her2.q
  unfold Lk.En.tot at hq2
  have ih := fdm_bd M (c.put m) (e.sendE (frame (c.sh m))) (i + 1) (r - m.length) (hc.put hm4.2) her2 (by omega) (fun q hq => hm q (List.mem_cons_of_mem _ hq)) (send_bd hb hi (by omega)) (by omega)
  rw [List.length_cons, show i + (M.length + 1) = i + 1 + M.length by omega]
  refine ⟨ih.1, Eq.trans ih.2 ?_⟩
  exact (Lk.numL_numd 17 { e with rest := e.rest ++ frame (c.sh m) } hb.m0 hb.w).read
theorem run_keep : ∀ (f : Nat) (h : Hf), (Hf.run f h).fr = h.fr ∧ (Hf.run f h).out = h.out
 | 0, h => ⟨rfl, rfl⟩
 | f + 1, h => by
  rw [Hf.run]
  split
  ·exact ⟨rfl, rfl⟩
  ·split
   ·exact run_keep f _
   ·exact ⟨rfl, rfl⟩
theorem cut_keep (R : Hf) : R.cut.fr = R.fr ∧ R.cut.out = R.out ∧ R.cut.l = R.l := by
 unfold Hf.cut
 split <;> exact ⟨rfl, rfl, rfl⟩
theorem near_C {h : Hf} (ho : isOrder h.o) (hd : h.dd = false) {x : Bys} (hx : h.nr.length + x.length ≤ 3000) (H : h.Ok (h.nr.length + x.length)) (hb : h.e.Bd 22) (hr : h.e.read = []) (hl : h.l.Ok) (hf : h.fr = []) (hout : h.out = []) : (h.near x).C 3022 := by
 obtain ⟨M, hI⟩ := run_is (h.nr.length + x.length + 1) { h with nr := h.nr ++ x } ho hd (by simp)
 unfold Hf.near
 obtain ⟨k1, k2⟩ := run_keep (h.nr.length + x.length + 1) { h with nr := h.nr ++ x }
 generalize hR : Hf.run (h.nr.length + x.length + 1) { h with nr := h.nr ++ x } = R at *
 obtain ⟨c1, c2, c3, c4, c5, c6, c7⟩ := Hf.cut_is R
 obtain ⟨d1, d2, d3⟩ := cut_keep R
 have hk := hI.k (h.nr.length + x.length) (by simp only [List.length_append]; omega) ⟨H.o, H.s, H.e⟩
 have hn := hI.n
 have hm := hI.m
 have he := hI.e
 have hRl := hI.l
 simp only [List.length_append] at hn he hRl
 have hml := mem4_len M hm
 have hB := fdm_bd M h.s h.e 22 (h.nr.length + x.length) H.s H.e (by omega) hm hb (by omega)
 rw [he] at hB
 have hq := hk.e.q
 unfold Lk.En.tot at hq
 refine ⟨⟨?_, ?_, ?_⟩, ?_, ?_⟩
 ·rw [c3]; exact hB.1.up (by omega)
 ·rw [c3]; omega
 ·rw [c3, hB.2]; exact hr
 ·rw [d3, hRl]; exact hl
 ·rw [d1, d2, k1, k2]
  show h.out.length + 65536 * h.fr.length ≤ _
  rw [hf, hout]
  simp
end Go.Proofs.Sh
