/- How great an end becomes, by how much is done with it. -/
import Derived.Test.YtoemcdgebkkcoaaGreatDoorLkNumd
import Derived.Test.YtoemcdgebkkcoaaGreatDoorPxG6
set_option maxRecDepth 100000
set_option linter.unusedSimpArgs false
set_option linter.unusedVariables false
namespace Go.Proofs.Lk
open Go.Pv Go.Proofs.Sh


/-- Its sizes, behind i acts. -/
structure En.Bd (i : Nat) (e : En) : Prop where
  m0 : 0 ≤ e.most
  m1 : e.most ≤ 1024
  w : e.way.length ≤ 16
  wb : ∀ p ∈ e.way, p.b.length ≤ 1024
  n0 : 0 ≤ e.next
  n1 : e.next ≤ 17 * i
  r : e.rest.length ≤ 3000 * i
  e0 : 0 ≤ e.exp
  e1 : e.exp ≤ 17 * i
  a16 : ∀ j, 16 ≤ j → e.aside j = []
  al : ∀ j, (e.aside j).length ≤ 3000
  rl : e.read.length ≤ 51000 * i
theorem En.Bd.ok {i : Nat} {e : En} (h : e.Bd i) (hi : i ≤ 300) : e.Ok :=
  ⟨h.m0, by have := h.m1; omega, h.w, fun p hp => by have := h.wb p hp; omega, h.n0, by have := h.n1; omega, by have := h.r; omega, h.e0, by have := h.e1; omega, h.a16, fun j => by have := h.al j; omega, by have := h.rl; omega⟩
theorem En.Bd.up {i k : Nat} {e : En} (h : e.Bd i) (hk : i ≤ k) : e.Bd k :=
  ⟨h.m0, h.m1, h.w, h.wb, h.n0, by have := h.n1; omega, by have := h.r; omega, h.e0, by have := h.e1; omega, h.a16, h.al, by have := h.rl; omega⟩
theorem Bd.numd {i k : Nat} {e f : En} (h : Numd e f k) (hm0 : 0 ≤ e.most) (hm1 : e.most ≤ 1024) (wb : ∀ p ∈ e.way, p.b.length ≤ 1024) (n0 : 0 ≤ e.next) (n1 : e.next + k ≤ 17 * i) (r : e.rest.length ≤ 3000 * i) (e0 : 0 ≤ e.exp) (e1 : e.exp ≤ 17 * i)
    (a16 : ∀ j, 16 ≤ j → e.aside j = []) (al : ∀ j, (e.aside j).length ≤ 3000) (rl : e.read.length ≤ 51000 * i) : f.Bd i := by
  have im := h.most; have ie := h.exp; have ia := h.aside; have ir := h.read; have il := h.le; have inx := h.next; have irs := h.rest
  exact ⟨by omega, by omega, h.way, h.bs 1024 wb hm1, by omega, by omega, by omega, by omega, by omega, by rw [ia]; exact a16, by rw [ia]; exact al, by rw [ir]; exact rl⟩
theorem En.Bd.send {i : Nat} {e : En} (h : e.Bd i) {b : List UInt8} (hb : b.length ≤ 3000) : (e.sendE b).Bd (i + 1) := by
  have i1 := numL_numd 17 { e with rest := e.rest ++ b } h.m0 h.w
  exact Bd.numd (k := 17) i1 h.m0 h.m1 h.wb h.n0 (by have := h.n1; simp only; omega) (by have := h.r; simp only [List.length_append]; omega) h.e0 (by have := h.e1; simp only; omega) h.a16 h.al (by have := h.rl; simp only; omega)
/-- What taking changes. -/
structure Shd (e f : En) (k : Nat) : Prop where
  exp0 : e.exp ≤ f.exp
  exp1 : f.exp ≤ e.exp + k
  read : f.read.length ≤ e.read.length + 3000 * k
  a16 : ∀ j, 16 ≤ j → f.aside j = []
  al : ∀ j, (f.aside j).length ≤ 3000
theorem shL_shd : ∀ (k : Nat) (e : En), (∀ j, 16 ≤ j → e.aside j = []) → (∀ j, (e.aside j).length ≤ 3000) → Shd e (shL k e) k
  | 0, e, h1, h2 => ⟨Int.le_refl _, by simp [shL], by simp [shL], h1, h2⟩
  | k + 1, e, h1, h2 => by
    unfold shL
    split
    · have i := shL_shd k e.shift (fun j hj => h1 (j + 1) (by omega)) (fun j => h2 (j + 1))
      have a := i.exp0; have b := i.exp1; have c := i.read
      have e1 : e.shift.exp = e.exp + 1 := rfl
      have e2 : e.shift.read.length ≤ e.read.length + 3000 := by
        have := h2 0
        simp only [En.shift, List.length_append]; omega
      exact ⟨by omega, by omega, by omega, i.a16, i.al⟩
    · exact ⟨Int.le_refl _, by omega, by omega, h1, h2⟩
theorem took_shd (e : En) (n : Int) (b : List UInt8) (hn : n ≤ e.exp + 15) (hb : b.length ≤ 3000) (h1 : ∀ j, 16 ≤ j → e.aside j = []) (h2 : ∀ j, (e.aside j).length ≤ 3000) : Shd e (e.took n b) 17 := by
  unfold En.took
  split
  · exact ⟨Int.le_refl _, by show e.exp ≤ e.exp + 17; omega, by show e.read.length ≤ _; omega, h1, h2⟩
  · rename_i h
    have hge : e.exp ≤ n := by simp at h; omega
    split
    · exact ⟨Int.le_refl _, by show e.exp ≤ e.exp + 17; omega, by show e.read.length ≤ _; omega, h1, h2⟩
    · have i := shL_shd 17 (e.acked.lay (n - e.exp).toNat b) (fun j hj => by
        show (if _ then _ else _) = _
        rw [if_neg (by omega)]
        exact h1 j hj) (fun j => by
        show (if _ then _ else _ : List UInt8).length ≤ _
        split
        · exact hb
        · exact h2 j)
      exact ⟨i.exp0, i.exp1, i.read, i.a16, i.al⟩
theorem En.Bd.got {i : Nat} {e : En} (h : e.Bd i) {p : List UInt8} (hp : p.length ≤ 3000) (hg : gotN e p = 0) : (e.gotE p).Bd (i + 1) := by
  have hbl : (bd p).length ≤ 3000 := by rw [bd, List.length_drop]; omega
  have hak : ∀ q ∈ (e.ackn (tol p)).way, q ∈ e.way := fun q hq => (List.dropWhile_sublist _).subset hq
  have hakl : (e.ackn (tol p)).way.length ≤ 16 := Nat.le_trans (List.dropWhile_sublist _).length_le h.w
  unfold En.gotE
  split
  · rename_i hk
    have hr : nu p ≤ e.exp + 15 := by
      unfold gotN at hg
      repeat' split at hg
      all_goals first | (exfalso; omega) | skip
      rename_i hx
      have hk' : (kd p == 0) = true := hk
      simp [hk'] at hx
      omega
    have s := took_shd (e.ackn (tol p)) (nu p) (bd p) hr hbl h.a16 h.al
    obtain ⟨q1, q2, q3, q4⟩ := took_same (e.ackn (tol p)) (nu p) (bd p)
    have i1 := numL_numd 17 ((e.ackn (tol p)).took (nu p) (bd p)) (by rw [q2]; exact h.m0) (by rw [q1]; exact hakl)
    have x0 := s.exp0; have x1 := s.exp1; have x2 := s.read
    have y0 : (e.ackn (tol p)).exp = e.exp := rfl
    have y1 : (e.ackn (tol p)).read = e.read := rfl
    have z1 := h.e0; have z2 := h.e1; have z3 := h.rl; have z4 := h.n1; have z5 := h.r
    rw [y1] at x2
    refine Bd.numd (k := 17) i1 (by rw [q2]; exact h.m0) (by rw [q2]; exact h.m1) (fun q hq => h.wb q (hak q (by rw [← q1]; exact hq))) (by rw [q4]; exact h.n0) ?_ ?_ (by omega) (by omega) s.a16 s.al (by omega)
    · rw [q4]; show e.next + _ ≤ _; omega
    · rw [q3]; show e.rest.length ≤ _; omega
  · have i1 := numL_numd 17 (e.ackn (tol p)) h.m0 hakl
    have z2 := h.e1; have z3 := h.rl; have z4 := h.n1; have z5 := h.r
    exact Bd.numd (k := 17) i1 h.m0 h.m1 (fun q hq => h.wb q (hak q hq)) h.n0 (by show e.next + _ ≤ _; omega) (by show e.rest.length ≤ _; omega) h.e0 (by show e.exp ≤ _; omega) h.a16 h.al (by show e.read.length ≤ _; omega)
theorem En.Bd.due {i : Nat} {e : En} (h : e.Bd i) : e.due.Bd i :=
  ⟨h.m0, h.m1, by rw [En.due, dueL_len]; exact h.w, fun p hp => by
    obtain ⟨q, hq, rfl⟩ := List.mem_map.1 hp
    exact h.wb q hq, h.n0, h.n1, h.r, h.e0, h.e1, h.a16, h.al, h.rl⟩
theorem En.Bd.tick {i : Nat} {e : En} (h : e.Bd i) : e.tick.Bd i :=
  ⟨h.m0, h.m1, by rw [En.tick, tickL_len]; exact h.w, fun p hp => by
    obtain ⟨q, hq, rfl⟩ := List.mem_map.1 hp
    exact h.wb q hq, h.n0, h.n1, h.r, h.e0, h.e1, h.a16, h.al, h.rl⟩
theorem En.Bd.clear {i : Nat} {e : En} (h : e.Bd i) : ({ e with read := [] } : En).Bd i :=
  ⟨h.m0, h.m1, h.w, h.wb, h.n0, h.n1, h.r, h.e0, h.e1, h.a16, h.al, Nat.zero_le _⟩
end Go.Proofs.Lk

/- A half beside a client: near bytes in parts, plain. -/
set_option maxRecDepth 100000
set_option linter.unusedSimpArgs false
set_option linter.unusedVariables false
namespace Go.Proofs.Sh
open Go.Pv
open Lk (En Pc)
theorem lenR_app {o : Int} {b : Bys} (h : 4 ≤ b.length) (x : Bys) : lenR o (b ++ x) = lenR o b := by
  unfold lenR
  have c1 : ¬ (b ++ x).length < 4 := by rw [List.length_append]; omega
  have c2 : ¬ b.length < 4 := by omega
  rw [lenN_app h, if_neg c1, if_neg c2]
theorem lenR_4 {o : Int} {b : Bys} (h : 4 ≤ b.length) (ho : isOrder o) : ((lenR o b).2 == 3) = false := by
  have hO : isOrd o = true := by rcases ho with rfl | rfl <;> rfl
  unfold lenR
  rw [if_pos hO, if_neg (by omega)]
  split
  · rfl
  · split <;> rfl
theorem wh_app_yes {h : Hf} (ho : isOrder h.o) (hw : h.wh.2.1 = true) (x : Bys) : ({ h with nr := h.nr ++ x } : Hf).wh = h.wh := by
  obtain ⟨n, hn, h4, hl, h6, hd⟩ := wh_n ho hw
  have h4' : 4 ≤ h.nr.length := by omega
  obtain ⟨o, bg, s, l, e, nr, fr, out, dd⟩ := h
  unfold Hf.wh at *
  simp only at *
  cases bg with
  | false =>
    simp only [Bool.false_eq_true, if_false] at *
    have c1 : ¬ decide ((nr.length : Int) < 4) = true := by simp; omega
    have c2 : ¬ decide (((nr ++ x).length : Int) < 4) = true := by simp; omega
    rw [if_neg c1, if_neg c2, List.take_append_of_le_length h4']
  | true =>
    simp only [if_true] at *
    have c := lenR_4 h4' ho
    rw [lenR_app h4', if_neg (by rw [c]; decide)]
    rw [if_neg (by rw [c]; decide)] at hn hw ⊢
    simp only at hn hw
    simp only [Bool.and_eq_true, decide_eq_true_eq] at hw
    have c1 : decide ((lenR o nr).1 ≤ ((nr ++ x).length : Int)) = true := by rw [List.length_append]; simp; omega
    have c2 : decide ((lenR o nr).1 ≤ (nr.length : Int)) = true := by simp; omega
    rw [c1, c2]
theorem wh_app_dead {h : Hf} (ho : isOrder h.o) (hd : h.dd = false) (hw : h.wh.2.1 = false) (hw2 : h.wh.2.2 = true) (x : Bys) : ({ h with nr := h.nr ++ x } : Hf).wh.2.1 = false ∧ ({ h with nr := h.nr ++ x } : Hf).wh.2.2 = true := by
  obtain ⟨o, bg, s, l, e, nr, fr, out, dd⟩ := h
  simp only at hd
  subst hd
  unfold Hf.wh at *
  simp only at *
  cases bg with
  | false =>
    simp only [Bool.false_eq_true, if_false] at *
    by_cases h4 : nr.length < 4
    · rw [if_pos (show decide ((nr.length : Int) < 4) = true by simp; omega)] at hw2
      cases hw2
    · have h4' : 4 ≤ nr.length := by omega
      have c1 : ¬ decide ((nr.length : Int) < 4) = true := by simp; omega
      have c2 : ¬ decide (((nr ++ x).length : Int) < 4) = true := by simp; omega
      rw [if_neg c1] at hw hw2
      rw [if_neg c2, List.take_append_of_le_length h4']
      exact ⟨hw, hw2⟩
  | true =>
    simp only [if_true] at *
    by_cases h4 : nr.length < 4
    · have hO : isOrd o = true := by rcases ho with rfl | rfl <;> rfl
      have c : ((lenR o nr).2 == 3) = true := by unfold lenR; rw [if_pos hO, if_pos h4]; rfl
      rw [if_pos c] at hw2
      cases hw2
    · have h4' : 4 ≤ nr.length := by omega
      have c := lenR_4 h4' ho
      rw [if_neg (by rw [c]; decide)] at hw hw2
      rw [lenR_app h4', if_neg (by rw [c]; decide)]
      simp only at hw2 ⊢
      exact ⟨by rw [hw2]; rfl, hw2⟩
theorem run_fuel : ∀ (f g : Nat) (h : Hf), isOrder h.o → h.nr.length < f → h.nr.length < g → Hf.run f h = Hf.run g h
  | 0, _, h, _, hf, _ => absurd hf (Nat.not_lt_zero _)
  | f + 1, 0, h, _, _, hg => absurd hg (Nat.not_lt_zero _)
  | f + 1, g + 1, h, ho, hf, hg => by
    rw [Hf.run, Hf.run]
    split
    · rfl
    · split
      · rename_i hw
        obtain ⟨n, hn, h4, hl, h6, hdd⟩ := wh_n ho hw
        rw [hn, Int.toNat_natCast]
        have hdl : (h.nr.drop n).length = h.nr.length - n := List.length_drop
        exact run_fuel f g _ ho (by show (h.nr.drop n).length < f; omega) (by show (h.nr.drop n).length < g; omega)
      · rfl
theorem run_app : ∀ (f : Nat) (h : Hf) (x : Bys) (g : Nat), isOrder h.o → h.dd = false → h.nr.length < f → (h.nr ++ x).length < g →
    (if (Hf.run f h).dd = true then Hf.run g { h with nr := h.nr ++ x } = { (Hf.run f h) with nr := (Hf.run f h).nr ++ x } else Hf.run g { h with nr := h.nr ++ x } = Hf.run g { (Hf.run f h) with nr := (Hf.run f h).nr ++ x })
  | 0, h, _, _, _, _, hf, _ => absurd hf (Nat.not_lt_zero _)
  | f + 1, h, x, 0, _, _, _, hg => absurd hg (Nat.not_lt_zero _)
  | f + 1, h, x, g + 1, ho, hd, hf, hg => by
    have hrun : Hf.run (f + 1) h = if h.wh.2.1 = true then Hf.run f (Hf.stp { h with dd := h.wh.2.2, bg := true, nr := h.nr.drop h.wh.1.toNat } (h.nr.take h.wh.1.toNat)) else { h with dd := h.wh.2.2 } := by
      rw [Hf.run, if_neg (by rw [hd]; decide)]
    cases hw : h.wh.2.1 with
    | false =>
      rw [hw, if_neg (by decide)] at hrun
      rw [hrun]
      cases hw2 : h.wh.2.2 with
      | false =>
        have : ({ h with dd := false } : Hf) = h := by rw [← hd]
        rw [this, if_neg (by rw [hd]; decide)]
      | true =>
        rw [if_pos rfl]
        obtain ⟨a1, a2⟩ := wh_app_dead ho hd hw hw2 x
        rw [Hf.run, if_neg (by show ¬ h.dd = true; rw [hd]; decide), if_neg (by rw [a1]; decide), a2]
    | true =>
      rw [hw, if_pos rfl] at hrun
      obtain ⟨n, hn, h4, hl, h6, hdd⟩ := wh_n ho hw
      have hap := wh_app_yes ho hw x
      have e1 : Hf.run (g + 1) { h with nr := h.nr ++ x } = Hf.run g (Hf.stp { h with dd := false, bg := true, nr := (h.nr ++ x).drop n } ((h.nr ++ x).take n)) := by
        rw [Hf.run, if_neg (by show ¬ h.dd = true; rw [hd]; decide), hap, if_pos hw, hn, Int.toNat_natCast, hdd]
      rw [hn, Int.toNat_natCast, hdd] at hrun
      rw [hrun, e1, List.drop_append_of_le_length hl, List.take_append_of_le_length hl]
      have hdl : (h.nr.drop n).length = h.nr.length - n := List.length_drop
      rw [List.length_append] at hg
      have ih := run_app f (Hf.stp { h with dd := false, bg := true, nr := h.nr.drop n } (h.nr.take n)) x g ho rfl (by show (h.nr.drop n).length < f; omega) (by show (h.nr.drop n ++ x).length < g; rw [List.length_append]; omega)
      split
      · rename_i hR
        rw [if_pos hR] at ih
        exact ih
      · rename_i hR
        rw [if_neg hR] at ih
        refine Eq.trans ih ?_
        obtain ⟨M, hI⟩ := run_is f (Hf.stp { h with dd := false, bg := true, nr := h.nr.drop n } (h.nr.take n)) ho rfl (by show (h.nr.drop n).length < f; omega)
        have hle := hI.n
        have ho2 := hI.o
        refine run_fuel _ _ _ (by show isOrder (Hf.run _ _).o; rw [ho2]; exact ho) ?_ ?_
        · show ((Hf.run f _).nr ++ x).length < g
          rw [List.length_append]
          have : (Hf.run f (Hf.stp { h with dd := false, bg := true, nr := h.nr.drop n } (h.nr.take n))).nr.length ≤ (h.nr.drop n).length := by
            have h1 : _ + _ = (h.nr.drop n).length := hle
            omega
          omega
        · show ((Hf.run f _).nr ++ x).length < g + 1
          rw [List.length_append]
          have : (Hf.run f (Hf.stp { h with dd := false, bg := true, nr := h.nr.drop n } (h.nr.take n))).nr.length ≤ (h.nr.drop n).length := by
            have h1 : _ + _ = (h.nr.drop n).length := hle
            omega
          omega
/-- Near bytes come: a dead half takes nothing. -/
def Hf.feed (h : Hf) (b : Bys) : Hf := if h.dd = true then h else h.near b
theorem feed_app (h : Hf) (ho : isOrder h.o) (a b : Bys) : h.feed (a ++ b) = (h.feed a).feed b := by
  unfold Hf.feed
  cases hd : h.dd with
  | true => rw [if_pos rfl, if_pos rfl, if_pos hd]
  | false =>
    simp only [Bool.false_eq_true, if_false]
    have hA := run_app (h.nr.length + a.length + 1) { h with nr := h.nr ++ a } b (h.nr.length + (a ++ b).length + 1) ho hd (by simp) (by simp [Nat.add_assoc])
    obtain ⟨M, hI⟩ := run_is (h.nr.length + a.length + 1) { h with nr := h.nr ++ a } ho hd (by simp)
    unfold Hf.near
    rw [← List.append_assoc]
    simp only at hA
    generalize hR : Hf.run (h.nr.length + a.length + 1) { h with nr := h.nr ++ a } = R at *
    have hn := hI.n
    simp only [List.length_append] at hn hA ⊢
    cases hRd : R.dd with
    | true =>
      rw [if_pos hRd] at hA
      have c1 : R.cut = { R with nr := [] } := by unfold Hf.cut; rw [if_pos hRd]
      have c2 : ({ R with nr := R.nr ++ b } : Hf).cut = { R with nr := [] } := by unfold Hf.cut; rw [if_pos (show ({ R with nr := R.nr ++ b } : Hf).dd = true from hRd)]
      rw [hA, c2, c1, if_pos (show ({ R with nr := [] } : Hf).dd = true from hRd)]
    | false =>
      rw [if_neg (by rw [hRd]; decide)] at hA
      have hc : R.cut = R := by unfold Hf.cut; rw [if_neg (by rw [hRd]; decide)]
      rw [hA, hc, if_neg (by rw [hRd]; decide), run_fuel (h.nr.length + (a.length + b.length) + 1) (R.nr.length + b.length + 1) _ (by show isOrder R.o; rw [hI.o]; exact ho) (by show (R.nr ++ b).length < _; rw [List.length_append]; omega) (by show (R.nr ++ b).length < _; rw [List.length_append]; omega)]
end Go.Proofs.Sh

/- Calm, plain: what comes over, there and back; sizes. -/
set_option maxRecDepth 100000
set_option linter.unusedSimpArgs false
set_option linter.unusedVariables false
namespace Go.Proofs.Sh
open Go.Pv
open Lk (En Pc)
/-- An end's sizes, in so many acts. -/
structure EnC (i : Nat) (e : En) : Prop where
  bd : e.Bd i
  q : e.rest.length ≤ 65536
  rd : e.read = []
theorem EnC.ok {i : Nat} {e : En} (h : EnC i e) (hi : i ≤ 10000) : e.Ok :=
  ⟨h.bd.m0, by have := h.bd.m1; omega, h.bd.w, fun p hp => by have := h.bd.wb p hp; omega, h.bd.n0, by have := h.bd.n1; omega, by have := h.q; omega, h.bd.e0, by have := h.bd.e1; omega, h.bd.a16, fun j => by have := h.bd.al j; omega, by rw [h.rd]; simp⟩
theorem EnC.up {i k : Nat} {e : En} (h : EnC i e) (hk : i ≤ k) : EnC k e := ⟨h.bd.up hk, h.q, h.rd⟩
theorem got_rest {e : En} (p : Bys) (hm : 0 ≤ e.most) (hw : e.way.length ≤ 16) : (e.gotE p).rest.length ≤ e.rest.length := by
  have hakl : (e.ackn (Lk.tol p)).way.length ≤ 16 := Nat.le_trans (List.dropWhile_sublist _).length_le hw
  unfold Lk.En.gotE
  split
  · obtain ⟨q1, q2, q3, q4⟩ := Lk.took_same (e.ackn (Lk.tol p)) (Lk.nu p) (Lk.bd p)
    have i1 := (Lk.numL_numd 17 ((e.ackn (Lk.tol p)).took (Lk.nu p) (Lk.bd p)) (by rw [q2]; exact hm) (by rw [q1]; exact hakl)).rest
    rw [q3] at i1
    exact i1
  · exact (Lk.numL_numd 17 (e.ackn (Lk.tol p)) hm hakl).rest
theorem got_read {i : Nat} {e : En} (h : e.Bd i) (hr0 : e.read = []) {p : Bys} (hp : p.length ≤ 3000) (hg : Lk.gotN e p = 0) : (e.gotE p).read.length ≤ 51000 := by
  have hbl : (Lk.bd p).length ≤ 3000 := by rw [Lk.bd, List.length_drop]; omega
  have hakl : (e.ackn (Lk.tol p)).way.length ≤ 16 := Nat.le_trans (List.dropWhile_sublist _).length_le h.w
  have e0 : (e.ackn (Lk.tol p)).read = [] := hr0
  unfold Lk.En.gotE
  split
  · rename_i hk
    have hr : Lk.nu p ≤ e.exp + 15 := by
      unfold Lk.gotN at hg
      repeat' split at hg
      all_goals first | (exfalso; omega) | skip
      rename_i hx
      have hk' : (Lk.kd p == 0) = true := hk
      simp [hk'] at hx
      omega
    have s := (Lk.took_shd (e.ackn (Lk.tol p)) (Lk.nu p) (Lk.bd p) hr hbl h.a16 h.al).read
    obtain ⟨q1, q2, q3, q4⟩ := Lk.took_same (e.ackn (Lk.tol p)) (Lk.nu p) (Lk.bd p)
    have i1 := (Lk.numL_numd 17 ((e.ackn (Lk.tol p)).took (Lk.nu p) (Lk.bd p)) (by rw [q2]; exact h.m0) (by rw [q1]; exact hakl)).read
    rw [e0] at s
    rw [Lk.En.number, i1]
    simpa using s
  · have i1 := (Lk.numL_numd 17 (e.ackn (Lk.tol p)) h.m0 hakl).read
    rw [Lk.En.number, i1, e0]
    simp
theorem EnC.due {i : Nat} {e : En} (h : EnC i e) : EnC i e.due := ⟨h.bd.due, h.q, h.rd⟩
theorem EnC.tick {i : Nat} {e : En} (h : EnC i e) : EnC i e.tick := ⟨h.bd.tick, h.q, h.rd⟩
theorem EnC.got {i : Nat} {e : En} (h : EnC i e) {p : Bys} (hp : p.length ≤ 3000) (hg : Lk.gotN e p = 0) : EnC (i + 1) { (e.gotE p) with read := [] } :=
  ⟨(h.bd.got hp hg).clear, Nat.le_trans (got_rest p h.bd.m0 h.bd.w) h.q, rfl⟩
theorem EnC.dueP {i : Nat} {e : En} (h : EnC i e) : e.dueP.length ≤ 17 ∧ ∀ x ∈ e.dueP, x.length ≤ 3000 := by
  unfold Lk.En.dueP
  split
  · refine ⟨by simp, fun x hx => ?_⟩
    rw [List.mem_singleton] at hx
    subst hx
    have := pkt_len 1 0 e.exp []
    simp only [List.length_nil] at this
    omega
  · refine ⟨?_, fun x hx => ?_⟩
    · have := Lk.dueStr_len e e.way
      have := h.bd.w
      omega
    · unfold Lk.dueStr at hx
      obtain ⟨p, hp, rfl⟩ := List.mem_map.1 hx
      have h1 := pkt_len 0 p.n e.exp p.b
      have h2 := h.bd.wb p (List.mem_filter.1 hp).1
      omega
/-- A half's sizes, in so many acts. -/
structure Hf.C (i : Nat) (h : Hf) : Prop where
  e : EnC i h.e
  l : h.l.Ok
  q : h.out.length + 65536 * h.fr.length ≤ 3342336000 * i
theorem Hf.C.up {i k : Nat} {h : Hf} (H : h.C i) (hk : i ≤ k) : h.C k := ⟨H.e.up hk, H.l, by have := H.q; omega⟩
theorem shr_le : ∀ (f : Nat) (h : Hf), h.l.Ok → (Hf.shr f h).l.Ok ∧ (Hf.shr f h).out.length + 65536 * (Hf.shr f h).fr.length ≤ h.out.length + 65536 * h.fr.length
  | 0, h, hk => ⟨hk, Nat.le_refl _⟩
  | f + 1, h, hk => by
    unfold Hf.shr
    split
    · rename_i h4
      have h4' : 4 ≤ h.fr.length := by simp at h4; omega
      split
      · exact ⟨hk, Nat.le_refl _⟩
      · split
        · exact ⟨hk, Nat.le_refl _⟩
        · split
          · refine ⟨hk, ?_⟩
            simp only [List.length_drop]
            omega
          · have g := Cc.Ok.get hk ((h.fr.drop 4).take (fourN h.fr).toNat)
            have g2 := g.2
            have ih := shr_le f { h with fr := h.fr.drop (4 + (fourN h.fr).toNat), l := (h.l.get ((h.fr.drop 4).take (fourN h.fr).toNat)).1, out := h.out ++ (h.l.get ((h.fr.drop 4).take (fourN h.fr).toNat)).2.1 } g.1
            refine ⟨ih.1, Nat.le_trans ih.2 ?_⟩
            simp only [List.length_append, List.length_drop]
            omega
    · exact ⟨hk, Nat.le_refl _⟩
/-- A packet is taken, or left. -/
def Hf.tk (h : Hf) (p : Bys) : Hf := if (h.got p).2 = 0 then (h.got p).1 else h
def Hf.tks (h : Hf) (l : List Bys) : Hf := l.foldl Hf.tk h
def Hf.du (h : Hf) : Hf := { h with e := h.e.due }
def Hf.ti (h : Hf) : Hf := { h with e := h.e.tick }
theorem Hf.C.got {i : Nat} {h : Hf} (H : h.C i) {p : Bys} (hp : p.length ≤ 3000) (hg : (h.got p).2 = 0) : (h.got p).1.C (i + 1) := by
  unfold Hf.got at hg ⊢
  by_cases hd : h.dd = true
  · rw [if_pos hd] at hg; exact absurd hg (by show ¬ (20 : Int) = 0; decide)
  · rw [if_neg hd] at hg ⊢
    by_cases hn : Lk.gotN h.e p = 0
    · rw [if_pos hn]
      simp only
      have h1 := H.e.got hp hn
      have h2 := got_read H.e.bd H.e.rd hp hn
      have h3 := H.q
      obtain ⟨k1, k2, k3, k4, k5⟩ := shr_keep (h.fr.length + (h.e.gotE p).read.length + 1) { h with e := { (h.e.gotE p) with read := [] }, fr := h.fr ++ (h.e.gotE p).read }
      obtain ⟨s1, s2⟩ := shr_le (h.fr.length + (h.e.gotE p).read.length + 1) { h with e := { (h.e.gotE p) with read := [] }, fr := h.fr ++ (h.e.gotE p).read } H.l
      generalize Hf.shr _ _ = r at *
      simp only [List.length_append] at k4 s2
      split
      · refine ⟨by show EnC _ r.e; rw [k4]; exact h1, s1, ?_⟩
        simp only [List.length_nil]
        omega
      · refine ⟨by rw [k4]; exact h1, s1, ?_⟩
        omega
    · rw [if_neg hn] at hg; exact absurd hg hn
theorem Hf.C.tk {i : Nat} {h : Hf} (H : h.C i) {p : Bys} (hp : p.length ≤ 3000) : (h.tk p).C (i + 1) := by
  unfold Hf.tk
  split
  · rename_i hg; exact H.got hp hg
  · exact H.up (Nat.le_succ i)
theorem Hf.C.tks : ∀ (l : List Bys) {i : Nat} {h : Hf}, h.C i → (∀ p ∈ l, p.length ≤ 3000) → (h.tks l).C (i + l.length)
  | [], i, h, H, _ => H
  | p :: l, i, h, H, hl => by
    have := Hf.C.tks l (H.tk (hl p List.mem_cons_self)) fun q hq => hl q (List.mem_cons_of_mem _ hq)
    rw [List.length_cons, show i + (l.length + 1) = i + 1 + l.length by omega]
    exact this
theorem Hf.C.du {i : Nat} {h : Hf} (H : h.C i) : h.du.C i := ⟨H.e.due, H.l, H.q⟩
theorem Hf.C.ti {i : Nat} {h : Hf} (H : h.C i) : h.ti.C i := ⟨H.e.tick, H.l, H.q⟩
/-- What is due comes over, there and back. -/
def xch (p : Hf × Hf) : Hf × Hf := (p.1.du.tks (p.2.tks p.1.e.dueP).e.dueP, (p.2.tks p.1.e.dueP).du)
def xchs : Nat → Hf × Hf → Hf × Hf
  | 0, p => p
  | n + 1, p => xchs n (xch p)
def calmR : Nat → Hf × Hf → Hf × Hf
  | 0, p => p
  | n + 1, p => calmR n (xchs 2 (p.1.ti, p.2.ti))
theorem Hf.C.fs (k : Nat) {i : Nat} {h : Hf} (H : h.C i) (hi : i ≤ 10000) {p : Bys} (hp : p.length ≤ 3000) : Fsp Tryz.prog 15 [] 0 [.agg (h.cf k), .str p] [] 0 (.tup [.agg ((h.got p).1.cf k), .int .i64 (h.got p).2]) := by
  by_cases hd : h.dd = true
  · have := fgotdead_fs k h p hd
    unfold Hf.got
    rw [if_pos hd]
    exact this
  · have hd' : h.dd = false := by simpa using hd
    by_cases hn : Lk.gotN h.e p = 0
    · have h2 := got_read H.e.bd H.e.rd hp hn
      have h3 := H.q
      have := fgot_fs k h p hd' (H.e.ok hi) (by omega) hn (by omega) H.l (by omega)
      have h0 : (h.got p).2 = 0 := by unfold Hf.got; rw [if_neg hd, if_pos hn]
      rw [h0]
      exact this
    · have := fgoterr_fs k h p hd' (H.e.ok hi) (by omega) hn
      unfold Hf.got
      rw [if_neg hd, if_neg hn]
      exact this
end Go.Proofs.Sh

/- Calm, walked. -/
set_option maxRecDepth 100000
set_option linter.unusedSimpArgs false
set_option linter.unusedVariables false
namespace Go.Proofs.Sh
open Go.Pv
open Lk (En Pc)
theorem cf_len (k : Nat) (h : Hf) : (h.cf k).length = 34 := rfl
theorem cf_take (k : Nat) (h : Hf) : (h.cf k).take 34 = h.cf k := rfl
theorem cf_drop (k : Nat) (h : Hf) : (h.cf k).drop 34 = [] := rfl
theorem cf_back (k : Nat) (h : Hf) (a : List Nat) (b c : Nat) : (h.cf k).map (PV.back1 a b c) = h.cf k := by simp [Hf.cf, PV.back1, PV.weak]
theorem cf_wk (k : Nat) (h : Hf) (β τ : List (Nat × Nat)) (em : List Nat) : wkL (wkC β τ em) (h.cf k) (h.cf k) := by simp [Hf.cf, wkL, wkC, PV.weak]
theorem hzG_wk (β τ : List (Nat × Nat)) (em : List Nat) : wkL (wkC β τ em) hzG hzG := by simp [hzG, wkL, wkC, PV.weak]
theorem hzG_len : hzG.length = 34 := rfl
theorem hzG_drop : hzG.drop 34 = [] := rfl
structure CmA (R : Hf × Hf) (n i0 : Nat) where
  j : Nat
  a : Hf
  b : Hf
  hj : j ≤ n
  ha : a.C (i0 + 34 * j)
  hb : b.C (i0 + 34 * j)
  e : calmR (n - j) (a, b) = R
def CmA.O (ka kb : Nat) (a b : Hf) : List (Nat × Option (List PV)) := [(0, some (a.cf ka)), (1, some (b.cf kb)), (2, some hzG), (3, some hzG)]
def CmA.st (ka kb : Nat) {R : Hf × Hf} {n i0 : Nat} (s : CmA R n i0) : PS := { n := 72, env := [(18, .int .i64 s.j), (17, .int .i64 n), (7, .box 3 0), (6, .box 2 0), (4, .box 1 0), (3, .box 0 0)], objs := CmA.O ka kb s.a s.b, live := [], nxt := 5 }
structure CnA (R : Hf × Hf) (i0 : Nat) where
  j : Nat
  a : Hf
  b : Hf
  hj : j ≤ 2
  ha : a.C (i0 + 17 * j)
  hb : b.C (i0 + 17 * j)
  e : xchs (2 - j) (a, b) = R
def CnA.st (ka kb : Nat) (n j0 : Nat) {R : Hf × Hf} {i0 : Nat} (s : CnA R i0) : PS := { n := 72, env := [(24, .int .i64 s.j), (18, .int .i64 j0), (17, .int .i64 n), (7, .box 3 0), (6, .box 2 0), (4, .box 1 0), (3, .box 0 0)], objs := CmA.O ka kb s.a s.b, live := [], nxt := 5 }
structure CpA (B : Hf) (l : List Bys) (i0 : Nat) where
  i : Nat
  b : Hf
  hi : i ≤ l.length
  hb : b.C (i0 + i)
  e : b.tks (l.drop i) = B
def CpA.st1 (ka kb : Nat) (n j0 j1 : Nat) (a : Hf) {B : Hf} {l : List Bys} {i0 : Nat} (s : CpA B l i0) : PS := { n := 72, env := [(33, .int .i64 s.i), (32, .int .i64 l.length), (31, .sl 1 (sts l)), (24, .int .i64 j1), (18, .int .i64 j0), (17, .int .i64 n), (7, .box 3 0), (6, .box 2 0), (4, .box 1 0), (3, .box 0 0)], objs := CmA.O ka kb a s.b, live := [], nxt := 5 }
def CpA.st2 (ka kb : Nat) (n j0 j1 : Nat) (b : Hf) {B : Hf} {l : List Bys} {i0 : Nat} (s : CpA B l i0) : PS := { n := 72, env := [(54, .int .i64 s.i), (53, .int .i64 l.length), (52, .sl 1 (sts l)), (24, .int .i64 j1), (18, .int .i64 j0), (17, .int .i64 n), (7, .box 3 0), (6, .box 2 0), (4, .box 1 0), (3, .box 0 0)], objs := CmA.O ka kb s.b b, live := [], nxt := 5 }
theorem tks_at {l : List Bys} {i : Nat} (h : i < l.length) (b : Hf) : b.tks (l.drop i) = (b.tk (l.getD i [])).tks (l.drop (i + 1)) := by
  rw [drop_at h]; rfl
theorem mem_getD {l : List Bys} {i : Nat} (h : i < l.length) : l.getD i [] ∈ l := by rw [List.getD_eq_getElem?_getD, List.getElem?_eq_getElem h]; exact List.getElem_mem h
set_option maxHeartbeats 4000000 in
theorem calm_fs (ka kb n : Nat) (a b : Hf) (i0 : Nat) (ha : a.C i0) (hb : b.C i0) (hi : i0 + 34 * n ≤ 10000) : Fsp Tryz.prog 12 [] 0 [.agg (a.cf ka), .agg (b.cf kb), .int .i64 (n : Int)] [] 0 (.tup [.agg ((calmR n (a, b)).1.cf ka), .agg ((calmR n (a, b)).2.cf kb)]) := by
  generalize hR : calmR n (a, b) = R
  (refine Fsp.of (nx := 0) mixed Tryz.func12 rfl (by decide) (by first | exact Nat.le_refl _ | simp) (by simp [Tryz.f12]) ⟨by decide, by decide⟩ ?_; simp -implicitDefEqProofs only [push_cast, Tryz.f12, cf_len, cf_take, cf_back, seval])
  refine loopC_of (α := CmA R n i0) (CmA.st ka kb) (fun s => n - s.j) ⟨0, a, b, by omega, ha, hb, hR⟩ ?_ ?_
  · (simp only [CmA.st, CmA.O]; exact Wk.by _ _ _ [(0, 0), (1, 4), (2, 8), (3, 12)] [] [] (by simp) (by simp [wkV, PV.el, PV.weak, PS.get, PS.obj, PS.lv, lkp_hit, lkp_miss, lkp_nil, lko, wkL, wkC, res1, CmA.O, cf_wk, hzG_wk, hzG]) (by simp [PS.get, PS.obj, PS.lv, lkp_hit, lkp_miss, lkp_nil, lko, wkL, wkC, PV.weak, wkL, wkC, res1, CmA.O, cf_wk, hzG_wk, hzG]) (by simp [PS.get, PS.obj, PS.lv, lkp_hit, lkp_miss, lkp_nil, lko]) (by rfl) (by rfl) (by simp [lko]) (by simp) (by simp) (by simp) (fun i hi => absurd hi (Nat.not_lt_zero i)))
  clear hR ha hb
  rintro ⟨j, a, b, hj, ha, hb, he⟩
  simp only [CmA.st, CmA.O]
  simp -implicitDefEqProofs only [push_cast, seval]
  refine condC_split (fun g1 => ?_) (fun g1 => ?_)
  · have hjl : j < n := by simp at g1; omega
    have hwj : IntKind.i64.wrap ((j : Int) + 1) = ((j + 1 : Nat) : Int) := by (rw [wrap_i64_id (by omega) (by omega)]; rfl)
    have hTa : Fsp Tryz.prog 37 [] 0 [.agg (a.cf ka)] [] 0 (.agg (a.ti.cf ka)) := ftick_fs ka a (by have := ha.e.bd.w; omega)
    have hTb : Fsp Tryz.prog 37 [] 0 [.agg (b.cf kb)] [] 0 (.agg (b.ti.cf kb)) := ftick_fs kb b (by have := hb.e.bd.w; omega)
    have ha1 := ha.ti
    have hb1 := hb.ti
    rw [show n - j = (n - (j + 1)) + 1 by omega, calmR] at he
    generalize a.ti = a1 at *
    generalize b.ti = b1 at *
    generalize hR2 : xchs 2 (a1, b1) = R2 at he
    simp -implicitDefEqProofs only [push_cast, cf_len, cf_take, cf_back, cf_drop, List.append_nil, seval]
    (repeat (first | refine ⟨(by omega : _ ≤ _), ?_⟩ | refine ⟨(by omega : _ < _), ?_⟩ | refine ⟨by (unfold drawOk; kernel_rfl), ?_⟩ | refine ⟨(by simp; done), ?_⟩ | refine ⟨(by simp; omega), ?_⟩))
    refine callE_pure hTa (by rfl) (by rfl) (by rfl) (by decide) (by rfl) (fun _ => by rfl) (by first | rfl | simp [gdOk, newToks]) ?_
    simp -implicitDefEqProofs only [push_cast, cf_len, cf_take, cf_back, cf_drop, List.append_nil, seval]
    refine callE_pure hTb (by rfl) (by rfl) (by rfl) (by decide) (by rfl) (fun _ => by rfl) (by first | rfl | simp [gdOk, newToks]) ?_
    simp -implicitDefEqProofs only [push_cast, cf_len, cf_take, cf_back, cf_drop, List.append_nil, seval]
    (repeat (first | refine ⟨(by omega : _ ≤ _), ?_⟩ | refine ⟨(by omega : _ < _), ?_⟩ | refine ⟨by (unfold drawOk; kernel_rfl), ?_⟩ | refine ⟨(by simp; done), ?_⟩ | refine ⟨(by simp; omega), ?_⟩))
    refine loopC_of (α := CnA R2 (i0 + 34 * j)) (CnA.st ka kb n j) (fun s => 2 - s.j) ⟨0, a1, b1, by omega, ha1, hb1, hR2⟩ ?_ ?_
    · (simp only [CnA.st, CmA.O]; exact Wk.by _ _ _ [(0, 0), (1, 1), (2, 2), (3, 3)] [] [] (by simp) (by simp [wkV, PV.el, PV.weak, PS.get, PS.obj, PS.lv, lkp_hit, lkp_miss, lkp_nil, lko, wkL, wkC, res1, CmA.O, cf_wk, hzG_wk]) (by simp [PS.get, PS.obj, PS.lv, lkp_hit, lkp_miss, lkp_nil, lko, wkL, wkC, PV.weak, wkL, wkC, res1, CmA.O, cf_wk, hzG_wk]) (by simp [PS.get, PS.obj, PS.lv, lkp_hit, lkp_miss, lkp_nil, lko]) (by rfl) (by rfl) (by simp [lko]) (by simp) (by simp) (by simp) (fun i hi => absurd hi (Nat.not_lt_zero i)))
    clear hR2 hTa hTb
    rintro ⟨j1, a, b, hj1, ha, hb, he2⟩
    simp only [CnA.st, CmA.O]
    simp -implicitDefEqProofs only [push_cast, seval]
    refine condC_split (fun g2 => ?_) (fun g2 => ?_)
    · have hj2 : j1 < 2 := by simp at g2; omega
      have hwj1 : IntKind.i64.wrap ((j1 : Int) + 1) = ((j1 + 1 : Nat) : Int) := by (rw [wrap_i64_id (by omega) (by omega)]; rfl)
      have hDa : Fsp Tryz.prog 25 [] 0 [.agg (a.cf ka)] [] 0 (.tup [.agg (a.du.cf ka), .sl 1 (sts a.e.dueP)]) := fdue_fs ka a (by have := ha.e.bd.w; omega) (fun q hq => by have := ha.e.bd.wb q hq; omega)
      have hPa := ha.e.dueP
      have ha1 := ha.du
      rw [show 2 - j1 = (2 - (j1 + 1)) + 1 by omega, xchs] at he2
      unfold xch at he2
      simp only at he2
      generalize hB : b.tks a.e.dueP = B at he2
      generalize a.e.dueP = l at *
      generalize a.du = a1 at *
      simp -implicitDefEqProofs only [push_cast, cf_len, cf_take, cf_back, cf_drop, List.append_nil, seval]
      refine callE_pure hDa (by rfl) (by rfl) (by rfl) (by decide) (by rfl) (fun _ => by rfl) (by first | rfl | simp [gdOk, newToks]) ?_
      simp -implicitDefEqProofs only [push_cast, cf_len, cf_take, cf_back, cf_drop, List.append_nil, sts_length, seval]
      (repeat (first | refine ⟨(by omega : _ ≤ _), ?_⟩ | refine ⟨(by omega : _ < _), ?_⟩ | refine ⟨by (unfold drawOk; kernel_rfl), ?_⟩ | refine ⟨(by simp; done), ?_⟩ | refine ⟨(by simp; omega), ?_⟩))
      refine loopC_of (α := CpA B l (i0 + 34 * j + 17 * j1)) (CpA.st1 ka kb n j j1 a1) (fun s => l.length - s.i) ⟨0, b, by omega, hb, by rw [List.drop_zero]; exact hB⟩ ?_ ?_
      · (simp only [CpA.st1, CmA.O]; exact Wk.by _ _ _ [(0, 0), (1, 1), (2, 2), (3, 3)] [] [] (by simp) (by simp [wkV, PV.el, PV.weak, PS.get, PS.obj, PS.lv, lkp_hit, lkp_miss, lkp_nil, lko, wkL, wkC, res1, CmA.O, cf_wk, hzG_wk]) (by simp [PS.get, PS.obj, PS.lv, lkp_hit, lkp_miss, lkp_nil, lko, wkL, wkC, PV.weak, wkL, wkC, res1, CmA.O, cf_wk, hzG_wk]) (by simp [PS.get, PS.obj, PS.lv, lkp_hit, lkp_miss, lkp_nil, lko]) (by rfl) (by rfl) (by simp [lko]) (by simp) (by simp) (by simp) (fun i hi => absurd hi (Nat.not_lt_zero i)))
      clear hB hDa
      rintro ⟨i, b, hil, hb, he3⟩
      simp only [CpA.st1, CmA.O]
      simp -implicitDefEqProofs only [push_cast, sts_length, seval]
      refine condC_split (fun g3 => ?_) (fun g3 => ?_)
      · have hlt : i < l.length := by simp at g3; omega
        have hgt := sts_at hlt
        have hwi : IntKind.i64.wrap ((i : Int) + 1) = ((i + 1 : Nat) : Int) := by (rw [wrap_i64_id (by omega) (by omega)]; rfl)
        have hpl := hPa.2 _ (mem_getD hlt)
        rw [tks_at hlt] at he3
        have hG := hb.fs kb (by omega) hpl
        have hb2 := hb.tk hpl
        unfold Hf.tk at he3 hb2
        generalize l.getD i [] = p at *
        generalize b.got p = G at *
        obtain ⟨b3, g⟩ := G
        simp only at he3 hb2 hG
        simp -implicitDefEqProofs only [push_cast, hgt, cf_len, cf_take, cf_back, cf_drop, List.append_nil, sts_length, seval]
        (repeat (first | refine ⟨(by omega : _ ≤ _), ?_⟩ | refine ⟨(by omega : _ < _), ?_⟩ | refine ⟨by (unfold drawOk; kernel_rfl), ?_⟩ | refine ⟨(by simp; done), ?_⟩ | refine ⟨(by simp; omega), ?_⟩))
        refine callE_pure hG (by rfl) (by rfl) (by rfl) (by decide) (by rfl) (fun _ => by rfl) (by first | rfl | simp [gdOk, newToks]) ?_
        simp -implicitDefEqProofs only [push_cast, cf_len, cf_take, cf_back, cf_drop, List.append_nil, seval]
        cases c : (g == 0) with
        | true =>
          have hg0 : g = 0 := by simpa using c
          rw [if_pos hg0] at he3 hb2
          simp -implicitDefEqProofs only [push_cast, c, hwi, cf_len, cf_take, cf_back, cf_drop, List.append_nil, seval]
          refine ⟨⟨i + 1, b3, hlt, hb2, he3⟩, by simp only; omega, ?_⟩
          (simp only [CpA.st1, CmA.O]; exact Wk.by _ _ _ [(0, 0), (1, 1), (2, 2), (3, 3)] [] [] (by simp) (by simp [wkV, PV.el, PV.weak, PS.get, PS.obj, PS.lv, lkp_hit, lkp_miss, lkp_nil, lko, wkL, wkC, res1, CmA.O, cf_wk, hzG_wk]) (by simp [PS.get, PS.obj, PS.lv, lkp_hit, lkp_miss, lkp_nil, lko, wkL, wkC, PV.weak, wkL, wkC, res1, CmA.O, cf_wk, hzG_wk]) (by simp [PS.get, PS.obj, PS.lv, lkp_hit, lkp_miss, lkp_nil, lko]) (by rfl) (by rfl) (by simp [lko]) (by simp) (by simp) (by simp) (fun i hi => absurd hi (Nat.not_lt_zero i)))
        | false =>
          have hg0 : ¬ g = 0 := by simpa using c
          rw [if_neg hg0] at he3 hb2
          simp -implicitDefEqProofs only [push_cast, c, hwi, cf_len, cf_take, cf_back, cf_drop, List.append_nil, seval]
          refine ⟨⟨i + 1, b, hlt, hb2, he3⟩, by simp only; omega, ?_⟩
          (simp only [CpA.st1, CmA.O]; exact Wk.by _ _ _ [(0, 0), (1, 1), (2, 2), (3, 3)] [] [] (by simp) (by simp [wkV, PV.el, PV.weak, PS.get, PS.obj, PS.lv, lkp_hit, lkp_miss, lkp_nil, lko, wkL, wkC, res1, CmA.O, cf_wk, hzG_wk]) (by simp [PS.get, PS.obj, PS.lv, lkp_hit, lkp_miss, lkp_nil, lko, wkL, wkC, PV.weak, wkL, wkC, res1, CmA.O, cf_wk, hzG_wk]) (by simp [PS.get, PS.obj, PS.lv, lkp_hit, lkp_miss, lkp_nil, lko]) (by rfl) (by rfl) (by simp [lko]) (by simp) (by simp) (by simp) (fun i hi => absurd hi (Nat.not_lt_zero i)))
      · have hie : i = l.length := by simp at g3; omega
        subst hie
        rw [List.drop_length] at he3
        have he4 : b = B := he3
        subst he4
        have hb4 := hb.up (show i0 + 34 * j + 17 * j1 + l.length ≤ i0 + 34 * j + 17 * (j1 + 1) by have := hPa.1; omega)
        clear hPa
        have hDb : Fsp Tryz.prog 25 [] 0 [.agg (b.cf kb)] [] 0 (.tup [.agg (b.du.cf kb), .sl 1 (sts b.e.dueP)]) := fdue_fs kb b (by have := hb4.e.bd.w; omega) (fun q hq => by have := hb4.e.bd.wb q hq; omega)
        have hPb := hb4.e.dueP
        have hb1 := hb4.du
        generalize hA : a1.tks b.e.dueP = A at he2
        generalize b.e.dueP = l2 at *
        generalize b.du = b1 at *
        simp -implicitDefEqProofs only [push_cast, cf_len, cf_take, cf_back, cf_drop, List.append_nil, seval]
        refine callE_pure hDb (by rfl) (by rfl) (by rfl) (by decide) (by rfl) (fun _ => by rfl) (by first | rfl | simp [gdOk, newToks]) ?_
        simp -implicitDefEqProofs only [push_cast, cf_len, cf_take, cf_back, cf_drop, List.append_nil, sts_length, seval]
        (repeat (first | refine ⟨(by omega : _ ≤ _), ?_⟩ | refine ⟨(by omega : _ < _), ?_⟩ | refine ⟨by (unfold drawOk; kernel_rfl), ?_⟩ | refine ⟨(by simp; done), ?_⟩ | refine ⟨(by simp; omega), ?_⟩))
        refine loopC_of (α := CpA A l2 (i0 + 34 * j + 17 * j1)) (CpA.st2 ka kb n j j1 b1) (fun s => l2.length - s.i) ⟨0, a1, by omega, ha1, by rw [List.drop_zero]; exact hA⟩ ?_ ?_
        · (simp only [CpA.st2, CmA.O]; exact Wk.by _ _ _ [(0, 0), (1, 1), (2, 2), (3, 3)] [] [] (by simp) (by simp [wkV, PV.el, PV.weak, PS.get, PS.obj, PS.lv, lkp_hit, lkp_miss, lkp_nil, lko, wkL, wkC, res1, CmA.O, cf_wk, hzG_wk]) (by simp [PS.get, PS.obj, PS.lv, lkp_hit, lkp_miss, lkp_nil, lko, wkL, wkC, PV.weak, wkL, wkC, res1, CmA.O, cf_wk, hzG_wk]) (by simp [PS.get, PS.obj, PS.lv, lkp_hit, lkp_miss, lkp_nil, lko]) (by rfl) (by rfl) (by simp [lko]) (by simp) (by simp) (by simp) (fun i hi => absurd hi (Nat.not_lt_zero i)))
        clear hA hDb
        rintro ⟨i, a, hil, ha, he3⟩
        simp only [CpA.st2, CmA.O]
        simp -implicitDefEqProofs only [push_cast, sts_length, seval]
        refine condC_split (fun g4 => ?_) (fun g4 => ?_)
        · have hlt : i < l2.length := by simp at g4; omega
          have hgt := sts_at hlt
          have hwi : IntKind.i64.wrap ((i : Int) + 1) = ((i + 1 : Nat) : Int) := by (rw [wrap_i64_id (by omega) (by omega)]; rfl)
          have hpl := hPb.2 _ (mem_getD hlt)
          rw [tks_at hlt] at he3
          have hG := ha.fs ka (by omega) hpl
          have ha2 := ha.tk hpl
          unfold Hf.tk at he3 ha2
          generalize l2.getD i [] = p at *
          generalize a.got p = G at *
          obtain ⟨a3, g⟩ := G
          simp only at he3 ha2 hG
          simp -implicitDefEqProofs only [push_cast, hgt, cf_len, cf_take, cf_back, cf_drop, List.append_nil, sts_length, seval]
          (repeat (first | refine ⟨(by omega : _ ≤ _), ?_⟩ | refine ⟨(by omega : _ < _), ?_⟩ | refine ⟨by (unfold drawOk; kernel_rfl), ?_⟩ | refine ⟨(by simp; done), ?_⟩ | refine ⟨(by simp; omega), ?_⟩))
          refine callE_pure hG (by rfl) (by rfl) (by rfl) (by decide) (by rfl) (fun _ => by rfl) (by first | rfl | simp [gdOk, newToks]) ?_
          simp -implicitDefEqProofs only [push_cast, cf_len, cf_take, cf_back, cf_drop, List.append_nil, seval]
          cases c : (g == 0) with
          | true =>
            have hg0 : g = 0 := by simpa using c
            rw [if_pos hg0] at he3 ha2
            simp -implicitDefEqProofs only [push_cast, c, hwi, cf_len, cf_take, cf_back, cf_drop, List.append_nil, seval]
            refine ⟨⟨i + 1, a3, hlt, ha2, he3⟩, by simp only; omega, ?_⟩
            (simp only [CpA.st2, CmA.O]; exact Wk.by _ _ _ [(0, 0), (1, 1), (2, 2), (3, 3)] [] [] (by simp) (by simp [wkV, PV.el, PV.weak, PS.get, PS.obj, PS.lv, lkp_hit, lkp_miss, lkp_nil, lko, wkL, wkC, res1, CmA.O, cf_wk, hzG_wk]) (by simp [PS.get, PS.obj, PS.lv, lkp_hit, lkp_miss, lkp_nil, lko, wkL, wkC, PV.weak, wkL, wkC, res1, CmA.O, cf_wk, hzG_wk]) (by simp [PS.get, PS.obj, PS.lv, lkp_hit, lkp_miss, lkp_nil, lko]) (by rfl) (by rfl) (by simp [lko]) (by simp) (by simp) (by simp) (fun i hi => absurd hi (Nat.not_lt_zero i)))
          | false =>
            have hg0 : ¬ g = 0 := by simpa using c
            rw [if_neg hg0] at he3 ha2
            simp -implicitDefEqProofs only [push_cast, c, hwi, cf_len, cf_take, cf_back, cf_drop, List.append_nil, seval]
            refine ⟨⟨i + 1, a, hlt, ha2, he3⟩, by simp only; omega, ?_⟩
            (simp only [CpA.st2, CmA.O]; exact Wk.by _ _ _ [(0, 0), (1, 1), (2, 2), (3, 3)] [] [] (by simp) (by simp [wkV, PV.el, PV.weak, PS.get, PS.obj, PS.lv, lkp_hit, lkp_miss, lkp_nil, lko, wkL, wkC, res1, CmA.O, cf_wk, hzG_wk]) (by simp [PS.get, PS.obj, PS.lv, lkp_hit, lkp_miss, lkp_nil, lko, wkL, wkC, PV.weak, wkL, wkC, res1, CmA.O, cf_wk, hzG_wk]) (by simp [PS.get, PS.obj, PS.lv, lkp_hit, lkp_miss, lkp_nil, lko]) (by rfl) (by rfl) (by simp [lko]) (by simp) (by simp) (by simp) (fun i hi => absurd hi (Nat.not_lt_zero i)))
        · have hie : i = l2.length := by simp at g4; omega
          subst hie
          rw [List.drop_length] at he3
          have he4 : a = A := he3
          subst he4
          have ha4 := ha.up (show i0 + 34 * j + 17 * j1 + l2.length ≤ i0 + 34 * j + 17 * (j1 + 1) by have := hPb.1; omega)
          simp -implicitDefEqProofs only [push_cast, hwj1, cf_len, cf_take, cf_back, cf_drop, List.append_nil, seval]
          refine ⟨⟨j1 + 1, a, b1, hj2, ha4, hb1, he2⟩, by simp only; omega, ?_⟩
          (simp only [CnA.st, CmA.O]; exact Wk.by _ _ _ [(0, 0), (1, 1), (2, 2), (3, 3)] [] [] (by simp) (by simp [wkV, PV.el, PV.weak, PS.get, PS.obj, PS.lv, lkp_hit, lkp_miss, lkp_nil, lko, wkL, wkC, res1, CmA.O, cf_wk, hzG_wk]) (by simp [PS.get, PS.obj, PS.lv, lkp_hit, lkp_miss, lkp_nil, lko, wkL, wkC, PV.weak, wkL, wkC, res1, CmA.O, cf_wk, hzG_wk]) (by simp [PS.get, PS.obj, PS.lv, lkp_hit, lkp_miss, lkp_nil, lko]) (by rfl) (by rfl) (by simp [lko]) (by simp) (by simp) (by simp) (fun i hi => absurd hi (Nat.not_lt_zero i)))
    · have hje : j1 = 2 := by simp at g2; omega
      subst hje
      have he4 : (a, b) = R2 := he2
      subst he4
      simp -implicitDefEqProofs only [push_cast, hwj, cf_len, cf_take, cf_back, cf_drop, List.append_nil, seval]
      refine ⟨⟨j + 1, a, b, hjl, ha.up (by omega), hb.up (by omega), he⟩, by simp only; omega, ?_⟩
      (simp only [CmA.st, CmA.O]; exact Wk.by _ _ _ [(0, 0), (1, 1), (2, 2), (3, 3)] [] [] (by simp) (by simp [wkV, PV.el, PV.weak, PS.get, PS.obj, PS.lv, lkp_hit, lkp_miss, lkp_nil, lko, wkL, wkC, res1, CmA.O, cf_wk, hzG_wk]) (by simp [PS.get, PS.obj, PS.lv, lkp_hit, lkp_miss, lkp_nil, lko, wkL, wkC, PV.weak, wkL, wkC, res1, CmA.O, cf_wk, hzG_wk]) (by simp [PS.get, PS.obj, PS.lv, lkp_hit, lkp_miss, lkp_nil, lko]) (by rfl) (by rfl) (by simp [lko]) (by simp) (by simp) (by simp) (fun i hi => absurd hi (Nat.not_lt_zero i)))
  · have hje : j = n := by simp at g1; omega
    subst hje
    rw [Nat.sub_self] at he
    have he4 : (a, b) = R := he
    subst he4
    simp -implicitDefEqProofs only [push_cast, cf_len, cf_take, cf_back, cf_drop, List.append_nil, hzG_len, hzG_drop, seval]
    (repeat (first | refine ⟨(by omega : _ ≤ _), ?_⟩ | refine ⟨(by omega : _ < _), ?_⟩ | refine ⟨by (unfold drawOk; kernel_rfl), ?_⟩ | refine ⟨(by simp; done), ?_⟩ | refine ⟨(by simp; omega), ?_⟩))
    all_goals (first | done | rfl | exact ⟨_, rfl, by simp [wkL, res2, res1, PV.weak, PV.el, Hf.cf, hzG]⟩ | (simp [wkL, res2, res1, PV.weak, PV.el, Hf.cf, hzG]; done))
end Go.Proofs.Sh

/- New halves; what near bytes leave, sizes. -/
set_option maxRecDepth 100000
set_option linter.unusedSimpArgs false
set_option linter.unusedVariables false
namespace Go.Proofs.Sh
open Go.Pv
open Lk (En Pc)
def enM (m : Int) : En := { most := m, way := [], next := 0, rest := [], exp := 0, aside := fun _ => [], read := [], ack := false }
def hfM (sv : Bool) (m o : Int) : Hf := { o := o, bg := sv, s := ⟨8, []⟩, l := ⟨8, []⟩, e := enM m, nr := [], fr := [], out := [], dd := false }
theorem lnewM_fs {m : Int} (h1 : 1 ≤ m) (h2 : m ≤ 1024) : Fsp Tryz.prog 19 [] 0 [.int .i64 m] [] 0 (.tup [(enM m).pv, .int .i64 0]) := by
  have h := Lk.new_fs m
  unfold Lk.newR at h
  rw [if_neg (by simp; omega)] at h
  exact h
def lenF (sv : Bool) : Nat := if sv = true then 34 else 33
theorem hnewM_fs (sv : Bool) {o m : Int} (ho : isOrder o) (hm1 : 1 ≤ m) (hm2 : m ≤ 1024) : Fsp Tryz.prog 10 [] 0 [.bool sv, .int .i64 o, .int .i64 8, .int .i64 m] [] 0 (.tup [.agg ((hfM sv m o).cf (lenF sv)), .int .i64 0]) := by
  have h1 := cnew8_fs
  have h2 := lnewM_fs hm1 hm2
  simp only [Cc.pv] at h1
  simp only [Lk.En.pv, Lk.En.cs, Lk.pcs, enM] at h2
  unfold Hf.cf hfM enM lenF
  rcases ho with rfl | rfl <;> cases sv
  · (refine Fsp.of (nx := 0) mixed Tryz.func10 rfl (by decide) (by first | exact Nat.le_refl _ | simp) (by simp [Tryz.f10]) ⟨by decide, by decide⟩ ?_; simp -implicitDefEqProofs only [push_cast, Tryz.f10, Hf.cs, seval])
    refine callE_pure h1 (by rfl) (by rfl) (by rfl) (by decide) (by rfl) (fun _ => by rfl) (by first | rfl | simp [gdOk, newToks]) ?_
    simp -implicitDefEqProofs only [push_cast, seval]
    refine callE_pure h2 (by rfl) (by rfl) (by rfl) (by decide) (by rfl) (fun _ => by rfl) (by first | rfl | simp [gdOk, newToks]) ?_
    simp -implicitDefEqProofs only [push_cast, seval]
    all_goals (first | done | rfl | exact ⟨_, rfl, by simp [wkL, res2, res1, PV.weak, PV.el]⟩ | (simp [wkL, res2, res1, PV.weak, PV.el]; done))
  · (refine Fsp.of (nx := 0) mixed Tryz.func10 rfl (by decide) (by first | exact Nat.le_refl _ | simp) (by simp [Tryz.f10]) ⟨by decide, by decide⟩ ?_; simp -implicitDefEqProofs only [push_cast, Tryz.f10, Hf.cs, seval])
    refine callE_pure h1 (by rfl) (by rfl) (by rfl) (by decide) (by rfl) (fun _ => by rfl) (by first | rfl | simp [gdOk, newToks]) ?_
    simp -implicitDefEqProofs only [push_cast, seval]
    refine callE_pure h2 (by rfl) (by rfl) (by rfl) (by decide) (by rfl) (fun _ => by rfl) (by first | rfl | simp [gdOk, newToks]) ?_
    simp -implicitDefEqProofs only [push_cast, seval]
    all_goals (first | done | rfl | exact ⟨_, rfl, by simp [wkL, res2, res1, PV.weak, PV.el]⟩ | (simp [wkL, res2, res1, PV.weak, PV.el]; done))
  · (refine Fsp.of (nx := 0) mixed Tryz.func10 rfl (by decide) (by first | exact Nat.le_refl _ | simp) (by simp [Tryz.f10]) ⟨by decide, by decide⟩ ?_; simp -implicitDefEqProofs only [push_cast, Tryz.f10, Hf.cs, seval])
    refine callE_pure h1 (by rfl) (by rfl) (by rfl) (by decide) (by rfl) (fun _ => by rfl) (by first | rfl | simp [gdOk, newToks]) ?_
    simp -implicitDefEqProofs only [push_cast, seval]
    refine callE_pure h2 (by rfl) (by rfl) (by rfl) (by decide) (by rfl) (fun _ => by rfl) (by first | rfl | simp [gdOk, newToks]) ?_
    simp -implicitDefEqProofs only [push_cast, seval]
    all_goals (first | done | rfl | exact ⟨_, rfl, by simp [wkL, res2, res1, PV.weak, PV.el]⟩ | (simp [wkL, res2, res1, PV.weak, PV.el]; done))
  · (refine Fsp.of (nx := 0) mixed Tryz.func10 rfl (by decide) (by first | exact Nat.le_refl _ | simp) (by simp [Tryz.f10]) ⟨by decide, by decide⟩ ?_; simp -implicitDefEqProofs only [push_cast, Tryz.f10, Hf.cs, seval])
    refine callE_pure h1 (by rfl) (by rfl) (by rfl) (by decide) (by rfl) (fun _ => by rfl) (by first | rfl | simp [gdOk, newToks]) ?_
    simp -implicitDefEqProofs only [push_cast, seval]
    refine callE_pure h2 (by rfl) (by rfl) (by rfl) (by decide) (by rfl) (fun _ => by rfl) (by first | rfl | simp [gdOk, newToks]) ?_
    simp -implicitDefEqProofs only [push_cast, seval]
    all_goals (first | done | rfl | exact ⟨_, rfl, by simp [wkL, res2, res1, PV.weak, PV.el]⟩ | (simp [wkL, res2, res1, PV.weak, PV.el]; done))
theorem enM_bd {m : Int} (h1 : 1 ≤ m) (h2 : m ≤ 1024) (i : Nat) : (enM m).Bd i :=
  ⟨by show 0 ≤ m; omega, h2, Nat.zero_le _, fun p hp => (by cases hp), Int.le_refl _, by show (0 : Int) ≤ 17 * i; omega, Nat.zero_le _, Int.le_refl _, by show (0 : Int) ≤ 17 * i; omega, fun _ _ => rfl, fun _ => Nat.zero_le _, Nat.zero_le _⟩
theorem cc8_ok : (⟨8, []⟩ : Cc).Ok := ⟨by show 1 ≤ 8; omega, by show 8 ≤ 64; omega, Nat.zero_le _, fun x hx => (by cases hx)⟩
theorem hfM_C (sv : Bool) {m : Int} (o : Int) (h1 : 1 ≤ m) (h2 : m ≤ 1024) (i : Nat) : (hfM sv m o).C i :=
  ⟨⟨enM_bd h1 h2 i, Nat.zero_le _, rfl⟩, cc8_ok, Nat.zero_le _⟩
theorem hfM_ok (sv : Bool) {o m : Int} (ho : isOrder o) (h1 : 1 ≤ m) (h2 : m ≤ 1024) (r : Nat) (hr : r ≤ 13107) : (hfM sv m o).Ok r where
  o := ho
  s := cc8_ok
  e := ⟨h1, by show m ≤ 1000000; omega, Nat.zero_le _, fun x hx => (by cases hx), Int.le_refl _, by show (0 : Int) + 17 * r ≤ 1000000000; omega, by show 0 + 0 + 5 * r ≤ 65536; omega, Int.le_refl _, by show (0 : Int) ≤ 1000000000; omega, fun _ _ => rfl, fun _ => Nat.zero_le _, Nat.zero_le _⟩
theorem feed_fs (h : Hf) (b : Bys) (H : h.dd = false → h.Ok (h.nr.length + b.length)) : Fsp Tryz.prog 11 [] 0 [.agg (h.cf (lenF false)), .str b] [] 0 (.tup [.agg ((h.feed b).cf (lenF false)), .int .i64 (if h.dd = true then 20 else 0)]) := by
  unfold Hf.feed
  cases hd : h.dd with
  | true =>
    rw [if_pos rfl, if_pos rfl]
    exact neardead_fs h b hd
  | false =>
    rw [if_neg (by decide), if_neg (by decide)]
    exact near_fs h b hd (H hd)
theorem feed_ok {h : Hf} (ho : isOrder h.o) (x y : Bys) (H : h.dd = false → h.Ok (h.nr.length + (x ++ y).length)) : (h.feed x).o = h.o ∧ ((h.feed x).dd = false → (h.feed x).Ok ((h.feed x).nr.length + y.length)) := by
  unfold Hf.feed
  cases hd : h.dd with
  | true => rw [if_pos rfl]; exact ⟨rfl, fun h2 => by rw [hd] at h2; cases h2⟩
  | false =>
    rw [if_neg (by decide)]
    have H := H hd
    obtain ⟨M, hI⟩ := run_is (h.nr.length + x.length + 1) { h with nr := h.nr ++ x } ho hd (by simp)
    unfold Hf.near
    generalize hR : Hf.run (h.nr.length + x.length + 1) { h with nr := h.nr ++ x } = R at *
    obtain ⟨c1, c2, c3, c4, c5, c6, c7⟩ := Hf.cut_is R
    have hk := hI.k (h.nr.length + (x ++ y).length) (by simp only [List.length_append]; omega) ⟨H.o, H.s, H.e⟩
    have hn := hI.n
    have hRo := hI.o
    simp only [List.length_append] at hn hk hRo
    refine ⟨by rw [c1]; exact hRo, fun _ => ⟨by rw [c1]; exact hk.o, by rw [c2]; exact hk.s, by rw [c3]; exact hk.e.le (by omega)⟩⟩
theorem send_bd {i : Nat} {e : En} (h : e.Bd i) (hi : 22 ≤ i) {b : Bys} (hr : (e.sendE b).rest.length ≤ 65536) : (e.sendE b).Bd (i + 1) := by
  have i1 := Lk.numL_numd 17 { e with rest := e.rest ++ b } h.m0 h.w
  have e1 : e.sendE b = Lk.numL 17 { e with rest := e.rest ++ b } := rfl
  rw [e1] at hr ⊢
  generalize Lk.numL 17 { e with rest := e.rest ++ b } = f at *
  have im := i1.most; have ie := i1.exp; have ia := i1.aside; have ir := i1.read; have il := i1.le; have inn := i1.next
  simp only at im ie ia ir il inn
  have h1 := h.m0; have h2 := h.m1; have h3 := h.n0; have h4 := h.n1; have h5 := h.e0; have h6 := h.e1; have h7 := h.rl
  exact ⟨by omega, by omega, i1.way, i1.bs 1024 h.wb h.m1, by omega, by omega, by omega, by omega, by omega, by rw [ia]; exact h.a16, by rw [ia]; exact h.al, by rw [ir]; omega⟩
theorem fdm_bd : ∀ (M : List Bys) (c : Cc) (e : En) (i r : Nat), c.Ok → EnR e r → M.flatten.length ≤ r → (∀ m ∈ M, 4 ≤ m.length ∧ m.length ≤ 65536) → e.Bd i → 22 ≤ i → (fdm (c, e) M).2.Bd (i + M.length) ∧ (fdm (c, e) M).2.read = e.read
  | [], c, e, i, r, _, _, _, _, hb, _ => ⟨hb, rfl⟩
  | m :: M, c, e, i, r, hc, he, hr, hm, hb, hi => by
    have hm4 := hm m List.mem_cons_self
    rw [List.flatten_cons, List.length_append] at hr
    have hsl := sh_len c m
    have hq := he.q
    have hfl : (frame (c.sh m)).length ≤ 6 + 3 * m.length := by
      unfold frame
      rw [List.length_append, (putS_4 (n := (c.sh m).length) (by omega)).1]
      omega
    have her2 := he.send hm4.1 (by omega) hfl
    have hq2 := her2.q
    unfold Lk.En.tot at hq2
    have ih := fdm_bd M (c.put m) (e.sendE (frame (c.sh m))) (i + 1) (r - m.length) (hc.put hm4.2) her2 (by omega) (fun q hq => hm q (List.mem_cons_of_mem _ hq)) (send_bd hb hi (by omega)) (by omega)
    rw [List.length_cons, show i + (M.length + 1) = i + 1 + M.length by omega]
    refine ⟨ih.1, Eq.trans ih.2 ?_⟩
    exact (Lk.numL_numd 17 { e with rest := e.rest ++ frame (c.sh m) } hb.m0 hb.w).read
theorem run_keep : ∀ (f : Nat) (h : Hf), (Hf.run f h).fr = h.fr ∧ (Hf.run f h).out = h.out
  | 0, h => ⟨rfl, rfl⟩
  | f + 1, h => by
    rw [Hf.run]
    split
    · exact ⟨rfl, rfl⟩
    · split
      · exact run_keep f _
      · exact ⟨rfl, rfl⟩
theorem cut_keep (R : Hf) : R.cut.fr = R.fr ∧ R.cut.out = R.out ∧ R.cut.l = R.l := by
  unfold Hf.cut
  split <;> exact ⟨rfl, rfl, rfl⟩
theorem near_C {h : Hf} (ho : isOrder h.o) (hd : h.dd = false) {x : Bys} (hx : h.nr.length + x.length ≤ 3000) (H : h.Ok (h.nr.length + x.length)) (hb : h.e.Bd 22) (hr : h.e.read = []) (hl : h.l.Ok) (hf : h.fr = []) (hout : h.out = []) : (h.near x).C 3022 := by
  obtain ⟨M, hI⟩ := run_is (h.nr.length + x.length + 1) { h with nr := h.nr ++ x } ho hd (by simp)
  unfold Hf.near
  obtain ⟨k1, k2⟩ := run_keep (h.nr.length + x.length + 1) { h with nr := h.nr ++ x }
  generalize hR : Hf.run (h.nr.length + x.length + 1) { h with nr := h.nr ++ x } = R at *
  obtain ⟨c1, c2, c3, c4, c5, c6, c7⟩ := Hf.cut_is R
  obtain ⟨d1, d2, d3⟩ := cut_keep R
  have hk := hI.k (h.nr.length + x.length) (by simp only [List.length_append]; omega) ⟨H.o, H.s, H.e⟩
  have hn := hI.n
  have hm := hI.m
  have he := hI.e
  have hRl := hI.l
  simp only [List.length_append] at hn he hRl
  have hml := mem4_len M hm
  have hB := fdm_bd M h.s h.e 22 (h.nr.length + x.length) H.s H.e (by omega) hm hb (by omega)
  rw [he] at hB
  have hq := hk.e.q
  unfold Lk.En.tot at hq
  refine ⟨⟨?_, ?_, ?_⟩, ?_, ?_⟩
  · rw [c3]; exact hB.1.up (by omega)
  · rw [c3]; omega
  · rw [c3, hB.2]; exact hr
  · rw [d3, hRl]; exact hl
  · rw [d1, d2, k1, k2]
    show h.out.length + 65536 * h.fr.length ≤ _
    rw [hf, hout]
    simp
end Go.Proofs.Sh

/- ProxyParts. -/
set_option maxRecDepth 100000
set_option linter.unusedSimpArgs false
set_option linter.unusedVariables false
namespace Go.Proofs.Sh
open Go.Pv
open Lk (En Pc)
def u8L (l : List Nat) : List PV := l.map fun n : Nat => PV.int .u8 (n : Int)
theorem u8L_length (l : List Nat) : (u8L l).length = l.length := List.length_map _
theorem u8L_at {l : List Nat} {i : Nat} (h : i < l.length) : (u8L l).getD i PV.any = .int .u8 (l.getD i 0 : Nat) := by
  rw [u8L, List.getD_eq_getElem?_getD, List.getElem?_map, List.getElem?_eq_getElem h, List.getD_eq_getElem?_getD, List.getElem?_eq_getElem h]; rfl
structure PaA (W : Hf) (o : Int) (parts : List Nat) where
  i : Nat
  h : Hf
  b : Bys
  hi : i ≤ parts.length
  ho : h.o = o
  hb : b.length ≤ 3000
  ok : h.dd = false → h.Ok (h.nr.length + b.length)
  e : h.feed b = W
def PaA.O (W h : Hf) : List (Nat × Option (List PV)) := [(0, some (W.cf (lenF false))), (1, some (h.cf (lenF false)))]
def PaA.st {W : Hf} {o : Int} {parts : List Nat} (a : PaA W o parts) : PS := { n := 151, env := [(65, .int .i64 a.i), (64, .int .i64 parts.length), (63, .sl 1 (u8L parts)), (14, .int .i64 0), (13, .box 1 0), (12, .int .i64 0), (11, .box 0 0), (10, .str a.b), (9, .int .i64 o), (8, .bool false)], objs := PaA.O W a.h, live := [], nxt := 5 }
set_option maxHeartbeats 4000000 in
theorem parts_fs (ord : Nat) (l : List Rq) (rest : Bys) (parts : List Nat) (h1 : ord < 256) (hl : l.length ≤ 1000000000000000) (hF : ∀ x ∈ l, x.Few) (hpc : ∀ c ∈ parts, c < 256) (hpl : parts.length ≤ 140737488351232) : Fsp Tryz.prog 3 [] 0 [.int .u8 ord, .sl 4 (rqL l), .str rest, .sl 1 (u8L parts)] [] 0 (.bool true) := by
  have hw := awake_fs
  have hf := few_fs l rest hl
  have ho : isOrder (ord % 2 : Nat) := by unfold isOrder; omega
  have hor : IntKind.i64.wrap (Int.tmod (ord : Int) 2) = ((ord % 2 : Nat) : Int) := by rw [Int.tmod_eq_emod_of_nonneg (by omega), wrap_i64_id (by omega) (by omega)]; omega
  cases hfew : fewB l rest with
  | false =>
    rw [hfew] at hf
    (refine Fsp.of (nx := 0) mixed Tryz.func3 rfl (by decide) (by first | exact Nat.le_refl _ | simp) (by simp [Tryz.f3]) ⟨by decide, by decide⟩ ?_; simp -implicitDefEqProofs only [push_cast, Tryz.f3, u8L_length, seval])
    refine callE_pure hf (by rfl) (by rfl) (by rfl) (by decide) (by rfl) (fun _ => by rfl) (by first | rfl | simp [gdOk, newToks]) ?_
    simp -implicitDefEqProofs only [push_cast, u8L_length, seval]
    (repeat (first | refine ⟨(by omega : _ ≤ _), ?_⟩ | refine ⟨(by omega : _ < _), ?_⟩ | refine ⟨by (unfold drawOk; kernel_rfl), ?_⟩ | refine ⟨(by simp; done), ?_⟩ | refine ⟨(by simp; omega), ?_⟩))
    refine callE_pure hw (by rfl) (by rfl) (by rfl) (by decide) (by rfl) (fun _ => by rfl) (by first | rfl | simp [gdOk, newToks]) ?_
    simp -implicitDefEqProofs only [push_cast, seval]
    all_goals (first | done | rfl | exact ⟨_, rfl, by simp [wkL, res2, res1, PV.weak, PV.el]⟩ | (simp [wkL, res2, res1, PV.weak, PV.el]; done))
  | true =>
  cases hp20 : decide ((20 : Int) < (parts.length : Int)) with
  | true =>
    rw [hfew] at hf
    (refine Fsp.of (nx := 0) mixed Tryz.func3 rfl (by decide) (by first | exact Nat.le_refl _ | simp) (by simp [Tryz.f3]) ⟨by decide, by decide⟩ ?_; simp -implicitDefEqProofs only [push_cast, Tryz.f3, u8L_length, seval])
    refine callE_pure hf (by rfl) (by rfl) (by rfl) (by decide) (by rfl) (fun _ => by rfl) (by first | rfl | simp [gdOk, newToks]) ?_
    simp -implicitDefEqProofs only [push_cast, u8L_length, hp20, seval]
    (repeat (first | refine ⟨(by omega : _ ≤ _), ?_⟩ | refine ⟨(by omega : _ < _), ?_⟩ | refine ⟨by (unfold drawOk; kernel_rfl), ?_⟩ | refine ⟨(by simp; done), ?_⟩ | refine ⟨(by simp; omega), ?_⟩))
    refine callE_pure hw (by rfl) (by rfl) (by rfl) (by decide) (by rfl) (fun _ => by rfl) (by first | rfl | simp [gdOk, newToks]) ?_
    simp -implicitDefEqProofs only [push_cast, seval]
    all_goals (first | done | rfl | exact ⟨_, rfl, by simp [wkL, res2, res1, PV.weak, PV.el]⟩ | (simp [wkL, res2, res1, PV.weak, PV.el]; done))
  | false =>
    rw [hfew] at hf
    have hp20' : parts.length ≤ 20 := by simp at hp20; omega
    have hl12 : l.length ≤ 12 ∧ rest.length ≤ 100 := by
      unfold fewB at hfew
      simp at hfew
      omega
    have hA := asks_fs ho l rest hl12.1 hl12.2 hF
    have hal := asksB_len (ord % 2 : Nat) l
    generalize hB : beg (ord % 2 : Nat) ++ asksB (ord % 2 : Nat) l ++ rest = B at *
    have hN := hnewM_fs false ho (m := 500) (by omega) (by omega)
    have hNS := hnewM_fs true ho (m := 500) (by omega) (by omega)
    generalize (ord % 2 : Nat) = o at *
    (refine Fsp.of (nx := 0) mixed Tryz.func3 rfl (by decide) (by first | exact Nat.le_refl _ | simp) (by simp [Tryz.f3]) ⟨by decide, by decide⟩ ?_; simp -implicitDefEqProofs only [push_cast, Tryz.f3, u8L_length, seval])
    refine callE_pure hf (by rfl) (by rfl) (by rfl) (by decide) (by rfl) (fun _ => by rfl) (by first | rfl | simp [gdOk, newToks]) ?_
    simp -implicitDefEqProofs only [push_cast, u8L_length, hp20, seval]
    (repeat (first | refine ⟨(by omega : _ ≤ _), ?_⟩ | refine ⟨(by omega : _ < _), ?_⟩ | refine ⟨by (unfold drawOk; kernel_rfl), ?_⟩ | refine ⟨(by simp; done), ?_⟩ | refine ⟨(by simp; omega), ?_⟩))
    simp -implicitDefEqProofs only [push_cast, hor, seval]
    refine callE_pure hA (by rfl) (by rfl) (by rfl) (by decide) (by rfl) (fun _ => by rfl) (by first | rfl | simp [gdOk, newToks]) ?_
    simp -implicitDefEqProofs only [push_cast, seval]
    refine condC_split (fun g1 => ?_) (fun g1 => ?_)
    · simp -implicitDefEqProofs only [push_cast, seval]
      refine callE_pure hw (by rfl) (by rfl) (by rfl) (by decide) (by rfl) (fun _ => by rfl) (by first | rfl | simp [gdOk, newToks]) ?_
      simp -implicitDefEqProofs only [push_cast, seval]
      all_goals (first | done | rfl | exact ⟨_, rfl, by simp [wkL, res2, res1, PV.weak, PV.el]⟩ | (simp [wkL, res2, res1, PV.weak, PV.el]; done))
    · have hB3 : B.length ≤ 3000 := by simp at g1; omega
      have hOk := hfM_ok false ho (m := 500) (by omega) (by omega) (0 + B.length) (by omega)
      have hNear := feed_fs (hfM false 500 o) B (fun _ => hOk)
      have hWC : ((hfM false 500 o).feed B).C 3022 := near_C ho rfl (by show 0 + B.length ≤ 3000; omega) hOk (enM_bd (by omega) (by omega) 22) rfl cc8_ok rfl rfl
      have hFC := hfM_C true (m := 500) o (by omega) (by omega) 3022
      have hd0 : (hfM false 500 o).dd = false := rfl
      rw [if_neg (by rw [hd0]; decide)] at hNear
      generalize hW : (hfM false 500 o).feed B = W at *
      have ho0 : (hfM false 500 o).o = o := rfl
      have hOk2 : (hfM false 500 o).dd = false → (hfM false 500 o).Ok ((hfM false 500 o).nr.length + B.length) := fun _ => hOk
      generalize hfM false 500 o = h0 at *
      generalize hfM true 500 o = hS at *
      simp -implicitDefEqProofs only [push_cast, cf_len, cf_take, cf_back, cf_drop, List.append_nil, seval]
      refine callE_pure hN (by rfl) (by rfl) (by rfl) (by decide) (by rfl) (fun _ => by rfl) (by first | rfl | simp [gdOk, newToks]) ?_
      simp -implicitDefEqProofs only [push_cast, cf_len, cf_take, cf_back, cf_drop, List.append_nil, seval]
      (repeat (first | refine ⟨(by omega : _ ≤ _), ?_⟩ | refine ⟨(by omega : _ < _), ?_⟩ | refine ⟨by (unfold drawOk; kernel_rfl), ?_⟩ | refine ⟨(by simp; done), ?_⟩ | refine ⟨(by simp; omega), ?_⟩))
      refine callE_pure hNear (by rfl) (by rfl) (by rfl) (by decide) (by rfl) (fun _ => by rfl) (by first | rfl | simp [gdOk, newToks]) ?_
      simp -implicitDefEqProofs only [push_cast, cf_len, cf_take, cf_back, cf_drop, List.append_nil, u8L_length, seval]
      (repeat (first | refine ⟨(by omega : _ ≤ _), ?_⟩ | refine ⟨(by omega : _ < _), ?_⟩ | refine ⟨by (unfold drawOk; kernel_rfl), ?_⟩ | refine ⟨(by simp; done), ?_⟩ | refine ⟨(by simp; omega), ?_⟩))
      refine loopC_of (α := PaA W o parts) PaA.st (fun a => parts.length - a.i) ⟨0, h0, B, by omega, ho0, hB3, hOk2, hW⟩ ?_ ?_
      · trace_state
        (simp only [PaA.st, PaA.O]; exact Wk.by _ _ _ [(0, 108), (1, 124)] [] [] (by simp) (by simp [wkV, PV.el, PV.weak, PS.get, PS.obj, PS.lv, lkp_hit, lkp_miss, lkp_nil, lko, wkL, wkC, res1, PaA.O, cf_wk]) (by simp [PS.get, PS.obj, PS.lv, lkp_hit, lkp_miss, lkp_nil, lko, wkL, wkC, PV.weak, wkL, wkC, res1, PaA.O, cf_wk]) (by simp [PS.get, PS.obj, PS.lv, lkp_hit, lkp_miss, lkp_nil, lko]) (by rfl) (by rfl) (by simp [lko]) (by simp) (by simp) (by simp) (fun i hi => absurd hi (Nat.not_lt_zero i)))
      rintro ⟨i, h, b, hi, hho, hb, hok, he⟩
      simp only [PaA.st, PaA.O]
      simp -implicitDefEqProofs only [push_cast, u8L_length, seval]
      refine condC_split (fun g2 => ?_) (fun g2 => ?_)
      · have hlt : i < parts.length := by simp at g2; omega
        have hgt := u8L_at hlt
        have hwi : IntKind.i64.wrap ((i : Int) + 1) = ((i + 1 : Nat) : Int) := by (rw [wrap_i64_id (by omega) (by omega)]; rfl)
        have hn : parts.getD i 0 < 256 := by
          refine hpc _ ?_
          rw [List.getD_eq_getElem?_getD, List.getElem?_eq_getElem hlt]
          exact List.getElem_mem hlt
        generalize parts.getD i 0 = n at *
        have hwn : IntKind.i64.wrap (n : Int) = n := wrap_i64_id (by omega) (by omega)
        obtain ⟨k, hk⟩ : ∃ k, k = min n b.length := ⟨_, rfl⟩
        have hmin : (if (b.length : Int) < (n : Int) then (b.length : Int) else (n : Int)) = (k : Int) := by split <;> omega
        have hkl : k ≤ b.length := by omega
        have hsp : b.take k ++ b.drop k = b := List.take_append_drop k b
        have hok1 : h.dd = false → h.Ok (h.nr.length + (b.take k ++ b.drop k).length) := by rw [hsp]; exact hok
        have hN1 := feed_fs h (b.take k) (fun hd => by have := hok hd; rw [List.length_take]; exact ⟨this.o, this.s, this.e.le (by omega)⟩)
        obtain ⟨f1, f2⟩ := feed_ok (by rw [hho]; exact ho) (b.take k) (b.drop k) hok1
        have he2 : (h.feed (b.take k)).feed (b.drop k) = W := by rw [← feed_app h (by rw [hho]; exact ho), hsp]; exact he
        have hdl : (b.drop k).length ≤ 3000 := by rw [List.length_drop]; omega
        have htk : (b.drop k).take (b.length - k) = b.drop k := List.take_of_length_le (by rw [List.length_drop]; omega)
        generalize h.feed (b.take k) = h2 at *
        have hns : ∀ (e : Int), (e = 20 ∨ e = 0) → ((e != 0) && (e != 20)) = false := by rintro e (rfl | rfl) <;> rfl
        simp -implicitDefEqProofs only [push_cast, hgt, hwn, hmin, cf_len, cf_take, cf_back, cf_drop, List.append_nil, u8L_length, seval]
        (repeat (first | refine ⟨(by omega : _ ≤ _), ?_⟩ | refine ⟨(by omega : _ < _), ?_⟩ | refine ⟨(by simp; omega), ?_⟩ | refine ⟨(by simp; done), ?_⟩ | refine ⟨(by (unfold drawOk; kernel_rfl)), ?_⟩))
        cases hd : h.dd with
        | true =>
          rw [hd, if_pos rfl] at hN1
          refine callE_pure hN1 (by rfl) (by rfl) (by rfl) (by decide) (by rfl) (fun _ => by rfl) (by first | rfl | simp [gdOk, newToks]) ?_
          simp -implicitDefEqProofs only [push_cast, hwi, htk, cf_len, cf_take, cf_back, cf_drop, List.append_nil, seval]
          (repeat (first | refine ⟨(by omega : _ ≤ _), ?_⟩ | refine ⟨(by omega : _ < _), ?_⟩ | refine ⟨(by simp; omega), ?_⟩ | refine ⟨(by simp; done), ?_⟩ | refine ⟨(by (unfold drawOk; kernel_rfl)), ?_⟩))
          refine ⟨⟨i + 1, h2, b.drop k, hlt, by rw [f1]; exact hho, hdl, f2, he2⟩, by simp only; omega, ?_⟩
          trace_state
          (simp only [PaA.st, PaA.O]; exact Wk.by _ _ _ [(0, 0), (1, 1)] [] [] (by simp) (by simp [wkV, PV.el, PV.weak, PS.get, PS.obj, PS.lv, lkp_hit, lkp_miss, lkp_nil, lko, wkL, wkC, res1, PaA.O, cf_wk]) (by simp [PS.get, PS.obj, PS.lv, lkp_hit, lkp_miss, lkp_nil, lko, wkL, wkC, PV.weak, wkL, wkC, res1, PaA.O, cf_wk]) (by simp [PS.get, PS.obj, PS.lv, lkp_hit, lkp_miss, lkp_nil, lko]) (by rfl) (by rfl) (by simp [lko]) (by simp) (by simp) (by simp) (fun i hi => absurd hi (Nat.not_lt_zero i)))
        | false =>
          rw [hd, if_neg (by decide)] at hN1
          refine callE_pure hN1 (by rfl) (by rfl) (by rfl) (by decide) (by rfl) (fun _ => by rfl) (by first | rfl | simp [gdOk, newToks]) ?_
          simp -implicitDefEqProofs only [push_cast, hwi, htk, cf_len, cf_take, cf_back, cf_drop, List.append_nil, seval]
          (repeat (first | refine ⟨(by omega : _ ≤ _), ?_⟩ | refine ⟨(by omega : _ < _), ?_⟩ | refine ⟨(by simp; omega), ?_⟩ | refine ⟨(by simp; done), ?_⟩ | refine ⟨(by (unfold drawOk; kernel_rfl)), ?_⟩))
          refine ⟨⟨i + 1, h2, b.drop k, hlt, by rw [f1]; exact hho, hdl, f2, he2⟩, by simp only; omega, ?_⟩
          (simp only [PaA.st, PaA.O]; exact Wk.by _ _ _ [(0, 0), (1, 1)] [] [] (by simp) (by simp [wkV, PV.el, PV.weak, PS.get, PS.obj, PS.lv, lkp_hit, lkp_miss, lkp_nil, lko, wkL, wkC, res1, PaA.O, cf_wk]) (by simp [PS.get, PS.obj, PS.lv, lkp_hit, lkp_miss, lkp_nil, lko, wkL, wkC, PV.weak, wkL, wkC, res1, PaA.O, cf_wk]) (by simp [PS.get, PS.obj, PS.lv, lkp_hit, lkp_miss, lkp_nil, lko]) (by rfl) (by rfl) (by simp [lko]) (by simp) (by simp) (by simp) (fun i hi => absurd hi (Nat.not_lt_zero i)))
      · have hN2 := feed_fs h b hok
        rw [he] at hN2
        have hC := calm_fs (lenF false) (lenF true) 30 W hS 3022 hWC hFC (by omega)
        generalize calmR 30 (W, hS) = R at *
        obtain ⟨x, p⟩ := R
        have hO := fout_fs (lenF true) p
        have hD := fdead_fs (lenF false) x
        simp -implicitDefEqProofs only [push_cast, cf_len, cf_take, cf_back, cf_drop, List.append_nil, seval]
        refine callE_pure hN2 (by rfl) (by rfl) (by rfl) (by decide) (by rfl) (fun _ => by rfl) (by first | rfl | simp [gdOk, newToks]) ?_
        simp -implicitDefEqProofs only [push_cast, cf_len, cf_take, cf_back, cf_drop, List.append_nil, seval]
        (repeat (first | refine ⟨(by omega : _ ≤ _), ?_⟩ | refine ⟨(by omega : _ < _), ?_⟩ | refine ⟨(by simp; omega), ?_⟩ | refine ⟨(by simp; done), ?_⟩ | refine ⟨(by (unfold drawOk; kernel_rfl)), ?_⟩))
        refine callE_pure hNS (by rfl) (by rfl) (by rfl) (by decide) (by rfl) (fun _ => by rfl) (by first | rfl | simp [gdOk, newToks]) ?_
        simp -implicitDefEqProofs only [push_cast, cf_len, cf_take, cf_back, cf_drop, List.append_nil, seval]
        (repeat (first | refine ⟨(by omega : _ ≤ _), ?_⟩ | refine ⟨(by omega : _ < _), ?_⟩ | refine ⟨(by simp; omega), ?_⟩ | refine ⟨(by simp; done), ?_⟩ | refine ⟨(by (unfold drawOk; kernel_rfl)), ?_⟩))
        refine callE_pure hC (by rfl) (by rfl) (by rfl) (by decide) (by rfl) (fun _ => by rfl) (by first | rfl | simp [gdOk, newToks]) ?_
        simp -implicitDefEqProofs only [push_cast, cf_len, cf_take, cf_back, cf_drop, List.append_nil, seval]
        (repeat (first | refine ⟨(by omega : _ ≤ _), ?_⟩ | refine ⟨(by omega : _ < _), ?_⟩ | refine ⟨(by simp; omega), ?_⟩ | refine ⟨(by simp; done), ?_⟩ | refine ⟨(by (unfold drawOk; kernel_rfl)), ?_⟩))
        refine callE_pure hC (by rfl) (by rfl) (by rfl) (by decide) (by rfl) (fun _ => by rfl) (by first | rfl | simp [gdOk, newToks]) ?_
        simp -implicitDefEqProofs only [push_cast, cf_len, cf_take, cf_back, cf_drop, List.append_nil, seval]
        (repeat (first | refine ⟨(by omega : _ ≤ _), ?_⟩ | refine ⟨(by omega : _ < _), ?_⟩ | refine ⟨(by simp; omega), ?_⟩ | refine ⟨(by simp; done), ?_⟩ | refine ⟨(by (unfold drawOk; kernel_rfl)), ?_⟩))
        refine callE_pure hO (by rfl) (by rfl) (by rfl) (by decide) (by rfl) (fun _ => by rfl) (by first | rfl | simp [gdOk, newToks]) ?_
        simp -implicitDefEqProofs only [push_cast, cf_len, cf_take, cf_back, cf_drop, List.append_nil, seval]
        (repeat (first | refine ⟨(by omega : _ ≤ _), ?_⟩ | refine ⟨(by omega : _ < _), ?_⟩ | refine ⟨(by simp; omega), ?_⟩ | refine ⟨(by simp; done), ?_⟩ | refine ⟨(by (unfold drawOk; kernel_rfl)), ?_⟩))
        refine callE_pure hO (by rfl) (by rfl) (by rfl) (by decide) (by rfl) (fun _ => by rfl) (by first | rfl | simp [gdOk, newToks]) ?_
        simp -implicitDefEqProofs only [push_cast, cf_len, cf_take, cf_back, cf_drop, List.append_nil, seval]
        (repeat (first | refine ⟨(by omega : _ ≤ _), ?_⟩ | refine ⟨(by omega : _ < _), ?_⟩ | refine ⟨(by simp; omega), ?_⟩ | refine ⟨(by simp; done), ?_⟩ | refine ⟨(by (unfold drawOk; kernel_rfl)), ?_⟩))
        refine callE_pure hD (by rfl) (by rfl) (by rfl) (by decide) (by rfl) (fun _ => by rfl) (by first | rfl | simp [gdOk, newToks]) ?_
        simp -implicitDefEqProofs only [push_cast, cf_len, cf_take, cf_back, cf_drop, List.append_nil, seval]
        refine callE_pure hD (by rfl) (by rfl) (by rfl) (by decide) (by rfl) (fun _ => by rfl) (by first | rfl | simp [gdOk, newToks]) ?_
        simp -implicitDefEqProofs only [push_cast, cf_len, cf_take, cf_back, cf_drop, List.append_nil, seval]
        refine callE_pure hw (by rfl) (by rfl) (by rfl) (by decide) (by rfl) (fun _ => by rfl) (by first | rfl | simp [gdOk, newToks]) ?_
        simp -implicitDefEqProofs only [push_cast, seval]
        all_goals (first | done | rfl | exact ⟨_, rfl, by simp [wkL, res2, res1, PV.weak, PV.el]⟩ | (simp [wkL, res2, res1, PV.weak, PV.el]; done))
end Go.Proofs.Sh
