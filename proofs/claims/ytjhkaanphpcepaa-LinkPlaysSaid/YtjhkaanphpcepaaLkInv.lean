/- How great an end becomes, by how much is done with it. -/
import Derived.Test.YtjhkaanphpcepaaLkNumd
set_option maxRecDepth 100000
set_option linter.unusedSimpArgs false
set_option linter.unusedVariables false
namespace Go.Proofs.Lk
open Go.Pv


/-- Its sizes, behind i acts. -/
structure En.Bd (i : Nat) (e : En) : Prop where
  m0 : 0 ≤ e.most
  m1 : e.most ≤ 1024
  w : e.way.length ≤ 16
  wb : ∀ p ∈ e.way, p.b.length ≤ 1024
  n0 : 0 ≤ e.next
  n1 : e.next ≤ 17 * i
  r : e.rest.length ≤ 3000 * i
  e0 : 0 ≤ e.exp
  e1 : e.exp ≤ 17 * i
  a16 : ∀ j, 16 ≤ j → e.aside j = []
  al : ∀ j, (e.aside j).length ≤ 3000
  rl : e.read.length ≤ 51000 * i
theorem En.Bd.ok {i : Nat} {e : En} (h : e.Bd i) (hi : i ≤ 300) : e.Ok :=
  ⟨h.m0, by have := h.m1; omega, h.w, fun p hp => by have := h.wb p hp; omega, h.n0, by have := h.n1; omega, by have := h.r; omega, h.e0, by have := h.e1; omega, h.a16, fun j => by have := h.al j; omega, by have := h.rl; omega⟩
theorem En.Bd.up {i k : Nat} {e : En} (h : e.Bd i) (hk : i ≤ k) : e.Bd k :=
  ⟨h.m0, h.m1, h.w, h.wb, h.n0, by have := h.n1; omega, by have := h.r; omega, h.e0, by have := h.e1; omega, h.a16, h.al, by have := h.rl; omega⟩
theorem Bd.numd {i k : Nat} {e f : En} (h : Numd e f k) (hm0 : 0 ≤ e.most) (hm1 : e.most ≤ 1024) (wb : ∀ p ∈ e.way, p.b.length ≤ 1024) (n0 : 0 ≤ e.next) (n1 : e.next + k ≤ 17 * i) (r : e.rest.length ≤ 3000 * i) (e0 : 0 ≤ e.exp) (e1 : e.exp ≤ 17 * i)
    (a16 : ∀ j, 16 ≤ j → e.aside j = []) (al : ∀ j, (e.aside j).length ≤ 3000) (rl : e.read.length ≤ 51000 * i) : f.Bd i := by
  have im := h.most; have ie := h.exp; have ia := h.aside; have ir := h.read; have il := h.le; have inx := h.next; have irs := h.rest
  exact ⟨by omega, by omega, h.way, h.bs 1024 wb hm1, by omega, by omega, by omega, by omega, by omega, by rw [ia]; exact a16, by rw [ia]; exact al, by rw [ir]; exact rl⟩
theorem En.Bd.send {i : Nat} {e : En} (h : e.Bd i) {b : List UInt8} (hb : b.length ≤ 3000) : (e.sendE b).Bd (i + 1) := by
  have i1 := numL_numd 17 { e with rest := e.rest ++ b } h.m0 h.w
  exact Bd.numd (k := 17) i1 h.m0 h.m1 h.wb h.n0 (by have := h.n1; simp only; omega) (by have := h.r; simp only [List.length_append]; omega) h.e0 (by have := h.e1; simp only; omega) h.a16 h.al (by have := h.rl; simp only; omega)
/-- What taking changes. -/
structure Shd (e f : En) (k : Nat) : Prop where
  exp0 : e.exp ≤ f.exp
  exp1 : f.exp ≤ e.exp + k
  read : f.read.length ≤ e.read.length + 3000 * k
  a16 : ∀ j, 16 ≤ j → f.aside j = []
  al : ∀ j, (f.aside j).length ≤ 3000
theorem shL_shd : ∀ (k : Nat) (e : En), (∀ j, 16 ≤ j → e.aside j = []) → (∀ j, (e.aside j).length ≤ 3000) → Shd e (shL k e) k
  | 0, e, h1, h2 => ⟨Int.le_refl _, by simp [shL], by simp [shL], h1, h2⟩
  | k + 1, e, h1, h2 => by
    unfold shL
    split
    · have i := shL_shd k e.shift (fun j hj => h1 (j + 1) (by omega)) (fun j => h2 (j + 1))
      have a := i.exp0; have b := i.exp1; have c := i.read
      have e1 : e.shift.exp = e.exp + 1 := rfl
      have e2 : e.shift.read.length ≤ e.read.length + 3000 := by
        have := h2 0
        simp only [En.shift, List.length_append]; omega
      exact ⟨by omega, by omega, by omega, i.a16, i.al⟩
    · exact ⟨Int.le_refl _, by omega, by omega, h1, h2⟩
theorem took_shd (e : En) (n : Int) (b : List UInt8) (hn : n ≤ e.exp + 15) (hb : b.length ≤ 3000) (h1 : ∀ j, 16 ≤ j → e.aside j = []) (h2 : ∀ j, (e.aside j).length ≤ 3000) : Shd e (e.took n b) 17 := by
  unfold En.took
  split
  · exact ⟨Int.le_refl _, by show e.exp ≤ e.exp + 17; omega, by show e.read.length ≤ _; omega, h1, h2⟩
  · rename_i h
    have hge : e.exp ≤ n := by simp at h; omega
    split
    · exact ⟨Int.le_refl _, by show e.exp ≤ e.exp + 17; omega, by show e.read.length ≤ _; omega, h1, h2⟩
    · have i := shL_shd 17 (e.acked.lay (n - e.exp).toNat b) (fun j hj => by
        show (if _ then _ else _) = _
        rw [if_neg (by omega)]
        exact h1 j hj) (fun j => by
        show (if _ then _ else _ : List UInt8).length ≤ _
        split
        · exact hb
        · exact h2 j)
      exact ⟨i.exp0, i.exp1, i.read, i.a16, i.al⟩
theorem En.Bd.got {i : Nat} {e : En} (h : e.Bd i) {p : List UInt8} (hp : p.length ≤ 3000) (hg : gotN e p = 0) : (e.gotE p).Bd (i + 1) := by
  have hbl : (bd p).length ≤ 3000 := by rw [bd, List.length_drop]; omega
  have hak : ∀ q ∈ (e.ackn (to p)).way, q ∈ e.way := fun q hq => (List.dropWhile_sublist _).subset hq
  have hakl : (e.ackn (to p)).way.length ≤ 16 := Nat.le_trans (List.dropWhile_sublist _).length_le h.w
  unfold En.gotE
  split
  · rename_i hk
    have hr : nu p ≤ e.exp + 15 := by
      unfold gotN at hg
      repeat' split at hg
      all_goals first | (exfalso; omega) | skip
      rename_i hx
      have hk' : (kd p == 0) = true := hk
      simp [hk'] at hx
      omega
    have s := took_shd (e.ackn (to p)) (nu p) (bd p) hr hbl h.a16 h.al
    obtain ⟨q1, q2, q3, q4⟩ := took_same (e.ackn (to p)) (nu p) (bd p)
    have i1 := numL_numd 17 ((e.ackn (to p)).took (nu p) (bd p)) (by rw [q2]; exact h.m0) (by rw [q1]; exact hakl)
    have x0 := s.exp0; have x1 := s.exp1; have x2 := s.read
    have y0 : (e.ackn (to p)).exp = e.exp := rfl
    have y1 : (e.ackn (to p)).read = e.read := rfl
    have z1 := h.e0; have z2 := h.e1; have z3 := h.rl; have z4 := h.n1; have z5 := h.r
    rw [y1] at x2
    refine Bd.numd (k := 17) i1 (by rw [q2]; exact h.m0) (by rw [q2]; exact h.m1) (fun q hq => h.wb q (hak q (by rw [← q1]; exact hq))) (by rw [q4]; exact h.n0) ?_ ?_ (by omega) (by omega) s.a16 s.al (by omega)
    · rw [q4]; show e.next + _ ≤ _; omega
    · rw [q3]; show e.rest.length ≤ _; omega
  · have i1 := numL_numd 17 (e.ackn (to p)) h.m0 hakl
    have z2 := h.e1; have z3 := h.rl; have z4 := h.n1; have z5 := h.r
    exact Bd.numd (k := 17) i1 h.m0 h.m1 (fun q hq => h.wb q (hak q hq)) h.n0 (by show e.next + _ ≤ _; omega) (by show e.rest.length ≤ _; omega) h.e0 (by show e.exp ≤ _; omega) h.a16 h.al (by show e.read.length ≤ _; omega)
theorem En.Bd.due {i : Nat} {e : En} (h : e.Bd i) : e.due.Bd i :=
  ⟨h.m0, h.m1, by rw [En.due, dueL_len]; exact h.w, fun p hp => by
    obtain ⟨q, hq, rfl⟩ := List.mem_map.1 hp
    exact h.wb q hq, h.n0, h.n1, h.r, h.e0, h.e1, h.a16, h.al, h.rl⟩
theorem En.Bd.tick {i : Nat} {e : En} (h : e.Bd i) : e.tick.Bd i :=
  ⟨h.m0, h.m1, by rw [En.tick, tickL_len]; exact h.w, fun p hp => by
    obtain ⟨q, hq, rfl⟩ := List.mem_map.1 hp
    exact h.wb q hq, h.n0, h.n1, h.r, h.e0, h.e1, h.a16, h.al, h.rl⟩
theorem En.Bd.cut {i : Nat} {e : En} (h : e.Bd i) : e.cut.Bd i := by
  unfold En.cut
  split
  · exact h
  · have t := h.tick
    exact ⟨t.m0, t.m1, t.w, t.wb, t.n0, t.n1, t.r, t.e0, t.e1, t.a16, t.al, t.rl⟩
theorem En.Bd.clear {i : Nat} {e : En} (h : e.Bd i) : ({ e with read := [] } : En).Bd i :=
  ⟨h.m0, h.m1, h.w, h.wb, h.n0, h.n1, h.r, h.e0, h.e1, h.a16, h.al, Nat.zero_le _⟩
end Go.Proofs.Lk
