/- LinkPlays: an end, and the document's end beside it. Plain. -/
import Derived.Test.YtjhkaanphpcepaaLkRefF
import Derived.Test.YtjhkaanphpcepaaLkInv
set_option maxRecDepth 100000
set_option linter.unusedSimpArgs false
set_option linter.unusedVariables false
namespace Go.Proofs.Lk
open Go.Pv

def En.wa (e : En) (a : Nat → List UInt8) : En := { e with aside := a }
theorem rpv_wa (e : En) (a : Nat → List UInt8) (L : List Pc) : rpv (e.wa a) L = rpv e L := rfl
/-- The bytes that are laid aside with a number. -/
def gL (L : List Pc) (x : Int) : List UInt8 := ((L.find? fun q => q.n == x).map Pc.b).getD []
theorem gL_none {L : List Pc} {x : Int} (h : ∀ q ∈ L, q.n ≠ x) : gL L x = [] := by
  have : (L.find? fun q => q.n == x) = none := by
    rw [List.find?_eq_none]; intro q hq; simpa using h q hq
  rw [gL, this]; rfl
theorem gL_hit {l1 l2 : List Pc} {q : Pc} (h : ∀ p ∈ l1, p.n ≠ q.n) : gL (l1 ++ q :: l2) q.n = q.b := by
  have : (l1.find? fun p => p.n == q.n) = none := by
    rw [List.find?_eq_none]; intro p hp; simpa using h p hp
  rw [gL, List.find?_append, this, List.find?_cons]
  simp
theorem gL_miss {l1 l2 : List Pc} {q : Pc} {y : Int} (h : q.n ≠ y) : gL (l1 ++ q :: l2) y = gL (l1 ++ l2) y := by
  have : (q.n == y) = false := by simpa using h
  rw [gL, gL, List.find?_append, List.find?_append, List.find?_cons, this]
theorem gL_ne {L : List Pc} {x : Int} (h : ∀ q ∈ L, q.b ≠ []) {q : Pc} (hq : q ∈ L) (hx : q.n = x) : gL L x ≠ [] := by
  unfold gL
  cases hf : L.find? (fun q => q.n == x) with
  | none =>
    rw [List.find?_eq_none] at hf
    exact absurd (by simpa using hx) (hf q hq)
  | some p => exact h p (List.mem_of_find?_eq_some hf)
structure As (e : En) (L : List Pc) : Prop where
  at' : ∀ j : Nat, e.aside j = gL L (e.exp + j)
  ge : ∀ q ∈ L, e.exp ≤ q.n
  ne : ∀ q ∈ L, q.b ≠ []
  nd : L.Pairwise (fun p q => p.n ≠ q.n)
theorem As.to {e f : En} {L : List Pc} (h : As e L) (h1 : f.aside = e.aside) (h2 : f.exp = e.exp) : As f L :=
  ⟨fun j => by rw [h1, h2]; exact h.at' j, fun q hq => by rw [h2]; exact h.ge q hq, h.ne, h.nd⟩
theorem as_step {e : En} {L : List Pc} (h : As e L) : (tkF e.exp L).1 = (e.aside 0 != []) ∧ ((tkF e.exp L).1 = true → (tkF e.exp L).2.2 = e.aside 0 ∧ As e.shift (tkF e.exp L).2.1) := by
  have h00 := h.at' 0
  rw [show e.exp + ((0 : Nat) : Int) = e.exp by omega] at h00
  cases hT : (tkF e.exp L).1 with
  | false =>
    obtain ⟨-, h2⟩ := tkF_none hT
    rw [h00, gL_none h2]
    exact ⟨rfl, fun h => by cases h⟩
  | true =>
    obtain ⟨l1, q, l2, hL, hq, hF⟩ := tkF_some hT
    have hnd := h.nd
    rw [hL, List.pairwise_append] at hnd
    obtain ⟨n1, n2, n3⟩ := hnd
    rw [List.pairwise_cons] at n2
    have h1 : ∀ p ∈ l1, p.n ≠ q.n := fun p hp => n3 p hp q (List.mem_cons_self ..)
    have hb : e.aside 0 = q.b := by rw [h00, hL, ← hq, gL_hit h1]
    have hbn : q.b ≠ [] := h.ne q (by rw [hL]; simp)
    refine ⟨by rw [hb]; simpa using hbn, fun _ => ?_⟩
    rw [hF, hb]
    refine ⟨rfl, ⟨fun j => ?_, fun p hp => ?_, fun p hp => ?_, ?_⟩⟩
    · show e.aside (j + 1) = gL (l1 ++ l2) (e.exp + 1 + j)
      rw [h.at' (j + 1), hL, gL_miss (by omega), show e.exp + ((j + 1 : Nat) : Int) = e.exp + 1 + j by omega]
    · show e.exp + 1 ≤ p.n
      have hp' : p ∈ L := by rw [hL]; rcases List.mem_append.1 hp with h | h <;> simp [h]
      have := h.ge p hp'
      have : p.n ≠ q.n := by
        rcases List.mem_append.1 hp with h | h
        · exact h1 p h
        · exact fun e => n2.1 p h e.symm
      omega
    · exact h.ne p (by rw [hL]; rcases List.mem_append.1 hp with h | h <;> simp [h])
    · show (l1 ++ l2).Pairwise _
      rw [List.pairwise_append]
      exact ⟨n1, n2.2, fun a ha b hb => n3 a ha b (List.mem_cons_of_mem _ hb)⟩
theorem tkF_sz (x : Int) (L : List Pc) : (tkF x L).2.2.length + pcSum (tkF x L).2.1 = pcSum L ∧ (if (tkF x L).1 = true then (tkF x L).2.1.length + 1 = L.length else (tkF x L).2.1.length = L.length) := by
  have h := tkF_ok x L L.length (Nat.le_refl _)
  rw [List.take_length] at h
  exact h
theorem tk_sh (a : Nat → List UInt8) : ∀ (k : Nat) (e : En) (L : List Pc), As e L → ∃ L', tkL k (e.wa a) L = ((shL k e).wa a, L') ∧ As (shL k e) L' ∧ L'.length ≤ L.length ∧ pcSum L' ≤ pcSum L
  | 0, e, L, h => ⟨L, rfl, h, Nat.le_refl _, Nat.le_refl _⟩
  | k + 1, e, L, h => by
    obtain ⟨s1, s2⟩ := as_step h
    obtain ⟨z1, z2⟩ := tkF_sz e.exp L
    unfold tkL shL
    rw [show (e.wa a).exp = e.exp from rfl, s1]
    by_cases h0 : (e.aside 0 != []) = true
    · rw [if_pos h0, if_pos h0]
      obtain ⟨t1, t2⟩ := s2 (by rw [s1]; exact h0)
      rw [s1, if_pos h0] at z2
      obtain ⟨L', q1, q2, q3, q4⟩ := tk_sh a k e.shift _ t2
      rw [t1]
      exact ⟨L', q1, q2, by omega, by omega⟩
    · rw [if_neg h0, if_neg h0]
      exact ⟨L, rfl, h, Nat.le_refl _, Nat.le_refl _⟩
theorem shL_st : ∀ (k : Nat) (e : En), (∃ j, j < k ∧ e.aside j = []) → shL (k + 1) e = shL k e
  | 0, e, ⟨j, h, _⟩ => absurd h (Nat.not_lt_zero _)
  | k + 1, e, ⟨j, h, h2⟩ => by
    show (if (e.aside 0 != []) = true then shL (k + 1) e.shift else e) = (if (e.aside 0 != []) = true then shL k e.shift else e)
    split
    · rename_i h0
      refine shL_st k e.shift ⟨j - 1, ?_, ?_⟩
      · rcases j with _ | j
        · rw [h2] at h0; cases h0
        · omega
      · rcases j with _ | j
        · rw [h2] at h0; cases h0
        · exact h2
    · rfl
theorem shL_more {e : En} (h : e.aside 16 = []) : ∀ m, shL (17 + m) e = shL 17 e
  | 0 => rfl
  | m + 1 => by rw [← Nat.add_assoc, shL_st _ e ⟨16, by omega, h⟩, shL_more h m]
theorem shL_0 : ∀ (k : Nat) (e : En), (∃ j, j < k ∧ e.aside j = []) → (shL k e).aside 0 = []
  | 0, e, ⟨j, h, _⟩ => absurd h (Nat.not_lt_zero _)
  | k + 1, e, ⟨j, h, h2⟩ => by
    unfold shL
    split
    · rename_i h0
      refine shL_0 k e.shift ⟨j - 1, ?_, ?_⟩
      · rcases j with _ | j
        · rw [h2] at h0; cases h0
        · omega
      · rcases j with _ | j
        · rw [h2] at h0; cases h0
        · exact h2
    · rename_i h0
      simpa using h0
theorem tkL_st : ∀ (k : Nat) (e : En) (L : List Pc), L.length < k → tkL (k + 1) e L = tkL k e L
  | 0, e, L, h => absurd h (Nat.not_lt_zero _)
  | k + 1, e, L, h => by
    obtain ⟨z1, z2⟩ := tkF_sz e.exp L
    show (if (tkF e.exp L).1 = true then tkL (k + 1) (e.fnd (tkF e.exp L).2.2) (tkF e.exp L).2.1 else (e, L)) = (if (tkF e.exp L).1 = true then tkL k (e.fnd (tkF e.exp L).2.2) (tkF e.exp L).2.1 else (e, L))
    split
    · rename_i h0
      rw [if_pos h0] at z2
      exact tkL_st k _ _ (by omega)
    · rfl
theorem tkL_more (e : En) (L : List Pc) : ∀ m, tkL (L.length + 1 + m) e L = tkL (L.length + 1) e L
  | 0 => rfl
  | m + 1 => by rw [← Nat.add_assoc, tkL_st _ e L (by omega), tkL_more e L m]
theorem tk_take {e : En} {L : List Pc} (a : Nat → List UInt8) (h : As e L) (h16 : e.aside 16 = []) :
    ∃ L', tkL (L.length + 1) (e.wa a) L = ((shL 17 e).wa a, L') ∧ As (shL 17 e) L' ∧ L'.length ≤ L.length ∧ pcSum L' ≤ pcSum L ∧ (shL 17 e).aside 0 = [] := by
  obtain ⟨L', q1, q2, q3, q4⟩ := tk_sh a (17 + (L.length + 1)) e L h
  rw [shL_more h16] at q1 q2
  rw [Nat.add_comm 17, tkL_more] at q1
  exact ⟨L', q1, q2, q3, q4, shL_0 17 e ⟨16, by omega, h16⟩⟩
theorem shL_stay {e : En} (h : e.aside 0 = []) : ∀ k, shL k e = e
  | 0 => rfl
  | k + 1 => by unfold shL; rw [if_neg (by rw [h]; decide)]
theorem as_took {e : En} {L : List Pc} {n : Int} {b : List UInt8} (a : Nat → List UInt8) (h : As e L) (h0 : e.aside 0 = []) (h16 : ∀ j, 16 ≤ j → e.aside j = []) (hn : n ≤ e.exp + 15) (hb : b ≠ []) :
    ∃ L', tkL ((lay e L n b).length + 1) (e.acked.wa a) (lay e L n b) = ((e.took n b).wa a, L') ∧ As (e.took n b) L' ∧ L'.length ≤ L.length + 1 ∧ pcSum L' ≤ pcSum L + b.length ∧ (e.took n b).aside 0 = [] := by
  have hack : As e.acked L := h.to rfl rfl
  have stay : lay e L n b = L → e.took n b = e.acked → ∃ L', tkL ((lay e L n b).length + 1) (e.acked.wa a) (lay e L n b) = ((e.took n b).wa a, L') ∧ As (e.took n b) L' ∧ L'.length ≤ L.length + 1 ∧ pcSum L' ≤ pcSum L + b.length ∧ (e.took n b).aside 0 = [] := by
    intro hl ht
    obtain ⟨L', q1, q2, q3, q4, q5⟩ := tk_take a hack (h16 16 (by omega))
    rw [shL_stay (show e.acked.aside 0 = [] from h0)] at q1 q2 q5
    rw [hl, ht]
    exact ⟨L', q1, q2, by omega, by omega, q5⟩
  by_cases h1 : n < e.exp
  · refine stay ?_ ?_
    · unfold lay; rw [if_pos (by simp [h1])]
    · unfold En.took; rw [if_pos (by simpa using h1)]
  · have hat := h.at' (n - e.exp).toNat
    rw [show e.exp + ((n - e.exp).toNat : Int) = n by omega] at hat
    by_cases h2 : (L.any fun q => q.n == n) = true
    · obtain ⟨q, hq, hqn⟩ := List.any_eq_true.1 h2
      have h3 : gL L n ≠ [] := gL_ne h.ne hq (by simpa using hqn)
      refine stay ?_ ?_
      · unfold lay; rw [if_pos (by simp [h2])]
      · unfold En.took
        rw [if_neg (by simpa using h1), if_pos (by rw [hat]; simpa using h3)]
    · rw [Bool.not_eq_true] at h2
      have h3 : ∀ q ∈ L, q.n ≠ n := by
        rw [List.any_eq_false] at h2
        intro q hq
        simpa using h2 q hq
      have hl : lay e L n b = L ++ [⟨n, b, false⟩] := by
        unfold lay; rw [if_neg (by rw [h2]; simpa using h1)]
      have ht : e.took n b = shL 17 (e.acked.lay (n - e.exp).toNat b) := by
        unfold En.took
        rw [if_neg (by simpa using h1), if_neg (by rw [hat, gL_none h3]; decide)]
      have hA : As (e.acked.lay (n - e.exp).toNat b) (L ++ [⟨n, b, false⟩]) := by
        refine ⟨fun j => ?_, fun q hq => ?_, fun q hq => ?_, ?_⟩
        · show (if j = (n - e.exp).toNat then b else e.aside j) = gL (L ++ [⟨n, b, false⟩]) (e.exp + j)
          by_cases hj : j = (n - e.exp).toNat
          · rw [if_pos hj, hj, show e.exp + ((n - e.exp).toNat : Int) = n by omega]
            exact (gL_hit (q := ⟨n, b, false⟩) h3).symm
          · rw [if_neg hj, gL_miss (by show n ≠ _; omega), List.append_nil]
            exact h.at' j
        · show e.exp ≤ q.n
          rcases List.mem_append.1 hq with hq | hq
          · exact h.ge q hq
          · rw [List.mem_singleton] at hq; subst hq; show e.exp ≤ n; omega
        · rcases List.mem_append.1 hq with hq | hq
          · exact h.ne q hq
          · rw [List.mem_singleton] at hq; subst hq; exact hb
        · rw [List.pairwise_append]
          refine ⟨h.nd, by simp, fun p hp q hq => ?_⟩
          rw [List.mem_singleton] at hq; subst hq; exact h3 p hp
      obtain ⟨L', q1, q2, q3, q4, q5⟩ := tk_take a hA (by
        show (if _ then _ else _) = _
        rw [if_neg (by omega)]
        exact h16 16 (by omega))
      rw [hl, ht]
      rw [pcSum_app] at q4
      rw [List.length_append, List.length_singleton] at q3
      exact ⟨L', q1, q2, q3, q4, q5⟩
/-- Numbers under way grow. -/
def Wy (w : List Pc) (nx : Int) : Prop := w.Pairwise (fun p q => p.n < q.n) ∧ ∀ q ∈ w, q.n < nx
theorem Wy.sub {w v : List Pc} {nx : Int} (h : Wy w nx) (s : v.Sublist w) : Wy v nx := ⟨h.1.sublist s, fun q hq => h.2 q (s.subset hq)⟩
theorem Wy.map {w : List Pc} {nx : Int} (h : Wy w nx) (f : Pc → Pc) (hf : ∀ q, (f q).n = q.n) : Wy (w.map f) nx := by
  refine ⟨?_, fun q hq => ?_⟩
  · rw [List.pairwise_map]
    exact h.1.imp (fun {a b} hab => by rw [hf, hf]; exact hab)
  · obtain ⟨p, hp, rfl⟩ := List.mem_map.1 hq
    rw [hf]; exact h.2 p hp
theorem wy_num : ∀ (k : Nat) (e : En), Wy e.way e.next → Wy (numL k e).way (numL k e).next
  | 0, e, h => h
  | k + 1, e, h => by
    unfold numL
    split
    · refine wy_num k e.num1 ⟨?_, fun q hq => ?_⟩
      · show (e.way ++ [_]).Pairwise _
        rw [List.pairwise_append]
        refine ⟨h.1, by simp, fun p hp q hq => ?_⟩
        rw [List.mem_singleton] at hq; subst hq; exact h.2 p hp
      · show q.n < e.next + 1
        rcases List.mem_append.1 hq with hq | hq
        · have := h.2 q hq; omega
        · rw [List.mem_singleton] at hq; subst hq; show e.next < e.next + 1; omega
    · exact h
theorem drop_filt (a : Int) : ∀ {w : List Pc}, w.Pairwise (fun p q => p.n < q.n) → (w.dropWhile fun p => decide (p.n < a)) = w.filter fun q => decide (a ≤ q.n)
  | [], _ => rfl
  | q :: w, h => by
    rw [List.pairwise_cons] at h
    by_cases h1 : q.n < a
    · rw [List.dropWhile_cons_of_pos (by simpa using h1), List.filter_cons_of_neg (by simp; omega)]
      exact drop_filt a h.2
    · rw [List.dropWhile_cons_of_neg (by simpa using h1), List.filter_cons_of_pos (by simp; omega)]
      congr 1
      refine (List.filter_eq_self.2 fun p hp => ?_).symm
      have := h.1 p hp
      simp; omega
theorem rack_eq {e : En} (h : Wy e.way e.next) (a : Int) : e.rack a = e.ackn a := by
  unfold En.rack En.ackn; rw [drop_filt a h.1]
theorem numL_wa (a : Nat → List UInt8) : ∀ (k : Nat) (e : En), numL k (e.wa a) = (numL k e).wa a
  | 0, e => rfl
  | k + 1, e => by
    show (if (e.rest != [] && decide ((e.way.length : Int) < 16)) = true then numL k (e.num1.wa a) else e.wa a) = (if (e.rest != [] && decide ((e.way.length : Int) < 16)) = true then numL k e.num1 else e).wa a
    split
    · exact numL_wa a k e.num1
    · rfl
/-- An end, and what the document's end has laid aside, behind i acts. -/
structure Jn (i : Nat) (e : En) (L : List Pc) : Prop where
  bk : e.Bd i
  ah : As e L
  z0 : e.aside 0 = []
  ll : L.length ≤ i
  ls : pcSum L ≤ 3000 * i
  wy : Wy e.way e.next
  ze : e.most = 0 → e.way = [] ∧ e.ack = false
theorem Jn.up {i : Nat} {e : En} {L : List Pc} (h : Jn i e L) : Jn (i + 1) e L :=
  ⟨h.bk.up (by omega), h.ah, h.z0, by have := h.ll; omega, by have := h.ls; omega, h.wy, h.ze⟩
theorem Jn.send {i : Nat} {e : En} {L : List Pc} (h : Jn i e L) {b : List UInt8} (hb : b.length ≤ 3000) (hm : e.most ≠ 0) : Jn (i + 1) (e.sendE b) L := by
  have i1 := numL_numd 17 { e with rest := e.rest ++ b } h.bk.m0 h.bk.w
  have ha : (e.sendE b).aside = e.aside := i1.aside
  have hx : (e.sendE b).exp = e.exp := i1.exp
  have hmo : (e.sendE b).most = e.most := i1.most
  exact ⟨h.bk.send hb, h.ah.to ha hx, by rw [ha]; exact h.z0, by have := h.ll; omega, by have := h.ls; omega, wy_num 17 { e with rest := e.rest ++ b } h.wy, fun h2 => absurd (hmo ▸ h2) hm⟩
theorem Jn.due {i : Nat} {e : En} {L : List Pc} (h : Jn i e L) : Jn i e.due L :=
  ⟨h.bk.due, h.ah.to rfl rfl, h.z0, h.ll, h.ls, Wy.map h.wy _ (fun _ => rfl), fun h2 => by
    obtain ⟨h3, -⟩ := h.ze h2
    exact ⟨by show dueL e.way = []; rw [h3]; rfl, rfl⟩⟩
theorem Jn.tick {i : Nat} {e : En} {L : List Pc} (h : Jn i e L) : Jn i e.tick L :=
  ⟨h.bk.tick, h.ah.to rfl rfl, h.z0, h.ll, h.ls, Wy.map h.wy _ (fun _ => rfl), fun h2 => by
    obtain ⟨h3, h4⟩ := h.ze h2
    exact ⟨by show tickL e.way = []; rw [h3]; rfl, h4⟩⟩
theorem Jn.cut {i : Nat} {e : En} {L : List Pc} (h : Jn i e L) : Jn i e.cut L ∧ rpv { e.tick with ack := decide (0 < e.most) } L = rpv e.cut L := by
  by_cases hm : e.most = 0
  · obtain ⟨h3, h4⟩ := h.ze hm
    have he : ({ e.tick with ack := decide (0 < e.most) } : En) = e := by
      obtain ⟨m, w, n, r, x, a, rd, ak⟩ := e
      simp only at hm h3 h4
      subst hm; subst h3; subst h4
      rfl
    rw [En.cut, if_pos hm, he]
    exact ⟨h, rfl⟩
  · have hm0 := h.bk.m0
    have hp : decide (0 < e.most) = true := by simp; omega
    have hbc := h.bk.cut
    rw [En.cut, if_neg hm] at hbc ⊢
    rw [hp]
    have t := h.tick
    exact ⟨⟨hbc, h.ah.to rfl rfl, h.z0, h.ll, h.ls, t.wy, fun h2 => absurd h2 hm⟩, rfl⟩
theorem Jn.clear {i : Nat} {e : En} {L : List Pc} (h : Jn i e L) : Jn i ({ e with read := [] } : En) L :=
  ⟨h.bk.clear, h.ah.to rfl rfl, h.z0, h.ll, h.ls, h.wy, h.ze⟩
theorem kd_nn (p : List UInt8) : 0 ≤ kd p := Int.natCast_nonneg _
theorem fourN_lt (b : List UInt8) : fourN b < 4294967296 := by
  have h0 := u8lt (b.getD 0 0)
  have h1 := u8lt (b.getD 1 0)
  have h2 := u8lt (b.getD 2 0)
  have h3 := u8lt (b.getD 3 0)
  unfold fourN; omega
theorem nb_four (b : List UInt8) : nb ((fourN b : Nat) : Int) = false := by
  have := fourN_lt b
  unfold nb
  simp only [Bool.or_eq_false_iff, decide_eq_false_iff_not]
  omega
theorem l2_ln (p : List UInt8) : ((l2 p : Nat) : Int) = ln p := by
  unfold l2 ln
  rw [List.getD_eq_getElem?_getD, List.getD_eq_getElem?_getD, List.getElem?_take, List.getElem?_take, List.getElem?_drop, List.getElem?_drop, List.getD_eq_getElem?_getD, List.getD_eq_getElem?_getD]
  simp
theorem pkt_bad (p : List UInt8) : (pkt (kd p) (nu p) (to p) (bd p) == []) = rpBad (kd p) (nu p) (bd p) := by
  rw [pkt_eq]
  unfold rpkt
  rw [show nb (nu p) = false from nb_four _, show nb (to p) = false from nb_four _]
  cases rpBad (kd p) (nu p) (bd p) <;> rfl
theorem rgotN_eq (e : En) (p : List UInt8) : rgotN e p = gotN e p := by
  have hk := kd_nn p
  unfold rgotN gotN
  split
  · rfl
  · split
    · rfl
    · rw [pkt_bad, l2_ln]
      by_cases h3 : kd p = 0 ∨ kd p = 1
      · have e1 : decide (1 < kd p) = false := by simp; omega
        have e2 : (kd p != 0 && kd p != 1) = false := by rcases h3 with h | h <;> rw [h] <;> rfl
        rw [e1, e2, if_neg Bool.false_ne_true, if_neg Bool.false_ne_true]
        by_cases h4 : ((bd p).length : Int) = ln p
        · have e3 : (ln p != ((bd p).length : Int)) = false := by simp [h4]
          have e4 : (((bd p).length : Int) != ln p) = false := by simp [h4]
          rw [e3, e4, Bool.false_or, if_neg Bool.false_ne_true]
          have e5 : rpBad (kd p) (nu p) (bd p) = (kd p == 0 && (((bd p).length : Int) == 0 || decide ((1024 : Int) < (bd p).length)) || kd p == 1 && (((bd p).length : Int) != 0 || nu p != 0)) := by
            have b0 : (bd p == []) = (((bd p).length : Int) == 0) := by
              cases bd p with
              | nil => rfl
              | cons x l =>
                show false = _
                symm
                simp only [beq_eq_false_iff_ne, List.length_cons]
                omega
            have b1 : (bd p != []) = (((bd p).length : Int) != 0) := by rw [bne, bne, b0]
            unfold rpBad
            rw [b0, b1]
            rcases h3 with h | h
            · rw [h]
              simp [Bool.or_comm]
            · rw [h]
              by_cases h5 : (bd p).length = 0
              · simp [h5]
              · simp [h5]
          rw [e5]
        · have e3 : (ln p != ((bd p).length : Int)) = true := by simp; omega
          have e4 : (((bd p).length : Int) != ln p) = true := by simp; omega
          rw [e3, e4, Bool.true_or, if_pos rfl, if_pos rfl]
      · have e1 : decide (1 < kd p) = true := by simp; omega
        have e2 : (kd p != 0 && kd p != 1) = true := by simp; omega
        rw [e1, e2, if_pos rfl, if_pos rfl]
theorem gotN_most {e : En} {p : List UInt8} (h : gotN e p = 0) : e.most ≠ 0 := by
  intro h0
  unfold gotN at h
  rw [if_pos (by simp [h0])] at h
  cases h
theorem gotN_data {e : En} {p : List UInt8} (hg : gotN e p = 0) (hk : (kd p == 0) = true) : nu p ≤ e.exp + 15 ∧ bd p ≠ [] := by
  unfold gotN at hg
  repeat' split at hg
  all_goals first | (exfalso; omega) | skip
  rename_i h1 h2 h3 h4 h5 hx
  have hk' : (kd p == 0) = true := hk
  simp [hk'] at hx
  refine ⟨by omega, fun hn => ?_⟩
  rw [hn] at h5
  simp [hk'] at h5
theorem Jn.got {i : Nat} {e : En} {L : List Pc} (h : Jn i e L) {p : List UInt8} (hp : p.length ≤ 3000) (hg : gotN e p = 0) :
    ∃ L', rpv (rgE e L p).1 (rgE e L p).2 = rpv (e.gotE p) L' ∧ Jn (i + 1) (e.gotE p) L' := by
  have hB := h.bk.got hp hg
  have hm := gotN_most hg
  have hbl : (bd p).length ≤ 3000 := by rw [bd, List.length_drop]; omega
  have hwA : Wy (e.ackn (to p)).way (e.ackn (to p)).next := h.wy.sub (List.dropWhile_sublist _)
  have hakl : (e.ackn (to p)).way.length ≤ 16 := Nat.le_trans (List.dropWhile_sublist _).length_le h.bk.w
  have hasA : As (e.ackn (to p)) L := h.ah.to rfl rfl
  have hll := h.ll
  have hls := h.ls
  unfold rgE
  rw [rack_eq h.wy]
  unfold En.gotE at hB ⊢
  by_cases hk : (kd p == 0) = true
  · rw [if_pos hk] at hB ⊢
    rw [if_pos hk]
    obtain ⟨g1, g2⟩ := gotN_data hg hk
    obtain ⟨L', q1, q2, q3, q4, q5⟩ := as_took (n := nu p) (b := bd p) (e.aside) hasA h.z0 h.bk.a16 g1 g2
    have q1' : tkL ((lay e L (nu p) (bd p)).length + 1) (e.ackn (to p)).acked (lay e L (nu p) (bd p)) = (((e.ackn (to p)).took (nu p) (bd p)).wa e.aside, L') := q1
    simp only
    rw [q1']
    obtain ⟨w1, w2, w3, w4⟩ := took_same (e.ackn (to p)) (nu p) (bd p)
    have i1 := numL_numd 17 ((e.ackn (to p)).took (nu p) (bd p)) (by rw [w2]; exact h.bk.m0) (by rw [w1]; exact hakl)
    refine ⟨L', ?_, hB, q2.to i1.aside i1.exp, by rw [show (En.number _).aside = _ from i1.aside]; exact q5, by omega, by omega, ?_, fun h2 => ?_⟩
    · rw [En.number, numL_wa]; rfl
    · exact wy_num 17 _ (by rw [w1, w4]; exact hwA)
    · rw [show (En.number _).most = _ from i1.most, w2] at h2
      exact absurd h2 hm
  · rw [if_neg hk] at hB ⊢
    rw [if_neg hk]
    have i1 := numL_numd 17 (e.ackn (to p)) h.bk.m0 hakl
    refine ⟨L, rfl, hB, hasA.to i1.aside i1.exp, by rw [show (En.number _).aside = _ from i1.aside]; exact h.z0, by omega, by omega, wy_num 17 _ hwA, fun h2 => ?_⟩
    rw [show (En.number _).most = _ from i1.most] at h2
    exact absurd h2 hm
end Go.Proofs.Lk
