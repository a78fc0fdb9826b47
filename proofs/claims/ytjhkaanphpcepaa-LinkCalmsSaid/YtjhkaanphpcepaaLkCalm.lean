/- Behind whatever was: when all comes over for a while, all has come. Plain. -/
import Derived.Test.YtjhkaanphpcepaaLkStep
set_option maxRecDepth 100000
set_option linter.unusedSimpArgs false
set_option linter.unusedVariables false
namespace Go.Proofs.Lk
open Go.Pv
/-- All of several packets come. -/
def getsE (Y : En) (l : List (List UInt8)) : En := l.foldl En.gotE Y
/-- Packets of the pieces from k on, so many. -/
def pks (P : List (List UInt8)) (told k : Nat) : Nat → List (List UInt8)
  | 0 => []
  | m + 1 => pkt 0 (k : Int) (told : Int) (P.getD k []) :: pks P told (k + 1) m
def Due (e : En) : Prop := ∀ p ∈ e.way, p.due = true
def A16 (e : En) : Prop := ∀ j, 16 ≤ j → e.aside j = []
theorem tick_due (e : En) : Due e.tick := by
  intro p hp
  obtain ⟨q, hq, rfl⟩ := List.mem_map.1 hp
  rfl
theorem shL_a16 : ∀ (k : Nat) (e : En), A16 e → A16 (shL k e)
  | 0, e, h => h
  | k + 1, e, h => by
    unfold shL
    split
    · exact shL_a16 k e.shift (fun j hj => h (j + 1) (by omega))
    · exact h
theorem numL_aside : ∀ (k : Nat) (e : En), (numL k e).aside = e.aside
  | 0, e => rfl
  | k + 1, e => by
    unfold numL
    split
    · rw [numL_aside k e.num1]; rfl
    · rfl
theorem got_a16 {e : En} (h : A16 e) {t : List UInt8} (hg : gotN e t = 0) : A16 (e.gotE t) := by
  unfold En.gotE
  split
  · rename_i hk
    have hr : nu t ≤ e.exp + 15 := by
      unfold gotN at hg
      repeat' split at hg
      all_goals first | (exfalso; omega) | skip
      rename_i hx
      have hk' : (kd t == 0) = true := hk
      simp [hk'] at hx
      omega
    intro j hj
    rw [show ((e.ackn (to t)).took (nu t) (bd t)).number.aside = ((e.ackn (to t)).took (nu t) (bd t)).aside from numL_aside 17 _]
    unfold En.took
    split
    · exact h j hj
    · rename_i h1
      have h1a : ¬ (nu t < (e.ackn (to t)).exp) := by simpa using h1
      have h1b : ¬ (nu t < e.exp) := h1a
      split
      · exact h j hj
      · refine shL_a16 17 _ (fun j hj => ?_) j hj
        show (if j = (nu t - e.exp).toNat then bd t else e.aside j) = []
        rw [if_neg (by omega)]
        exact h j hj
  · intro j hj
    rw [show (e.ackn (to t)).number.aside = (e.ackn (to t)).aside from numL_aside 17 _]
    exact h j hj
theorem got_due {e : En} {t : List UInt8} (hm : 0 ≤ e.most) (hw : e.way.length ≤ 16) (h : Due (e.ackn (to t))) : Due (e.gotE t) := by
  have ha : (e.ackn (to t)).way.length ≤ 16 := Nat.le_trans (List.dropWhile_sublist _).length_le hw
  unfold En.gotE
  split
  · obtain ⟨q1, q2, q3, q4⟩ := took_same (e.ackn (to t)) (nu t) (bd t)
    exact (numL_numd 17 ((e.ackn (to t)).took (nu t) (bd t)) (by rw [q2]; exact hm) (by rw [q1]; exact ha)).due (by rw [q1]; exact h)
  · exact (numL_numd 17 (e.ackn (to t)) hm ha).due h
theorem ackn_due {e : En} {n : Int} (h : Due e) : Due (e.ackn n) := fun p hp => h p ((List.dropWhile_sublist _).subset hp)
theorem took_ack (e : En) (n : Int) (b : List UInt8) : (e.took n b).ack = true := by
  have hs : ∀ (k : Nat) (e : En), (shL k e).ack = e.ack := by
    intro k
    induction k with
    | zero => intro e; rfl
    | succ k ih =>
      intro e
      unfold shL
      split
      · rw [ih]; rfl
      · rfl
  unfold En.took
  split
  · rfl
  · split
    · rfl
    · rw [hs]; rfl
theorem got_ack {e : En} {t : List UInt8} (hm : 0 ≤ e.most) (hw : e.way.length ≤ 16) : (e.gotE t).ack = (e.ack || kd t == 0) := by
  have ha : (e.ackn (to t)).way.length ≤ 16 := Nat.le_trans (List.dropWhile_sublist _).length_le hw
  unfold En.gotE
  cases hk : (kd t == 0)
  · rw [if_neg Bool.false_ne_true, show (e.ackn (to t)).number.ack = (e.ackn (to t)).ack from (numL_numd 17 (e.ackn (to t)) hm ha).ack]
    show e.ack = (e.ack || false)
    rw [Bool.or_false]
  · obtain ⟨q1, q2, q3, q4⟩ := took_same (e.ackn (to t)) (nu t) (bd t)
    rw [if_pos rfl, show ((e.ackn (to t)).took (nu t) (bd t)).number.ack = ((e.ackn (to t)).took (nu t) (bd t)).ack from (numL_numd 17 _ (by rw [q2]; exact hm) (by rw [q1]; exact ha)).ack, took_ack, Bool.or_true]
/-- Sizes by what was sent. -/
theorem flat_le {P : List (List UInt8)} (h : ∀ q ∈ P, q ≠ [] ∧ q.length ≤ 1024) : P.length ≤ P.flatten.length := by
  induction P with
  | nil => simp
  | cons q P ih =>
    have h1 := ih (fun x hx => h x (List.mem_cons_of_mem _ hx))
    have h2 := List.length_pos_iff.2 (h q (List.mem_cons_self ..)).1
    simp only [List.flatten_cons, List.length_cons, List.length_append]
    omega
theorem Dir.plen {X Y P b e sent came T} (h : Dir X Y P b e sent came T) : P.length + X.rest.length ≤ sent.length := by
  have h1 := flat_le h.ne
  have h2 := congrArg List.length h.sent
  rw [List.length_append] at h2
  omega
theorem Dir.rlen {X Y P b e sent came T} (h : Dir X Y P b e sent came T) : came.length + Y.read.length ≤ sent.length := by
  have h1 := congrArg List.length h.came
  have h2 := congrArg List.length h.sent
  rw [List.length_append] at h1 h2
  have h3 : (P.take e).flatten.length ≤ P.flatten.length := by
    conv => rhs; rw [← List.take_append_drop e P, List.flatten_append, List.length_append]
    omega
  omega
/-- Both ways. -/
structure Two (A B : En) (S R C D : List UInt8) (P : List (List UInt8)) (b e : Nat) (Q : List (List UInt8)) (b' e' : Nat) : Prop where
  x : Dir A B P b e S C []
  y : Dir B A Q b' e' R D []
  aA : A16 A
  aB : A16 B
  fA : Full A
  fB : Full B
  s : S.length ≤ 2000
  r : R.length ≤ 2000
theorem Two.ok {A B S R C D P b e Q b' e'} (h : Two A B S R C D P b e Q b' e') : A.Ok := by
  have h1 := h.x.plen
  have h2 := h.y.plen
  have h3 := h.y.rlen
  have hs := h.s
  have hr := h.r
  have hm := h.x.m0
  have hm1 := h.x.m1
  have hn := h.x.next
  have he := h.y.exp
  have hel := h.y.el
  refine ⟨by omega, by omega, h.x.w16, fun p hp => ?_, by omega, by omega, by omega, by omega, by omega, h.aA, fun j => ?_, by omega⟩
  · obtain ⟨i, h4, h5, h6⟩ := h.x.way.mem p hp
    rw [h6]
    have : (P.drop b).getD i [] ∈ P := by
      rw [List.getD_eq_getElem?_getD, List.getElem?_eq_getElem h4]
      exact List.mem_of_mem_drop (List.getElem_mem _)
    have := (h.x.ne _ this).2
    omega
  · rcases h.y.asd j with h4 | ⟨h4, h5⟩
    · rw [h4]; simp
    · rw [h5, List.getD_eq_getElem?_getD, List.getElem?_eq_getElem h4]
      have := (h.y.ne _ (List.getElem_mem h4)).2
      simp only [Option.getD_some]
      omega
theorem Two.turn {A B S R C D P b e Q b' e'} (h : Two A B S R C D P b e Q b' e') : Two B A R S D C Q b' e' P b e := ⟨h.y, h.x, h.aB, h.aA, h.fB, h.fA, h.r, h.s⟩
theorem pkt0_kd {n a : Nat} {c : List UInt8} (hn : n < 4294967296) (ha : a < 4294967296) (h0 : c ≠ []) (h1 : c.length ≤ 1024) : kd (pkt 0 (n : Int) (a : Int) c) = 0 := (pkt0_read hn ha h0 h1).kd
/-- Pieces come, one behind the other. -/
theorem Two.gets {A : En} {S R C D : List UInt8} {P : List (List UInt8)} {b e' : Nat} : ∀ (m : Nat) {B : En} {e k : Nat} {Q : List (List UInt8)} {b' : Nat}, Two A B S R C D P b e Q b' e' → k + m = P.length → k ≤ e →
    ∃ e2 Q2, e ≤ e2 ∧ k + m ≤ max e2 k ∧ Two A (getsE B (pks P e' k m)) S R C D P b e2 (Q ++ Q2) (if m = 0 then b' else max b' e') e' ∧ (getsE B (pks P e' k m)).ack = (B.ack || decide (0 < m)) ∧
      (Due B → Due (getsE B (pks P e' k m))) ∧ (0 < m → e' = Q.length → Due (getsE B (pks P e' k m))) ∧ (∀ (i : Nat) (t : List UInt8), (pks P e' k m)[i]? = some t → gotN (getsE B ((pks P e' k m).take i)) t = 0) ∧ (∀ i, (getsE B ((pks P e' k m).take i)).Ok)
  | 0, B, e, k, Q, b', h, hkm, hke => ⟨e, [], Nat.le_refl _, by omega, by rw [List.append_nil]; exact h, by simp [getsE, pks], fun hd => hd, fun h0 => absurd h0 (Nat.lt_irrefl _), fun i t ht => by simp [pks] at ht, fun i => by simp only [pks, List.take_nil]; exact h.turn.ok⟩
  | m + 1, B, e, k, Q, b', h, hkm, hke => by
    have hkP : k < P.length := by omega
    have h1 := h.x.plen
    have h2 := h.y.plen
    have hs := h.s
    have hr := h.r
    have hel' := h.y.el
    obtain ⟨g1, e2, Q2, g2, g3, g4, g5⟩ := h.x.got0 h.y (told := e') (Nat.le_refl _) hkP h.aB (by omega) (by omega)
    have hq : P.getD k [] ∈ P := by
      rw [List.getD_eq_getElem?_getD, List.getElem?_eq_getElem hkP]
      exact List.getElem_mem _
    obtain ⟨ne, nl⟩ := h.x.ne _ hq
    have R0 := pkt0_read (n := k) (a := e') (b := P.getD k []) (by omega) (by omega) ne nl
    obtain ⟨t, ht⟩ : ∃ t, t = pkt 0 (k : Int) (e' : Int) (P.getD k []) := ⟨_, rfl⟩
    rw [← ht] at g1 g4 g5 R0
    have hm0 := h.y.m0
    have hT : Two A (B.gotE t) S R C D P b e2 (Q ++ Q2) (max b' e') e' := ⟨g4, g5, h.aA, got_a16 h.aB g1, h.fA, got_full _ _ h.y.w16, h.s, h.r⟩
    have hb' : max b' e' = e' := by have := h.y.be; omega
    obtain ⟨e3, Q3, k1, k2, k3, k4, k5, k6, k7, k8⟩ := hT.gets m (k := k + 1) (by omega) (g3 hke)
    have hstep : getsE B (pks P e' k (m + 1)) = getsE (B.gotE t) (pks P e' (k + 1) m) := by rw [pks, ← ht]; rfl
    rw [hstep]
    refine ⟨e3, Q2 ++ Q3, by omega, by omega, ?_, ?_, ?_, ?_, ?_, fun i => ?_⟩
    · rw [if_neg (by omega), ← List.append_assoc]
      have : (if m = 0 then max b' e' else max (max b' e') e') = max b' e' := by split <;> omega
      rw [this] at k3
      exact k3
    · rw [k4, got_ack (by omega) h.y.w16, R0.kd]
      simp
    · intro hd
      exact k5 (got_due (by omega) h.y.w16 (ackn_due hd))
    · intro _ he
      refine k5 (got_due (by omega) h.y.w16 ?_)
      rw [R0.to]
      have hw := h.y.way.ack (told := e') (by rw [List.length_drop]; have := h.y.bl; omega)
      have h0 : (Q.drop b').drop (e' - b') = [] := by
        apply List.drop_eq_nil_of_le
        rw [List.length_drop]; omega
      rw [h0] at hw
      have hl := hw.len
      intro p hp
      have : ((B.ackn (e' : Int)).way).length = 0 := hl
      rw [List.length_eq_zero_iff] at this
      rw [this] at hp
      cases hp
    · intro i u hu
      cases i with
      | zero =>
        rw [pks, ← ht] at hu
        simp at hu
        subst hu
        exact g1
      | succ i =>
        rw [pks, ← ht, List.take_succ_cons]
        rw [pks, List.getElem?_cons_succ] at hu
        exact k7 i u hu
    · cases i with
      | zero => exact h.turn.ok
      | succ i =>
        rw [pks, ← ht, List.take_succ_cons]
        exact k8 i
/-- An acknowledgement comes. -/
theorem Two.getA {A B : En} {S R C D : List UInt8} {P : List (List UInt8)} {b e : Nat} {Q : List (List UInt8)} {b' e' : Nat} (h : Two A B S R C D P b e Q b' e') :
    ∃ Q2, Two A (B.gotE (pkt 1 0 (e' : Int) [])) S R C D P b e (Q ++ Q2) (max b' e') e' ∧ (B.gotE (pkt 1 0 (e' : Int) [])).ack = B.ack ∧ (Due B → Due (B.gotE (pkt 1 0 (e' : Int) []))) ∧ (e' = Q.length → Due (B.gotE (pkt 1 0 (e' : Int) []))) ∧ gotN B (pkt 1 0 (e' : Int) []) = 0 := by
  have h1 := h.x.plen
  have h2 := h.y.plen
  have hs := h.s
  have hr := h.r
  have hel' := h.y.el
  obtain ⟨g1, Q2, g4, g5⟩ := h.x.got1 h.y (told := e') (Nat.le_refl _) (by omega) (by omega)
  have R0 := pkt1_read (a := e') (by omega)
  have hm0 := h.y.m0
  generalize pkt 1 0 (e' : Int) [] = t at *
  refine ⟨Q2, ⟨g4, g5, h.aA, got_a16 h.aB g1, h.fA, got_full _ _ h.y.w16, h.s, h.r⟩, ?_, fun hd => got_due (by omega) h.y.w16 (ackn_due hd), fun he => ?_, g1⟩
  · rw [got_ack (by omega) h.y.w16, R0.kd]
    show (B.ack || false) = _
    rw [Bool.or_false]
  · refine got_due (by omega) h.y.w16 ?_
    rw [R0.to]
    have hw := h.y.way.ack (told := e') (by rw [List.length_drop]; have := h.y.bl; omega)
    have h0 : (Q.drop b').drop (e' - b') = [] := by
      apply List.drop_eq_nil_of_le
      rw [List.length_drop]; omega
    rw [h0] at hw
    have hl := hw.len
    intro p hp
    have : ((B.ackn (e' : Int)).way).length = 0 := hl
    rw [List.length_eq_zero_iff] at this
    rw [this] at hp
    cases hp
/-- What is due, when all under way is. -/
theorem dueStr_pks {x : Int} {told : Nat} {X : En} (hx : X.exp = (told : Int)) {P : List (List UInt8)} : ∀ {w : List Pc} {k : Nat}, WayIs k w (P.drop k) → (∀ p ∈ w, p.due = true) → dueStr X w = pks P told k w.length
  | [], k, _, _ => rfl
  | p :: w, k, h, hd => by
    have hkP : k < P.length := by
      rcases Nat.lt_or_ge k P.length with h1 | h1
      · exact h1
      · rw [List.drop_eq_nil_of_le h1] at h
        cases h
    rw [List.drop_eq_getElem_cons hkP] at h
    obtain ⟨h1, h2, h3⟩ := h
    have ih := dueStr_pks (X := X) (x := x) hx h3 (fun q hq => hd q (List.mem_cons_of_mem _ hq))
    have hp := hd p (List.mem_cons_self ..)
    show dueStr X (p :: w) = pkt 0 (k : Int) (told : Int) (P.getD k []) :: pks P told (k + 1) w.length
    rw [← ih]
    simp only [dueStr]
    rw [List.filter_cons_of_pos (by simpa using hp), List.map_cons, h1, h2, hx, List.getD_eq_getElem?_getD, List.getElem?_eq_getElem hkP]
    rfl
/-- All that is due comes over, there. -/
def comes (X Y : En) : En := getsE Y X.dueP
theorem due_way_nil {X : En} (h : X.way = []) : X.dueP = if X.ack = true then [pkt 1 0 X.exp []] else [] := by
  unfold En.dueP
  rw [h]
  cases hx : X.ack
  · rw [if_neg (by simp)]; rfl
  · rw [if_pos ⟨rfl, rfl⟩]; rfl
/-- One half of a round: X sends what is due, and all of it comes. -/
theorem Two.half {A B : En} {S R C D : List UInt8} {P : List (List UInt8)} {b e : Nat} {Q : List (List UInt8)} {b' e' : Nat} (h : Two A B S R C D P b e Q b' e') (hd : Due A) (hB : Due B ∨ (A.ack = true ∧ e' = Q.length)) :
    ∃ Q2 b2, Two A.due (comes A B) S R C D P b P.length (Q ++ Q2) b2 e' ∧ Due (comes A B) ∧ (comes A B).ack = (B.ack || decide (A.way ≠ [])) ∧ (A.way ≠ [] ∨ A.ack = true → b2 = e') ∧ (A.way = [] → A.ack = false → b2 = b' ∧ Q2 = [] ∧ comes A B = B) ∧
      (∀ (i : Nat) (t : List UInt8), A.dueP[i]? = some t → gotN (getsE B (A.dueP.take i)) t = 0) ∧ (∀ i, (getsE B (A.dueP.take i)).Ok) := by
  have hel := h.x.el
  have hbe := h.x.be
  have hbl := h.x.bl
  have hx : A.exp = (e' : Int) := h.y.exp
  have hwl := h.x.way.len
  have hb'e := h.y.be
  rw [List.length_drop] at hwl
  have toDue : ∀ {B' : En} {e2 : Nat} {Q' : List (List UInt8)} {b2 : Nat}, Two A B' S R C D P b e2 Q' b2 e' → Two A.due B' S R C D P b e2 Q' b2 e' := fun {B' e2 Q' b2} ht =>
    ⟨ht.x.left rfl rfl (WayIs.map (f := fun p => { p with due := false }) (fun _ => rfl) (fun _ => rfl) ht.x.way) rfl (fun t ht => by cases ht), ht.y.right rfl rfl rfl, ht.aA, ht.aB, due_full ht.fA, ht.fB, ht.s, ht.r⟩
  by_cases hw : A.way = []
  · have hl0 : A.way.length = 0 := by rw [hw]; rfl
    have heP : e = P.length := by omega
    cases ha : A.ack
    · have hp : A.dueP = [] := by rw [due_way_nil hw, ha, if_neg Bool.false_ne_true]
      have hh : comes A B = B := by rw [comes, hp]; rfl
      rw [hh]
      have hDB : Due B := by
        rcases hB with h1 | ⟨h1, -⟩
        · exact h1
        · rw [ha] at h1; cases h1
      refine ⟨[], b', by rw [List.append_nil, ← heP]; exact toDue h, hDB, by simp [hw], fun h1 => ?_, fun _ _ => ⟨rfl, rfl, rfl⟩, fun i t ht => by rw [hp] at ht; simp at ht, fun i => by rw [hp, List.take_nil]; exact h.turn.ok⟩
      rcases h1 with h1 | h1
      · exact absurd hw h1
      · cases h1
    · have hp : A.dueP = [pkt 1 0 (e' : Int) []] := by rw [due_way_nil hw, ha, if_pos rfl, hx]
      have hh : comes A B = B.gotE (pkt 1 0 (e' : Int) []) := by rw [comes, hp]; rfl
      obtain ⟨Q2, g1, g2, g3, g4, g5⟩ := h.getA
      rw [hh]
      refine ⟨Q2, max b' e', by rw [← heP]; exact toDue g1, ?_, by rw [g2]; simp [hw], fun _ => by omega, fun _ h2 => (by cases h2), fun i t ht => ?_, fun i => ?_⟩
      · rcases hB with h1 | ⟨-, h1⟩
        · exact g3 h1
        · exact g4 h1
      · rw [hp] at ht
        cases i with
        | zero => simp at ht; subst ht; exact g5
        | succ i => simp at ht
      · rw [hp]
        cases i with
        | zero => exact h.turn.ok
        | succ i =>
          rw [List.take_succ_cons, List.take_nil]
          exact g1.turn.ok
  · have hl0 : 0 < A.way.length := List.length_pos_iff.2 hw
    have hds := dueStr_pks (x := 0) hx h.x.way hd
    have hp : A.dueP = pks P e' b A.way.length := by
      unfold En.dueP
      rw [hds, if_neg]
      rintro ⟨h1, -⟩
      have : ∀ m, 0 < m → pks P e' b m ≠ [] := fun m hm => by cases m with | zero => omega | succ m => simp [pks]
      exact this _ hl0 h1
    obtain ⟨e2, Q2, g1, g2, g3, g4, g5, g6, g7, g8⟩ := h.gets A.way.length (k := b) (by omega) hbe
    have he2 : e2 = P.length := by
      have := g3.x.el
      omega
    subst he2
    have hh : comes A B = getsE B (pks P e' b A.way.length) := by rw [comes, hp]
    rw [hh]
    rw [if_neg (by omega)] at g3
    refine ⟨Q2, max b' e', toDue g3, ?_, by rw [g4]; simp [hw, hl0], fun _ => by omega, fun h1 => absurd h1 hw, fun i t ht => ?_, fun i => by rw [hp]; exact g8 i⟩
    · rcases hB with h1 | ⟨-, h1⟩
      · exact g5 h1
      · exact g6 hl0 h1
    · rw [hp] at ht ⊢
      exact g7 i t ht
/-- A round: all that is due comes over, there and back. -/
def overB (A B : En) : En := (comes A B).due
def overA (A B : En) : En := comes (comes A B) A.due
/-- What holds behind a round: k rounds ago. -/
structure Calm (k : Nat) (A B : En) (S R C D : List UInt8) : Prop where
  d : ∃ P b Q b', Two A B S R C D P b b Q b' Q.length ∧ (A.rest ≠ [] → 16 * k ≤ P.length) ∧ (B.rest ≠ [] → 16 * k ≤ Q.length)
  due : Due A
  ack : B.ack = false
  ackA : B.way ≠ [] → A.ack = true
theorem flat_nil {P X : List (List UInt8)} {r s : List UInt8} (h1 : P.flatten = s) (h2 : (P ++ X).flatten ++ r = s) : r = [] := by
  rw [List.flatten_append, h1, List.append_assoc] at h2
  have := congrArg List.length h2
  simp only [List.length_append] at this
  exact List.eq_nil_of_length_eq_zero (by omega)
theorem nz {α : Type} {l : List α} (h : l ≠ []) : 0 < l.length := List.length_pos_iff.2 h
/-- Nothing goes wrong in a round. -/
structure OvOk (A B : En) : Prop where
  a : A.Ok
  g1 : ∀ (i : Nat) (t : List UInt8), A.dueP[i]? = some t → gotN (getsE B (A.dueP.take i)) t = 0
  o1 : ∀ i, (getsE B (A.dueP.take i)).Ok
  l1 : ∀ t ∈ A.dueP, t.length ≤ 3000
  g2 : ∀ (i : Nat) (t : List UInt8), (comes A B).dueP[i]? = some t → gotN (getsE A.due ((comes A B).dueP.take i)) t = 0
  o2 : ∀ i, (getsE A.due ((comes A B).dueP.take i)).Ok
  l2 : ∀ t ∈ (comes A B).dueP, t.length ≤ 3000
theorem Dir.dueLen {X Y P b e sent came T} (h : Dir X Y P b e sent came T) (hx : 0 ≤ X.exp) : ∀ t ∈ X.dueP, t.length ≤ 3000 := fun t ht => pkt_len ((h.due hx).pk t (List.mem_append_right _ ht)) h.ne
/-- A round, from any state in which all under way is due. -/
theorem Two.round {A B : En} {S R C D : List UInt8} {P : List (List UInt8)} {b e : Nat} {Q : List (List UInt8)} {b' e' : Nat} (h : Two A B S R C D P b e Q b' e') (hd : Due A) (hB : Due B ∨ (A.ack = true ∧ e' = Q.length)) (hBa : A.way = [] → A.ack = false → B.ack = false ∨ True) :
    ∃ P2 Q2 b2, Two (overA A B) (overB A B) S R C D (P ++ P2) P.length P.length (Q ++ Q2) b2 (Q ++ Q2).length ∧ Due (overA A B) ∧ (overB A B).ack = false ∧ ((overB A B).way ≠ [] → (overA A B).ack = true) ∧
      ((overB A B).way = [] → (overA A B).ack = false) ∧ (A.way ≠ [] ∨ A.ack = true → b2 = e') ∧ (A.way = [] → A.ack = false → b2 = b' ∧ Q2 = []) ∧
      OvOk A B := by
  obtain ⟨Q2, b2, g1, g2, g3, g4, g5, g6, g7⟩ := h.half hd hB
  have hAd : A.due.ack = false := rfl
  have hwA : A.due.way = [] ↔ A.way = [] := by
    show dueL A.way = [] ↔ _
    constructor
    · intro h1
      have := congrArg List.length h1
      rw [dueL_len] at this
      exact List.eq_nil_of_length_eq_zero this
    · intro h1; rw [h1]; rfl
  -- back
  have hor : Due A.due ∨ ((comes A B).ack = true ∧ P.length = P.length) := by
    by_cases hw : A.way = []
    · left
      intro p hp
      rw [hwA.2 hw] at hp
      cases hp
    · right
      refine ⟨by rw [g3]; simp [hw], rfl⟩
  obtain ⟨P2, b3, k1, k2, k3, k4, k5, k6, k7⟩ := g1.turn.half g2 hor
  have hbP : b3 = P.length := by
    by_cases h1 : (comes A B).way ≠ [] ∨ (comes A B).ack = true
    · exact k4 h1
    · have hw1 : (comes A B).way = [] := by
        rcases Decidable.em ((comes A B).way = []) with h2 | h2
        · exact h2
        · exact absurd (.inl h2) h1
      have ha1 : (comes A B).ack = false := by
        cases h2 : (comes A B).ack
        · rfl
        · exact absurd (.inr h2) h1
      obtain ⟨h2, -, -⟩ := k5 hw1 ha1
      have hwn : A.way = [] := by
        rcases Decidable.em (A.way = []) with h3 | h3
        · exact h3
        · rw [g3] at ha1; simp [h3] at ha1
      have hl := h.x.way.len
      rw [hwn, List.length_drop] at hl
      have hbl := h.x.bl
      have : A.way.length = 0 := by rw [hwn]; rfl
      simp only [List.length_nil] at hl
      rw [h2]; omega
  rw [hbP] at k1
  have hO := k1.turn
  have hwB : (overB A B).way = [] ↔ (comes A B).way = [] := by
    show dueL (comes A B).way = [] ↔ _
    constructor
    · intro h1
      have := congrArg List.length h1
      rw [dueL_len] at this
      exact List.eq_nil_of_length_eq_zero this
    · intro h1; rw [h1]; rfl
  refine ⟨P2, Q2, b2, hO, k2, rfl, fun hw => ?_, fun hw => ?_, g4, fun h1 h2 => ?_, ?_⟩
  · show (comes (comes A B) A.due).ack = true
    rw [k3]
    have : (comes A B).way ≠ [] := fun h1 => hw (hwB.2 h1)
    simp [this]
  · show (comes (comes A B) A.due).ack = false
    rw [k3, hwB.1 hw, hAd]
    simp
  · exact ⟨(g5 h1 h2).1, (g5 h1 h2).2.1⟩
  · have hx1 : A.exp = (e' : Int) := h.y.exp
    have hx2 : (comes A B).exp = (P.length : Int) := g1.x.exp
    exact ⟨h.ok, g6, g7, h.x.dueLen (by omega), k6, k7, g1.y.dueLen (by omega)⟩
theorem rest_nil {A B A' B' : En} {P P2 : List (List UInt8)} {b e b2 e2 : Nat} {S C T T' : List UInt8 } {x y} (h : Dir A B P b e S C x) (h2 : Dir A' B' (P ++ P2) b2 e2 S C y) (hr : A.rest = []) : A'.rest = [] := by
  have h3 := h.sent
  rw [hr, List.append_nil] at h3
  exact flat_nil h3 h2.sent
/-- The first round, behind ticks. -/
theorem Two.first {A B : En} {S R C D : List UInt8} {P : List (List UInt8)} {b e : Nat} {Q : List (List UInt8)} {b' e' : Nat} (h : Two A B S R C D P b e Q b' e') (hd : Due A) (hB : Due B) :
    Calm 0 (overA A B) (overB A B) S R C D ∧ OvOk A B := by
  obtain ⟨P2, Q2, b2, g1, g2, g3, g4, -, -, -, g9⟩ := h.round hd (.inl hB) (fun _ _ => .inr trivial)
  exact ⟨⟨⟨_, _, _, _, g1, fun _ => by omega, fun _ => by omega⟩, g2, g3, g4⟩, g9⟩
/-- One round more. -/
theorem Calm.next {k : Nat} {A B : En} {S R C D : List UInt8} (h : Calm k A B S R C D) : Calm (k + 1) (overA A B) (overB A B) S R C D ∧ OvOk A B ∧
    (S.length ≤ 16 * k → R.length ≤ 16 * k → (overA A B).way = [] ∧ (overB A B).way = [] ∧ (overA A B).ack = false ∧ (overB A B).ack = false ∧ C ++ (overB A B).read = S ∧ D ++ (overA A B).read = R) := by
  obtain ⟨P, b, Q, b', h1, hp, hq⟩ := h.d
  have hB : Due B ∨ (A.ack = true ∧ Q.length = Q.length) := by
    by_cases hw : B.way = []
    · left; intro p hm; rw [hw] at hm; cases hm
    · exact .inr ⟨h.ackA hw, rfl⟩
  obtain ⟨P2, Q2, b2, g1, g2, g3, g4, g5, g6, g7, g9⟩ := h1.round h.due hB (fun _ _ => .inr trivial)
  have hwA := g1.x.way.len
  have hwB := g1.y.way.len
  rw [List.length_drop, List.length_append] at hwA hwB
  have hbl2 := g1.y.bl
  rw [List.length_append] at hbl2
  have hlA := h1.x.way.len
  have hlB := h1.y.way.len
  rw [List.length_drop] at hlA hlB
  have hb2 : b2 = Q.length ∨ (B.way = [] ∧ A.way = [] ∧ A.ack = false ∧ b2 = b' ∧ Q2 = []) := by
    by_cases h2 : A.way ≠ [] ∨ A.ack = true
    · exact .inl (g6 h2)
    · right
      have hw : A.way = [] := by
        rcases Decidable.em (A.way = []) with h3 | h3
        · exact h3
        · exact absurd (.inl h3) h2
      have ha : A.ack = false := by
        cases h3 : A.ack
        · rfl
        · exact absurd (.inr h3) h2
      have hbw : B.way = [] := by
        rcases Decidable.em (B.way = []) with h3 | h3
        · exact h3
        · rw [h.ackA h3] at ha; cases ha
      exact ⟨hbw, hw, ha, g7 hw ha⟩
  have hb'l := h1.y.bl
  have hbl1 := h1.x.bl
  have hb2q : b2 = Q.length := by
    rcases hb2 with h2 | ⟨h2, -, -, h3, h4⟩
    · exact h2
    · rw [h2] at hlB
      simp only [List.length_nil] at hlB
      omega
  have rA : A.rest = [] → (overA A B).rest = [] := fun hr => rest_nil (T := []) (T' := []) h1.x g1.x hr
  have rB : B.rest = [] → (overB A B).rest = [] := fun hr => rest_nil (T := []) (T' := []) h1.y g1.y hr
  refine ⟨⟨⟨_, _, _, _, g1, fun hr => ?_, fun hr => ?_⟩, g2, g3, g4⟩, g9, fun hS hR => ?_⟩
  · have h2 := hp (fun h3 => hr (rA h3))
    have h4 : (overA A B).way.length = 16 := g1.fA.resolve_right hr
    rw [List.length_append]; omega
  · have h2 := hq (fun h3 => hr (rB h3))
    have h4 : (overB A B).way.length = 16 := g1.fB.resolve_right hr
    rw [List.length_append]; omega
  · have eA : A.rest = [] := by
      rcases Decidable.em (A.rest = []) with h2 | h2
      · exact h2
      · have h3 := hp h2
        have h4 := h1.x.plen
        have h5 := nz h2
        omega
    have eB : B.rest = [] := by
      rcases Decidable.em (B.rest = []) with h2 | h2
      · exact h2
      · have h3 := hq h2
        have h4 := h1.y.plen
        have h5 := nz h2
        omega
    have zP : P2 = [] := by
      have h2 := h1.x.sent
      rw [eA, List.append_nil] at h2
      have h3 := g1.x.sent
      rw [rA eA, List.append_nil, List.flatten_append, h2] at h3
      have h4 : P2.flatten = [] := by
        have := congrArg List.length h3
        rw [List.length_append] at this
        exact List.eq_nil_of_length_eq_zero (by omega)
      rcases Decidable.em (P2 = []) with h5 | h5
      · exact h5
      · have h6 := flat_le (P := P2) (fun q hq => g1.x.ne q (List.mem_append_right _ hq))
        have h7 := nz h5
        rw [h4] at h6
        simp only [List.length_nil] at h6
        omega
    have zQ : Q2 = [] := by
      have h2 := h1.y.sent
      rw [eB, List.append_nil] at h2
      have h3 := g1.y.sent
      rw [rB eB, List.append_nil, List.flatten_append, h2] at h3
      have h4 : Q2.flatten = [] := by
        have := congrArg List.length h3
        rw [List.length_append] at this
        exact List.eq_nil_of_length_eq_zero (by omega)
      rcases Decidable.em (Q2 = []) with h5 | h5
      · exact h5
      · have h6 := flat_le (P := Q2) (fun q hq => g1.y.ne q (List.mem_append_right _ hq))
        have h7 := nz h5
        rw [h4] at h6
        simp only [List.length_nil] at h6
        omega
    rw [zP] at hwA g1
    rw [zQ] at hwB g1
    simp only [List.length_nil, List.append_nil] at hwA hwB g1
    have w1 : (overA A B).way = [] := List.eq_nil_of_length_eq_zero (by omega)
    have w2 : (overB A B).way = [] := List.eq_nil_of_length_eq_zero (by omega)
    refine ⟨w1, w2, g5 w2, g3, ?_, ?_⟩
    · rw [g1.x.came, ← g1.x.sent, rA eA, List.append_nil, List.take_of_length_le (Nat.le_refl _)]
    · rw [g1.y.came, ← g1.y.sent, rB eB, List.append_nil, List.take_of_length_le (Nat.le_refl _)]
theorem Two.tick {A B S R C D P b e Q b' e'} (h : Two A B S R C D P b e Q b' e') : Two A.tick B.tick S R C D P b e Q b' e' :=
  ⟨h.x.tick.right rfl rfl rfl, h.y.tick.right rfl rfl rfl, h.aA, h.aB, tick_full h.fA, tick_full h.fB, h.s, h.r⟩
theorem Calm.tick {k : Nat} {A B : En} {S R C D : List UInt8} (h : Calm k A B S R C D) : Calm k A.tick B.tick S R C D := by
  obtain ⟨P, b, Q, b', h1, hp, hq⟩ := h.d
  have hw : B.tick.way = [] → B.way = [] := fun h2 => by
    have := congrArg List.length h2
    rw [show B.tick.way = tickL B.way from rfl, tickL_len] at this
    exact List.eq_nil_of_length_eq_zero this
  refine ⟨⟨P, b, Q, b', ⟨h1.x.tick.right rfl rfl rfl, h1.y.tick.right rfl rfl rfl, h1.aA, h1.aB, tick_full h1.fA, tick_full h1.fB, h1.s, h1.r⟩, hp, hq⟩, tick_due A, h.ack, fun h2 => h.ackA (fun h3 => h2 (by show tickL B.way = []; rw [h3]; rfl))⟩
end Go.Proofs.Lk
