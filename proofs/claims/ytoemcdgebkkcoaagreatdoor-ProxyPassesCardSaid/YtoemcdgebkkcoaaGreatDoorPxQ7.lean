/- Two ends: what one sends, and what comes at the other one. Plain. -/
import Derived.Test.YtoemcdgebkkcoaaGreatDoorPxT1
import Derived.Test.YtoemcdgebkkcoaaGreatDoorPxG6
import Derived.Test.YtoemcdgebkkcoaaGreatDoorPvYa
import Derived.Test.YtoemcdgebkkcoaaGreatDoorPxS1
import Derived.Test.YtoemcdgebkkcoaaGreatDoorTlLn2
set_option maxRecDepth 100000
set_option linter.unusedSimpArgs false
set_option linter.unusedVariables false
namespace Go.Proofs.Lk
open Go.Pv Go.Proofs.Sh
def WayIs : Nat → List Pc → List (List UInt8) → Prop
 | _, [], Q => Q = []
 | _, _ :: _, [] => False
 | k, p :: w, q :: Q => p.n = (k : Int) ∧ p.b = q ∧ WayIs (k + 1) w Q
theorem WayIs.len : ∀ {k : Nat} {w : List Pc} {Q : List (List UInt8)}, WayIs k w Q → w.length = Q.length
 | _, [], Q, h => by rw [show Q = [] from h]; rfl
 | _, _ :: _, [], h => by cases h
 | k, p :: w, q :: Q, h => by simp [h.2.2.len]
theorem WayIs.snoc : ∀ {k : Nat} {w : List Pc} {Q : List (List UInt8)} {p : Pc} {q : List UInt8}, WayIs k w Q → p.n = ((k + w.length : Nat) : Int) → p.b = q → WayIs k (w ++ [p]) (Q ++ [q])
 | k, [], Q, p, q, h, hn, hb => by
  rw [show Q = [] from h]
  exact ⟨by simpa using hn, hb, rfl⟩
 | _, _ :: _, [], _, _, h, _, _ => by cases h
 | k, x :: w, y :: Q, p, q, h, hn, hb => ⟨h.1, h.2.1, h.2.2.snoc (by rw [hn]; simp; omega) hb⟩
theorem WayIs.map {f : Pc → Pc} (hn : ∀ p, (f p).n = p.n) (hb : ∀ p, (f p).b = p.b) : ∀ {k : Nat} {w : List Pc} {Q : List (List UInt8)}, WayIs k w Q → WayIs k (w.map f) Q
 | _, [], Q, h => h
 | _, _ :: _, [], h => by cases h
 | k, p :: w, q :: Q, h => ⟨by rw [hn]; exact h.1, by rw [hb]; exact h.2.1, h.2.2.map hn hb⟩
theorem WayIs.mem : ∀ {k : Nat} {w : List Pc} {Q : List (List UInt8)}, WayIs k w Q → ∀ p ∈ w, ∃ i, i < Q.length ∧ p.n = ((k + i : Nat) : Int) ∧ p.b = Q.getD i []
 | _, [], Q, h, p, hp => by cases hp
 | _, _ :: _, [], h, _, _ => by cases h
 | k, x :: w, q :: Q, h, p, hp => by
  rcases List.mem_cons.1 hp with rfl | hp
  ·exact ⟨0, by simp, by simpa using h.1, by simpa using h.2.1⟩
  ·obtain ⟨i, h1, h2, h3⟩ := h.2.2.mem p hp
   exact ⟨i + 1, by simpa using h1, by rw [h2]; omega, by simpa using h3⟩
theorem WayIs.ack {told : Nat} : ∀ {k : Nat} {w : List Pc} {Q : List (List UInt8)}, WayIs k w Q → told ≤ k + Q.length →
 WayIs (max k told) (w.dropWhile fun p => decide (p.n < (told : Int))) (Q.drop (told - k))
 | k, [], Q, h, ht => by
  rw [show Q = [] from h]
  simp [WayIs]
 | _, _ :: _, [], h, _ => by cases h
 | k, p :: w, q :: Q, h, ht => by
  obtain ⟨h1, h2, h3⟩ := h
  by_cases hk : k < told
  ·rw [List.dropWhile_cons_of_pos (by rw [h1]; simp; omega)]
   have := h3.ack (told := told) (by simp at ht; omega)
   rw [show max k told = max (k + 1) told by omega, show told - k = (told - (k + 1)) + 1 by omega]
   exact this
  ·rw [List.dropWhile_cons_of_neg (by rw [h1]; simp; omega), show told - k = 0 by omega, show max k told = k by omega]
   exact ⟨h1, h2, h3⟩
def PkOf (P : List (List UInt8)) (x : Int) (t : List UInt8) : Prop := ∃ told : Nat, (told : Int) ≤ x ∧ ((∃ k, k < P.length ∧ t = pkt 0 (k : Int) (told : Int) (P.getD k [])) ∨ t = pkt 1 0 (told : Int) [])
theorem PkOf.up {P Q : List (List UInt8)} {x y : Int} {t : List UInt8} (h : PkOf P x t) (hx : x ≤ y) : PkOf (P ++ Q) y t := by
 obtain ⟨told, h1, h2⟩ := h
 refine ⟨told, by omega, ?_⟩
 rcases h2 with ⟨k, hk, rfl⟩ | rfl
 ·exact .inl ⟨k, by simp; omega, by rw [List.getD_eq_getElem?_getD, List.getD_eq_getElem?_getD, List.getElem?_append_left hk]⟩
 ·exact .inr rfl
theorem PkOf.up' {P : List (List UInt8)} {x y : Int} {t : List UInt8} (h : PkOf P x t) (hx : x ≤ y) : PkOf P y t := by
 obtain ⟨told, h1, h2⟩ := h
 exact ⟨told, by omega, h2⟩
structure Dir (X Y : En) (P : List (List UInt8)) (b e : Nat) (sent came : List UInt8) (T : List (List UInt8)) : Prop where
 m0 : 1 ≤ X.most
 m1 : X.most ≤ 1024
 next : X.next = (P.length : Int)
 way : WayIs b X.way (P.drop b)
 bl : b ≤ P.length
 be : b ≤ e
 w16 : X.way.length ≤ 16
 ne : ∀ q ∈ P, q ≠ [] ∧ q.length ≤ 1024
 exp : Y.exp = (e : Int)
 el : e ≤ P.length
 sent : P.flatten ++ X.rest = sent
 came : came ++ Y.read = (P.take e).flatten
 as0 : Y.aside 0 = []
 asd : ∀ j, Y.aside j = [] ∨ (e + j < P.length ∧ Y.aside j = P.getD (e + j) [])
 pk : ∀ t ∈ T, PkOf P X.exp t
theorem Dir.begins {X Y P b e sent came T} (h : Dir X Y P b e sent came T) : came <+: sent := by
 have h1 : came ++ Y.read <+: sent := by
  rw [h.came, ← h.sent]
  refine List.IsPrefix.trans ?_ (List.prefix_append _ _)
  conv => rhs; rw [← List.take_append_drop e P, List.flatten_append]
  exact List.prefix_append _ _
 exact (List.prefix_append _ _).trans h1
theorem Dir.left {X X' Y P b e sent came T T'} (h : Dir X Y P b e sent came T) (hm : X'.most = X.most) (hn : X'.next = X.next) (hw : WayIs b X'.way (P.drop b)) (hr : X'.rest = X.rest) (ht : ∀ t ∈ T', PkOf P X'.exp t) :
 Dir X' Y P b e sent came T' :=
 ⟨by rw [hm]; exact h.m0, by rw [hm]; exact h.m1, by rw [hn]; exact h.next, hw, h.bl, h.be, by rw [hw.len, ← h.way.len]; exact h.w16, h.ne, h.exp, h.el, by rw [hr]; exact h.sent, h.came, h.as0, h.asd, ht⟩
theorem Dir.right {X Y Y' P b e sent came T} (h : Dir X Y P b e sent came T) (hx : Y'.exp = Y.exp) (ha : Y'.aside = Y.aside) (hr : Y'.read = Y.read) : Dir X Y' P b e sent came T :=
 ⟨h.m0, h.m1, h.next, h.way, h.bl, h.be, h.w16, h.ne, by rw [hx]; exact h.exp, h.el, h.sent, by rw [hr]; exact h.came, by rw [ha]; exact h.as0, by rw [ha]; exact h.asd, h.pk⟩
theorem Dir.sub {X Y P b e sent came T T'} (h : Dir X Y P b e sent came T) (ht : ∀ t ∈ T', t ∈ T) : Dir X Y P b e sent came T' :=
 ⟨h.m0, h.m1, h.next, h.way, h.bl, h.be, h.w16, h.ne, h.exp, h.el, h.sent, h.came, h.as0, h.asd, fun t hm => h.pk t (ht t hm)⟩
theorem Dir.num1 {X Y P b e sent came T} (h : Dir X Y P b e sent came T) (hr : X.rest ≠ []) (hw : X.way.length < 16) : ∃ q, Dir X.num1 Y (P ++ [q]) b e sent came T := by
 have hm0 := h.m0
 have hm1 := h.m1
 have hrl : 0 < X.rest.length := List.length_pos_iff.2 hr
 obtain ⟨n, hn⟩ : ∃ n : Nat, X.mn = (n : Int) := ⟨X.mn.toNat, by unfold En.mn; split <;> omega⟩
 have hn1 : 1 ≤ n ∧ n ≤ 1024 ∧ n ≤ X.rest.length := by
  have : X.mn = if (X.rest.length : Int) < X.most then (X.rest.length : Int) else X.most := rfl
  rw [hn] at this
  clear hn
  split at this <;> omega
 have hnt : X.mn.toNat = n := by rw [hn]; rfl
 have hwl := h.way.len
 have hbl := h.bl
 rw [List.length_drop] at hwl
 refine ⟨X.rest.take n, ⟨h.m0, h.m1, ?_, ?_, ?_, h.be, ?_, ?_, h.exp, ?_, ?_, ?_, h.as0, ?_, fun t ht => (h.pk t ht).up (Int.le_refl _)⟩⟩
 ·show X.next + 1 = _
  rw [h.next]; simp
 ·rw [List.drop_append_of_le_length h.bl]
  refine h.way.snoc ?_ ?_
  ·show X.next = _
   rw [h.next]; congr 1; omega
  ·show X.rest.take X.mn.toNat = _
   rw [hnt]
 ·simp; omega
 ·show (X.way ++ [_]).length ≤ 16
  simp; omega
 ·intro q hq
  rcases List.mem_append.1 hq with hq | hq
  ·exact h.ne q hq
  ·have : q = X.rest.take n := by simpa using hq
   subst this
   refine ⟨fun hc => ?_, by simp; omega⟩
   have := congrArg List.length hc
   rw [List.length_take, List.length_nil] at this
   omega
 ·have := h.el; simp; omega
 ·show (P ++ [X.rest.take n]).flatten ++ X.rest.drop X.mn.toNat = sent
  rw [hnt, List.flatten_append, List.append_assoc]
  simp
  exact h.sent
 ·rw [List.take_append_of_le_length h.el]; exact h.came
 ·intro j
  rcases h.asd j with h1 | ⟨h1, h2⟩
  ·exact .inl h1
  ·refine .inr ⟨by simp; omega, ?_⟩
   rw [h2, List.getD_eq_getElem?_getD, List.getD_eq_getElem?_getD, List.getElem?_append_left h1]
theorem Dir.numL {Y b e sent came T} : ∀ (k : Nat) {X P}, Dir X Y P b e sent came T → ∃ Q, Dir (numL k X) Y (P ++ Q) b e sent came T
 | 0, X, P, h => ⟨[], by rw [List.append_nil]; exact h⟩
 | k + 1, X, P, h => by
  unfold Lk.numL
  split
  ·rename_i hc
   simp at hc
   obtain ⟨q, hq⟩ := h.num1 hc.1 (by omega)
   obtain ⟨Q, hQ⟩ := hq.numL k
   exact ⟨q :: Q, by rw [List.append_assoc] at hQ; exact hQ⟩
  ·exact ⟨[], by rw [List.append_nil]; exact h⟩
theorem Dir.number {X Y P b e sent came T} (h : Dir X Y P b e sent came T) : ∃ Q, Dir X.number Y (P ++ Q) b e sent came T := h.numL 17
theorem Dir.send {X Y P b e sent came T} (h : Dir X Y P b e sent came T) (s : List UInt8) : ∃ Q, Dir (X.sendE s) Y (P ++ Q) b e (sent ++ s) came T := by
 have h1 : Dir { X with rest := X.rest ++ s } Y P b e (sent ++ s) came T :=
  ⟨h.m0, h.m1, h.next, h.way, h.bl, h.be, h.w16, h.ne, h.exp, h.el, by rw [← List.append_assoc, h.sent], h.came, h.as0, h.asd, h.pk⟩
 exact h1.number
theorem Dir.due {X Y P b e sent came T} (h : Dir X Y P b e sent came T) (hx : 0 ≤ X.exp) : Dir X.due Y P b e sent came (T ++ X.dueP) := by
 refine h.left rfl rfl (WayIs.map (f := fun p => { p with due := false }) (fun _ => rfl) (fun _ => rfl) h.way) rfl (fun t ht => ?_)
 rcases List.mem_append.1 ht with ht | ht
 ·exact h.pk t ht
 ·have hs : ∀ t ∈ dueStr X X.way, PkOf P X.exp t := by
   intro t ht
   obtain ⟨p, hp, rfl⟩ := List.mem_map.1 ht
   obtain ⟨i, h1, h2, h3⟩ := h.way.mem p (List.mem_filter.1 hp).1
   rw [List.length_drop] at h1
   obtain ⟨x, hx'⟩ := Int.eq_ofNat_of_zero_le hx
   refine ⟨x, by rw [hx']; exact Int.le_refl _, .inl ⟨b + i, by omega, ?_⟩⟩
   rw [h2, h3, hx', List.getD_eq_getElem?_getD, List.getD_eq_getElem?_getD, List.getElem?_drop]
  unfold En.dueP at ht
  split at ht
  ·have ht := List.mem_singleton.1 ht
   obtain ⟨x, hx'⟩ := Int.eq_ofNat_of_zero_le hx
   exact ⟨x, by show (x : Int) ≤ X.exp; rw [hx']; exact Int.le_refl _, .inr (by rw [ht, hx'])⟩
  ·exact hs t ht
theorem Dir.tick {X Y P b e sent came T} (h : Dir X Y P b e sent came T) : Dir X.tick Y P b e sent came T :=
 h.left rfl rfl (WayIs.map (f := fun p => { p with due := true }) (fun _ => rfl) (fun _ => rfl) h.way) rfl h.pk
theorem Dir.clear {X Y P b e sent came T} (h : Dir X Y P b e sent came T) : Dir X { Y with read := [] } P b e sent (came ++ Y.read) T :=
 ⟨h.m0, h.m1, h.next, h.way, h.bl, h.be, h.w16, h.ne, h.exp, h.el, h.sent, by rw [← h.came]; simp, h.as0, h.asd, h.pk⟩
theorem Dir.clearL {X Y P b e sent came T} (h : Dir X Y P b e sent came T) : Dir { X with read := [] } Y P b e sent came T := h.left rfl rfl h.way rfl h.pk
theorem Dir.ackn {X Y P b e sent came T} (h : Dir X Y P b e sent came T) {told : Nat} (ht : told ≤ e) : Dir (X.ackn (told : Int)) Y P (max b told) e sent came T := by
 have hel := h.el
 have hb := h.bl
 have hw := h.way.ack (told := told) (by rw [List.length_drop]; omega)
 rw [List.drop_drop, show b + (told - b) = max b told by omega] at hw
 refine ⟨h.m0, h.m1, h.next, hw, by omega, by have := h.be; omega, ?_, h.ne, h.exp, h.el, h.sent, h.came, h.as0, h.asd, h.pk⟩
 exact Nat.le_trans (List.dropWhile_sublist _).length_le h.w16
theorem Dir.shL {X : En} {P b sent came T} : ∀ (k : Nat) {Y : En} {e : Nat}, (Dir X { Y with aside := fun _ => [] } P b e sent came T) → (∀ j, Y.aside j = [] ∨ (e + j < P.length ∧ Y.aside j = P.getD (e + j) [])) → (∀ j, k ≤ j → Y.aside j = []) →
 ∃ e', e ≤ e' ∧ (Y.aside 0 ≠ [] → 0 < k → e + 1 ≤ e') ∧ Dir X (shL k Y) P b e' sent came T
 | 0, Y, e, h, ha, hk => ⟨e, Nat.le_refl _, fun _ h0 => absurd h0 (Nat.lt_irrefl _), ⟨h.m0, h.m1, h.next, h.way, h.bl, h.be, h.w16, h.ne, h.exp, h.el, h.sent, h.came, hk 0 (Nat.zero_le _), ha, h.pk⟩⟩
 | k + 1, Y, e, h, ha, hk => by
  unfold Lk.shL
  split
  ·rename_i h0
   have h0' : Y.aside 0 ≠ [] := by simpa using h0
   obtain ⟨h1, h2⟩ : e + 0 < P.length ∧ Y.aside 0 = P.getD (e + 0) [] := (ha 0).resolve_left h0'
   rw [Nat.add_zero] at h1 h2
   have hd : Dir X { Y.shift with aside := fun _ => [] } P b (e + 1) sent came T := by
    refine ⟨h.m0, h.m1, h.next, h.way, h.bl, by have := h.be; omega, h.w16, h.ne, ?_, by omega, h.sent, ?_, rfl, fun _ => .inl rfl, h.pk⟩
    ·show Y.exp + 1 = _
     have : Y.exp = (e : Int) := h.exp
     rw [this]; omega
    ·show came ++ (Y.read ++ Y.aside 0) = _
     have hc : came ++ Y.read = _ := h.came
     rw [← List.append_assoc, hc, h2, List.take_add_one, List.getElem?_eq_getElem h1, List.flatten_append, List.getD_eq_getElem?_getD, List.getElem?_eq_getElem h1]
     simp
   obtain ⟨e', he, -, hD⟩ := Dir.shL k hd (fun j => by
    rcases ha (j + 1) with h3 | ⟨h3, h4⟩
    ·exact .inl h3
    ·exact .inr ⟨by omega, by rw [show e + 1 + j = e + (j + 1) by omega]; exact h4⟩) (fun j hj => hk (j + 1) (by omega))
   exact ⟨e', by omega, fun _ _ => he, hD⟩
  ·rename_i h0
   have h0' : Y.aside 0 = [] := by simpa using h0
   exact ⟨e, Nat.le_refl _, fun h9 => absurd h0' h9, ⟨h.m0, h.m1, h.next, h.way, h.bl, h.be, h.w16, h.ne, h.exp, h.el, h.sent, h.came, h0', ha, h.pk⟩⟩
theorem by8_of {n : Nat} : (by8 (n : Int)).toNat = n % 256 := by
 have : IntKind.u8.wrap (n : Int) = ((n % 256 : Nat) : Int) := by
  simp only [IntKind.wrap, IntKind.signed, IntKind.bits, Bool.false_and]
  show (n : Int) % 256 = _
  omega
 unfold by8
 rw [this]
 show (UInt8.ofNat ((n % 256 : Nat) : Int).toNat).toNat = _
 rw [Int.toNat_natCast, UInt8.toNat_ofNat']
 omega
theorem by8_fdiv {n d : Nat} : (by8 ((n : Int).fdiv (d : Int))).toNat = n / d % 256 := by
 rw [Int.fdiv_eq_ediv_of_nonneg _ (Int.natCast_nonneg _), ← Int.natCast_ediv, by8_of]
theorem four_by8 {n : Nat} (h : n < 4294967296) : fourN [by8 ((n : Int).fdiv 16777216), by8 ((n : Int).fdiv 65536), by8 ((n : Int).fdiv 256), by8 (n : Int)] = n := by
 have h1 : (by8 ((n : Int).fdiv 16777216)).toNat = n / 16777216 % 256 := by8_fdiv (d := 16777216)
 have h2 : (by8 ((n : Int).fdiv 65536)).toNat = n / 65536 % 256 := by8_fdiv (d := 65536)
 have h3 : (by8 ((n : Int).fdiv 256)).toNat = n / 256 % 256 := by8_fdiv (d := 256)
 have h4 := by8_of (n := n)
 simp only [fourN, List.getD_cons_zero, List.getD_cons_succ]
 omega
structure Read (t : List UInt8) (k n a : Nat) (b : List UInt8) : Prop where
 len : t.length = 11 + b.length
 kd : kd t = (k : Int)
 nu : nu t = (n : Int)
 tol : tol t = (a : Int)
 bd : bd t = b
 ln : ln t = (b.length : Int)
theorem pktBytes_read {k n a : Nat} {b : List UInt8} (hk : k < 256) (hn : n < 4294967296) (ha : a < 4294967296) (hb : b.length ≤ 1024) : Read (pktBytes (k : Int) (n : Int) (a : Int) b) k n a b where
 len := by simp only [pktBytes, List.length_cons]; omega
 kd := by
  show ((by8 (k : Int)).toNat : Int) = _
  rw [by8_of]; omega
 nu := by
  show ((fourN [_, _, _, _] : Nat) : Int) = _
  rw [four_by8 hn]
 tol := by
  show ((fourN [_, _, _, _] : Nat) : Int) = _
  rw [four_by8 ha]
 bd := rfl
 ln := by
  show ((by8 ((b.length : Int).fdiv 256)).toNat : Int) * 256 + ((by8 (b.length : Int)).toNat : Int) = _
  rw [by8_of, show ((b.length : Int).fdiv 256) = ((b.length : Int).fdiv ((256 : Nat) : Int)) from rfl, by8_fdiv]
  omega
theorem pkt0_read {n a : Nat} {b : List UInt8} (hn : n < 4294967296) (ha : a < 4294967296) (hb0 : b ≠ []) (hb : b.length ≤ 1024) : Read (pkt 0 (n : Int) (a : Int) b) 0 n a b := by
 have := pktBytes_read (k := 0) (b := b) (by decide) hn ha hb
 rw [pkt, if_neg (by simp; omega), if_pos (show ((0 : Int) == 0) = true from rfl), if_neg (by simp [hb0]; omega)]
 exact this
theorem pkt1_read {a : Nat} (ha : a < 4294967296) : Read (pkt 1 0 (a : Int) []) 1 0 a [] := by
 have := pktBytes_read (k := 1) (n := 0) (b := []) (by decide) (by decide) ha (by decide)
 rw [pkt, if_neg (by simp; omega), if_neg (by decide), if_pos (show ((1 : Int) == 1) = true from rfl), if_neg (by decide)]
 exact this
theorem Dir.got0 {X Y : En} {P Q : List (List UInt8)} {b e b' e' : Nat} {sent came sent' came' T T'} (h : Dir X Y P b e sent came T) (h' : Dir Y X Q b' e' sent' came' T') {told k : Nat} (hto : told ≤ e') (hkP : k < P.length) (ha16 : ∀ j, 16 ≤ j → Y.aside j = []) (hP : P.length < 100000) (hQ : Q.length < 100000) :
 gotN Y (pkt 0 (k : Int) (told : Int) (P.getD k [])) = 0 ∧ ∃ e2 Q2, e ≤ e2 ∧ (k ≤ e → k + 1 ≤ e2) ∧ Dir X (Y.gotE (pkt 0 (k : Int) (told : Int) (P.getD k []))) P b e2 sent came T ∧ Dir (Y.gotE (pkt 0 (k : Int) (told : Int) (P.getD k []))) X (Q ++ Q2) (max b' told) e' sent' came' T' := by
 have hel' := h'.el
 have hel := h.el
 have hbe := h.be
 have hwl := h.way.len
 have hw16 := h.w16
 have hbl := h.bl
 rw [List.length_drop] at hwl
 have hY : Y.exp = (e : Int) := h.exp
 have hYn : Y.next = (Q.length : Int) := h'.next
 have hYm := h'.m0
 have hak := h'.ackn (told := told) (by omega)
 have hq : P.getD k [] ∈ P := by
  rw [List.getD_eq_getElem?_getD, List.getElem?_eq_getElem hkP]
  exact List.getElem_mem _
 obtain ⟨ne, nl⟩ := h.ne _ hq
 have R := pkt0_read (n := k) (a := told) (by omega) (by omega) ne nl
 have hnl : 1 ≤ (P.getD k []).length := List.length_pos_iff.2 ne
 generalize pkt 0 (k : Int) (told : Int) (P.getD k []) = t at *
 generalize hb : P.getD k [] = c at *
 refine ⟨?_, ?_⟩
 ·rw [gotN, if_neg (by simp; omega), if_neg (by rw [R.len]; simp; omega), if_neg (by rw [R.kd]; decide), if_neg (by rw [R.bd, R.ln]; simp), if_neg, if_neg]
  ·rw [R.tol, R.kd, R.nu, hYn, hY]; simp; omega
  ·rw [R.bd, R.kd]; simp [ne]; omega
 ·have hge : Y.gotE t = ((Y.ackn (told : Int)).took (k : Int) c).number := by
   rw [En.gotE, R.kd, R.tol, R.nu, R.bd]; rfl
  rw [hge]
  obtain ⟨s1, s2, s3, s4⟩ := took_same (Y.ackn (told : Int)) (k : Int) c
  have hnum := numL_numd 17 ((Y.ackn (told : Int)).took (k : Int) c) (by rw [s2]; show 0 ≤ Y.most; omega) (by rw [s1]; exact hak.w16)
  obtain ⟨e2, he2, hk2, hD⟩ : ∃ e2, e ≤ e2 ∧ (k ≤ e → k + 1 ≤ e2) ∧ Dir X ((Y.ackn (told : Int)).took (k : Int) c) P b e2 sent came T := by
   have h0 : Dir X (Y.ackn (told : Int)) P b e sent came T := h.right rfl rfl rfl
   unfold En.took
   split
   ·rename_i h1
    have h1a : (k : Int) < (Y.ackn (told : Int)).exp := by simpa using h1
    have h1b : (k : Int) < Y.exp := h1a
    exact ⟨e, Nat.le_refl _, fun _ => by omega, h0.right rfl rfl rfl⟩
   ·rename_i h1
    have h1a : ¬ ((k : Int) < (Y.ackn (told : Int)).exp) := by simpa using h1
    have h1b : ¬ ((k : Int) < Y.exp) := h1a
    have h1' : e ≤ k := by omega
    have hke : ((k : Int) - (Y.ackn (told : Int)).exp).toNat = k - e := by
     show ((k : Int) - Y.exp).toNat = _
     omega
    split
    ·rename_i h2
     rw [hke] at h2
     refine ⟨e, Nat.le_refl _, fun hkk => ?_, h0.right rfl rfl rfl⟩
     have : k - e = 0 := by omega
     rw [this] at h2
     have h3 : (Y.ackn (told : Int)).aside 0 = [] := h.as0
     rw [h3] at h2
     exact absurd h2 (by decide)
    ·rename_i h2
     rw [hke]
     obtain ⟨e2, g1, g2, g3⟩ := Dir.shL 17 (Y := (Y.ackn (told : Int)).acked.lay (k - e) c) (X := X) (P := P) (b := b) (e := e) (sent := sent) (came := came) (T := T) ⟨h.m0, h.m1, h.next, h.way, h.bl, h.be, h.w16, h.ne, h.exp, h.el, h.sent, h.came, rfl, fun _ => .inl rfl, h.pk⟩ (fun j => by
      show (if j = k - e then c else Y.aside j) = [] ∨ e + j < P.length ∧ (if j = k - e then c else Y.aside j) = _
      split
      ·rename_i hj
       subst hj
       exact .inr ⟨by omega, by rw [show e + (k - e) = k by omega]; exact hb.symm⟩
      ·exact h.asd j) (fun j hj => by
      show (if j = k - e then c else Y.aside j) = []
      rw [if_neg (by omega)]
      exact ha16 j (by omega))
     refine ⟨e2, g1, fun hkk => ?_, g3⟩
     have hk0 : k = e := by omega
     have := g2 (by
      show (if 0 = k - e then c else Y.aside 0) ≠ []
      rw [if_pos (by omega)]
      exact ne) (by decide)
     omega
  have hD2 : Dir ((Y.ackn (told : Int)).took (k : Int) c) X Q (max b' told) e' sent' came' T' := by
   refine hak.left s2 s4 (by rw [s1]; exact hak.way) s3 (fun u hu => (hak.pk u hu).up' ?_)
   show Y.exp ≤ _
   rw [hY, hD.exp]; omega
  obtain ⟨Q2, hQ2⟩ := hD2.number
  exact ⟨e2, Q2, he2, hk2, hD.right hnum.exp hnum.aside hnum.read, hQ2⟩
theorem Dir.got1 {X Y : En} {P Q : List (List UInt8)} {b e b' e' : Nat} {sent came sent' came' T T'} (h : Dir X Y P b e sent came T) (h' : Dir Y X Q b' e' sent' came' T') {told : Nat} (hto : told ≤ e') (hP : P.length < 100000) (hQ : Q.length < 100000) :
 gotN Y (pkt 1 0 (told : Int) []) = 0 ∧ ∃ Q2, Dir X (Y.gotE (pkt 1 0 (told : Int) [])) P b e sent came T ∧ Dir (Y.gotE (pkt 1 0 (told : Int) [])) X (Q ++ Q2) (max b' told) e' sent' came' T' := by
 have hel' := h'.el
 have hYn : Y.next = (Q.length : Int) := h'.next
 have hYm := h'.m0
 have hak := h'.ackn (told := told) (by omega)
 have R := pkt1_read (a := told) (by omega)
 generalize pkt 1 0 (told : Int) [] = t at *
 refine ⟨?_, ?_⟩
 ·rw [gotN, if_neg (by simp; omega), if_neg (by rw [R.len]; simp), if_neg (by rw [R.kd]; decide), if_neg (by rw [R.bd, R.ln]; simp), if_neg, if_neg]
  ·rw [R.tol, R.kd, R.nu, hYn]; simp; omega
  ·rw [R.bd, R.kd, R.nu]; simp
 ·have hge : Y.gotE t = (Y.ackn (told : Int)).number := by
   rw [En.gotE, R.kd, R.tol]; rfl
  rw [hge]
  have hnum := numL_numd 17 (Y.ackn (told : Int)) (by show 0 ≤ Y.most; omega) hak.w16
  obtain ⟨Q2, hQ2⟩ := hak.number
  exact ⟨Q2, (h.right (Y' := Y.ackn (told : Int)) rfl rfl rfl).right hnum.exp hnum.aside hnum.read, hQ2⟩
theorem Dir.got {X Y : En} {P Q : List (List UInt8)} {b e b' e' : Nat} {sent came sent' came' T T' t} (h : Dir X Y P b e sent came T) (h' : Dir Y X Q b' e' sent' came' T') (ht : t ∈ T) (ha16 : ∀ j, 16 ≤ j → Y.aside j = []) (hP : P.length < 100000) (hQ : Q.length < 100000) :
 gotN Y t = 0 ∧ ∃ e2 b2 Q2, e ≤ e2 ∧ Dir X (Y.gotE t) P b e2 sent came T ∧ Dir (Y.gotE t) X (Q ++ Q2) b2 e' sent' came' T' := by
 obtain ⟨told, hto, hk⟩ := h.pk t ht
 have hX : X.exp = (e' : Int) := h'.exp
 rcases hk with ⟨k, hkP, rfl⟩ | rfl
 ·obtain ⟨g1, e2, Q2, g2, -, g3, g4⟩ := h.got0 h' (told := told) (by omega) hkP ha16 hP hQ
  exact ⟨g1, e2, _, Q2, g2, g3, g4⟩
 ·obtain ⟨g1, Q2, g3, g4⟩ := h.got1 h' (told := told) (by omega) hP hQ
  exact ⟨g1, e, _, Q2, Nat.le_refl _, g3, g4⟩
end Go.Proofs.Lk
set_option maxRecDepth 100000
set_option linter.unusedSimpArgs false
set_option linter.unusedVariables false
namespace Go.Proofs.Lk
open Go.Pv Go.Proofs.Sh
def Full (e : En) : Prop := e.way.length = 16 ∨ e.rest = []
theorem numL_room : ∀ (k : Nat) (e : En), 16 ≤ e.way.length + k → e.way.length ≤ 16 → Full (numL k e)
 | 0, e, h, hw => .inl (by show e.way.length = 16; omega)
 | k + 1, e, h, hw => by
  unfold numL
  split
  ·rename_i hc
   simp at hc
   have hl : e.num1.way.length = e.way.length + 1 := by simp [En.num1]
   exact numL_room k e.num1 (by omega) (by omega)
  ·rename_i hc
   simp at hc
   rcases Decidable.em (e.rest = []) with h1 | h1
   ·exact .inr h1
   ·have := hc h1
    exact .inl (by omega)
theorem number_full (e : En) (hw : e.way.length ≤ 16) : Full e.number := numL_room 17 e (by omega) hw
theorem send_full (e : En) (b : List UInt8) (hw : e.way.length ≤ 16) : Full (e.sendE b) := number_full _ hw
theorem got_full (e : En) (t : List UInt8) (hw : e.way.length ≤ 16) : Full (e.gotE t) := by
 have ha : (e.ackn (tol t)).way.length ≤ 16 := Nat.le_trans (List.dropWhile_sublist _).length_le hw
 unfold En.gotE
 split
 ·exact number_full _ (by rw [(took_same (e.ackn (tol t)) (nu t) (bd t)).1]; exact ha)
 ·exact number_full _ ha
theorem due_full {e : En} (h : Full e) : Full e.due := by
 rcases h with h | h
 ·exact .inl (by show (dueL e.way).length = 16; rw [dueL_len]; exact h)
 ·exact .inr h
theorem tick_full {e : En} (h : Full e) : Full e.tick := by
 rcases h with h | h
 ·exact .inl (by show (tickL e.way).length = 16; rw [tickL_len]; exact h)
 ·exact .inr h
theorem pkt_len {P : List (List UInt8)} {x : Int} {t : List UInt8} (h : PkOf P x t) (hP : ∀ q ∈ P, q ≠ [] ∧ q.length ≤ 1024) : t.length ≤ 3000 := by
 have hl : ∀ k n a b, b.length ≤ 1024 → (pkt k n a b).length ≤ 3000 := by
  intro k n a b hb
  unfold pkt
  repeat' split
  all_goals first | (simp only [pktBytes, List.length_cons]; omega) | simp
 obtain ⟨told, -, h⟩ := h
 rcases h with ⟨k, hk, rfl⟩ | rfl
 ·refine hl _ _ _ _ (hP _ ?_).2
  rw [List.getD_eq_getElem?_getD, List.getElem?_eq_getElem hk]
  exact List.getElem_mem _
 ·exact hl _ _ _ _ (by simp)
end Go.Proofs.Lk
set_option maxRecDepth 100000
set_option linter.unusedSimpArgs false
set_option linter.unusedVariables false
namespace Go.Proofs.Lk
open Go.Pv Go.Proofs.Sh
def getsE (Y : En) (l : List (List UInt8)) : En := l.foldl En.gotE Y
def pks (P : List (List UInt8)) (told k : Nat) : Nat → List (List UInt8)
 | 0 => []
 | m + 1 => pkt 0 (k : Int) (told : Int) (P.getD k []) :: pks P told (k + 1) m
def Due (e : En) : Prop := ∀ p ∈ e.way, p.due = true
def A16 (e : En) : Prop := ∀ j, 16 ≤ j → e.aside j = []
theorem tick_due (e : En) : Due e.tick := by
 intro p hp
 obtain ⟨q, hq, rfl⟩ := List.mem_map.1 hp
 rfl
theorem shL_a16 : ∀ (k : Nat) (e : En), A16 e → A16 (shL k e)
 | 0, e, h => h
 | k + 1, e, h => by
  unfold shL
  split
  ·exact shL_a16 k e.shift (fun j hj => h (j + 1) (by omega))
  ·exact h
theorem numL_aside : ∀ (k : Nat) (e : En), (numL k e).aside = e.aside
 | 0, e => rfl
 | k + 1, e => by
  unfold numL
  split
  ·rw [numL_aside k e.num1]; rfl
  ·rfl
theorem got_a16 {e : En} (h : A16 e) {t : List UInt8} (hg : gotN e t = 0) : A16 (e.gotE t) := by
 unfold En.gotE
 split
 ·rename_i hk
  have hr : nu t ≤ e.exp + 15 := by
   unfold gotN at hg
   repeat' split at hg
   all_goals first | (exfalso; omega) | skip
   rename_i hx
   have hk' : (kd t == 0) = true := hk
   simp [hk'] at hx
   omega
  intro j hj
  rw [show ((e.ackn (tol t)).took (nu t) (bd t)).number.aside = ((e.ackn (tol t)).took (nu t) (bd t)).aside from numL_aside 17 _]
  unfold En.took
  split
  ·exact h j hj
  ·rename_i h1
   have h1a : ¬ (nu t < (e.ackn (tol t)).exp) := by simpa using h1
   have h1b : ¬ (nu t < e.exp) := h1a
   split
   ·exact h j hj
   ·refine shL_a16 17 _ (fun j hj => ?_) j hj
    show (if j = (nu t - e.exp).toNat then bd t else e.aside j) = []
    rw [if_neg (by omega)]
    exact h j hj
 ·intro j hj
  rw [show (e.ackn (tol t)).number.aside = (e.ackn (tol t)).aside from numL_aside 17 _]
  exact h j hj
theorem got_due {e : En} {t : List UInt8} (hm : 0 ≤ e.most) (hw : e.way.length ≤ 16) (h : Due (e.ackn (tol t))) : Due (e.gotE t) := by
 have ha : (e.ackn (tol t)).way.length ≤ 16 := Nat.le_trans (List.dropWhile_sublist _).length_le hw
 unfold En.gotE
 split
 ·obtain ⟨q1, q2, q3, q4⟩ := took_same (e.ackn (tol t)) (nu t) (bd t)
  exact (numL_numd 17 ((e.ackn (tol t)).took (nu t) (bd t)) (by rw [q2]; exact hm) (by rw [q1]; exact ha)).due (by rw [q1]; exact h)
 ·exact (numL_numd 17 (e.ackn (tol t)) hm ha).due h
theorem ackn_due {e : En} {n : Int} (h : Due e) : Due (e.ackn n) := fun p hp => h p ((List.dropWhile_sublist _).subset hp)
theorem took_ack (e : En) (n : Int) (b : List UInt8) : (e.took n b).ack = true := by
 have hs : ∀ (k : Nat) (e : En), (shL k e).ack = e.ack := by
  intro k
  induction k with
  | zero => intro e; rfl
  | succ k ih =>
   intro e
   unfold shL
   split
   ·rw [ih]; rfl
   ·rfl
 unfold En.took
 split
 ·rfl
 ·split
  ·rfl
  ·rw [hs]; rfl
theorem got_ack {e : En} {t : List UInt8} (hm : 0 ≤ e.most) (hw : e.way.length ≤ 16) : (e.gotE t).ack = (e.ack || kd t == 0) := by
 have ha : (e.ackn (tol t)).way.length ≤ 16 := Nat.le_trans (List.dropWhile_sublist _).length_le hw
 unfold En.gotE
 cases hk : (kd t == 0)
 ·rw [if_neg Bool.false_ne_true, show (e.ackn (tol t)).number.ack = (e.ackn (tol t)).ack from (numL_numd 17 (e.ackn (tol t)) hm ha).ack]
  show e.ack = (e.ack || false)
  rw [Bool.or_false]
 ·obtain ⟨q1, q2, q3, q4⟩ := took_same (e.ackn (tol t)) (nu t) (bd t)
  rw [if_pos rfl, show ((e.ackn (tol t)).took (nu t) (bd t)).number.ack = ((e.ackn (tol t)).took (nu t) (bd t)).ack from (numL_numd 17 _ (by rw [q2]; exact hm) (by rw [q1]; exact ha)).ack, took_ack, Bool.or_true]
theorem flat_le {P : List (List UInt8)} (h : ∀ q ∈ P, q ≠ [] ∧ q.length ≤ 1024) : P.length ≤ P.flatten.length := by
 induction P with
 | nil => simp
 | cons q P ih =>
  have h1 := ih (fun x hx => h x (List.mem_cons_of_mem _ hx))
  have h2 := List.length_pos_iff.2 (h q (List.mem_cons_self ..)).1
  simp only [List.flatten_cons, List.length_cons, List.length_append]
  omega
theorem Dir.plen {X Y P b e sent came T} (h : Dir X Y P b e sent came T) : P.length + X.rest.length ≤ sent.length := by
 have h1 := flat_le h.ne
 have h2 := congrArg List.length h.sent
 rw [List.length_append] at h2
 omega
theorem Dir.rlen {X Y P b e sent came T} (h : Dir X Y P b e sent came T) : came.length + Y.read.length ≤ sent.length := by
 have h1 := congrArg List.length h.came
 have h2 := congrArg List.length h.sent
 rw [List.length_append] at h1 h2
 have h3 : (P.take e).flatten.length ≤ P.flatten.length := by
  conv => rhs; rw [← List.take_append_drop e P, List.flatten_append, List.length_append]
  omega
 omega
structure Two (A B : En) (S R C D : List UInt8) (P : List (List UInt8)) (b e : Nat) (Q : List (List UInt8)) (b' e' : Nat) : Prop where
 x : Dir A B P b e S C []
 y : Dir B A Q b' e' R D []
 aA : A16 A
 aB : A16 B
 fA : Full A
 fB : Full B
 s : S.length ≤ 20000
 r : R.length ≤ 20000
theorem Two.ok {A B S R C D P b e Q b' e'} (h : Two A B S R C D P b e Q b' e') : A.Ok := by
 have h1 := h.x.plen
 have h2 := h.y.plen
 have h3 := h.y.rlen
 have hs := h.s
 have hr := h.r
 have hm := h.x.m0
 have hm1 := h.x.m1
 have hn := h.x.next
 have he := h.y.exp
 have hel := h.y.el
 refine ⟨by omega, by omega, h.x.w16, fun p hp => ?_, by omega, by omega, by omega, by omega, by omega, h.aA, fun j => ?_, by omega⟩
 ·obtain ⟨i, h4, h5, h6⟩ := h.x.way.mem p hp
  rw [h6]
  have : (P.drop b).getD i [] ∈ P := by
   rw [List.getD_eq_getElem?_getD, List.getElem?_eq_getElem h4]
   exact List.mem_of_mem_drop (List.getElem_mem _)
  have := (h.x.ne _ this).2
  omega
 ·rcases h.y.asd j with h4 | ⟨h4, h5⟩
  ·rw [h4]; simp
  ·rw [h5, List.getD_eq_getElem?_getD, List.getElem?_eq_getElem h4]
   have := (h.y.ne _ (List.getElem_mem h4)).2
   simp only [Option.getD_some]
   omega
theorem Two.turn {A B S R C D P b e Q b' e'} (h : Two A B S R C D P b e Q b' e') : Two B A R S D C Q b' e' P b e := ⟨h.y, h.x, h.aB, h.aA, h.fB, h.fA, h.r, h.s⟩
theorem Two.gets {A : En} {S R C D : List UInt8} {P : List (List UInt8)} {b e' : Nat} : ∀ (m : Nat) {B : En} {e k : Nat} {Q : List (List UInt8)} {b' : Nat}, Two A B S R C D P b e Q b' e' → k + m = P.length → k ≤ e →
 ∃ e2 Q2, e ≤ e2 ∧ k + m ≤ max e2 k ∧ Two A (getsE B (pks P e' k m)) S R C D P b e2 (Q ++ Q2) (if m = 0 then b' else max b' e') e' ∧ (getsE B (pks P e' k m)).ack = (B.ack || decide (0 < m)) ∧
  (Due B → Due (getsE B (pks P e' k m))) ∧ (0 < m → e' = Q.length → Due (getsE B (pks P e' k m))) ∧ (∀ (i : Nat) (t : List UInt8), (pks P e' k m)[i]? = some t → gotN (getsE B ((pks P e' k m).take i)) t = 0) ∧ (∀ i, (getsE B ((pks P e' k m).take i)).Ok)
 | 0, B, e, k, Q, b', h, hkm, hke => ⟨e, [], Nat.le_refl _, by omega, by rw [List.append_nil]; exact h, by simp [getsE, pks], fun hd => hd, fun h0 => absurd h0 (Nat.lt_irrefl _), fun i t ht => by simp [pks] at ht, fun i => by simp only [pks, List.take_nil]; exact h.turn.ok⟩
 | m + 1, B, e, k, Q, b', h, hkm, hke => by
  have hkP : k < P.length := by omega
  have h1 := h.x.plen
  have h2 := h.y.plen
  have hs := h.s
  have hr := h.r
  have hel' := h.y.el
  obtain ⟨g1, e2, Q2, g2, g3, g4, g5⟩ := h.x.got0 h.y (told := e') (Nat.le_refl _) hkP h.aB (by omega) (by omega)
  have hq : P.getD k [] ∈ P := by
   rw [List.getD_eq_getElem?_getD, List.getElem?_eq_getElem hkP]
   exact List.getElem_mem _
  obtain ⟨ne, nl⟩ := h.x.ne _ hq
  have R0 := pkt0_read (n := k) (a := e') (b := P.getD k []) (by omega) (by omega) ne nl
  obtain ⟨t, ht⟩ : ∃ t, t = pkt 0 (k : Int) (e' : Int) (P.getD k []) := ⟨_, rfl⟩
  rw [← ht] at g1 g4 g5 R0
  have hm0 := h.y.m0
  have hT : Two A (B.gotE t) S R C D P b e2 (Q ++ Q2) (max b' e') e' := ⟨g4, g5, h.aA, got_a16 h.aB g1, h.fA, got_full _ _ h.y.w16, h.s, h.r⟩
  have hb' : max b' e' = e' := by have := h.y.be; omega
  obtain ⟨e3, Q3, k1, k2, k3, k4, k5, k6, k7, k8⟩ := hT.gets m (k := k + 1) (by omega) (g3 hke)
  have hstep : getsE B (pks P e' k (m + 1)) = getsE (B.gotE t) (pks P e' (k + 1) m) := by rw [pks, ← ht]; rfl
  rw [hstep]
  refine ⟨e3, Q2 ++ Q3, by omega, by omega, ?_, ?_, ?_, ?_, ?_, fun i => ?_⟩
  ·rw [if_neg (by omega), ← List.append_assoc]
   have : (if m = 0 then max b' e' else max (max b' e') e') = max b' e' := by split <;> omega
   rw [this] at k3
   exact k3
  ·rw [k4, got_ack (by omega) h.y.w16, R0.kd]
   simp
  ·intro hd
   exact k5 (got_due (by omega) h.y.w16 (ackn_due hd))
  ·intro _ he
   refine k5 (got_due (by omega) h.y.w16 ?_)
   rw [R0.tol]
   have hw := h.y.way.ack (told := e') (by rw [List.length_drop]; have := h.y.bl; omega)
   have h0 : (Q.drop b').drop (e' - b') = [] := by
    apply List.drop_eq_nil_of_le
    rw [List.length_drop]; omega
   rw [h0] at hw
   have hl := hw.len
   intro p hp
   have : ((B.ackn (e' : Int)).way).length = 0 := hl
   rw [List.length_eq_zero_iff] at this
   rw [this] at hp
   cases hp
  ·intro i u hu
   cases i with
   | zero =>
    rw [pks, ← ht] at hu
    simp at hu
    subst hu
    exact g1
   | succ i =>
    rw [pks, ← ht, List.take_succ_cons]
    rw [pks, List.getElem?_cons_succ] at hu
    exact k7 i u hu
  ·cases i with
   | zero => exact h.turn.ok
   | succ i =>
    rw [pks, ← ht, List.take_succ_cons]
    exact k8 i
theorem Two.getA {A B : En} {S R C D : List UInt8} {P : List (List UInt8)} {b e : Nat} {Q : List (List UInt8)} {b' e' : Nat} (h : Two A B S R C D P b e Q b' e') :
 ∃ Q2, Two A (B.gotE (pkt 1 0 (e' : Int) [])) S R C D P b e (Q ++ Q2) (max b' e') e' ∧ (B.gotE (pkt 1 0 (e' : Int) [])).ack = B.ack ∧ (Due B → Due (B.gotE (pkt 1 0 (e' : Int) []))) ∧ (e' = Q.length → Due (B.gotE (pkt 1 0 (e' : Int) []))) ∧ gotN B (pkt 1 0 (e' : Int) []) = 0 := by
 have h1 := h.x.plen
 have h2 := h.y.plen
 have hs := h.s
 have hr := h.r
 have hel' := h.y.el
 obtain ⟨g1, Q2, g4, g5⟩ := h.x.got1 h.y (told := e') (Nat.le_refl _) (by omega) (by omega)
 have R0 := pkt1_read (a := e') (by omega)
 have hm0 := h.y.m0
 generalize pkt 1 0 (e' : Int) [] = t at *
 refine ⟨Q2, ⟨g4, g5, h.aA, got_a16 h.aB g1, h.fA, got_full _ _ h.y.w16, h.s, h.r⟩, ?_, fun hd => got_due (by omega) h.y.w16 (ackn_due hd), fun he => ?_, g1⟩
 ·rw [got_ack (by omega) h.y.w16, R0.kd]
  show (B.ack || false) = _
  rw [Bool.or_false]
 ·refine got_due (by omega) h.y.w16 ?_
  rw [R0.tol]
  have hw := h.y.way.ack (told := e') (by rw [List.length_drop]; have := h.y.bl; omega)
  have h0 : (Q.drop b').drop (e' - b') = [] := by
   apply List.drop_eq_nil_of_le
   rw [List.length_drop]; omega
  rw [h0] at hw
  have hl := hw.len
  intro p hp
  have : ((B.ackn (e' : Int)).way).length = 0 := hl
  rw [List.length_eq_zero_iff] at this
  rw [this] at hp
  cases hp
theorem dueStr_pks {x : Int} {told : Nat} {X : En} (hx : X.exp = (told : Int)) {P : List (List UInt8)} : ∀ {w : List Pc} {k : Nat}, WayIs k w (P.drop k) → (∀ p ∈ w, p.due = true) → dueStr X w = pks P told k w.length
 | [], k, _, _ => rfl
 | p :: w, k, h, hd => by
  have hkP : k < P.length := by
   rcases Nat.lt_or_ge k P.length with h1 | h1
   ·exact h1
   ·rw [List.drop_eq_nil_of_le h1] at h
    cases h
  rw [List.drop_eq_getElem_cons hkP] at h
  obtain ⟨h1, h2, h3⟩ := h
  have ih := dueStr_pks (X := X) (x := x) hx h3 (fun q hq => hd q (List.mem_cons_of_mem _ hq))
  have hp := hd p (List.mem_cons_self ..)
  show dueStr X (p :: w) = pkt 0 (k : Int) (told : Int) (P.getD k []) :: pks P told (k + 1) w.length
  rw [← ih]
  simp only [dueStr]
  rw [List.filter_cons_of_pos (by simpa using hp), List.map_cons, h1, h2, hx, List.getD_eq_getElem?_getD, List.getElem?_eq_getElem hkP]
  rfl
def comes (X Y : En) : En := getsE Y X.dueP
theorem due_way_nil {X : En} (h : X.way = []) : X.dueP = if X.ack = true then [pkt 1 0 X.exp []] else [] := by
 unfold En.dueP
 rw [h]
 cases hx : X.ack
 ·rw [if_neg (by simp)]; rfl
 ·rw [if_pos ⟨rfl, rfl⟩]; rfl
theorem Two.half {A B : En} {S R C D : List UInt8} {P : List (List UInt8)} {b e : Nat} {Q : List (List UInt8)} {b' e' : Nat} (h : Two A B S R C D P b e Q b' e') (hd : Due A) (hB : Due B ∨ (A.ack = true ∧ e' = Q.length)) :
 ∃ Q2 b2, Two A.due (comes A B) S R C D P b P.length (Q ++ Q2) b2 e' ∧ Due (comes A B) ∧ (comes A B).ack = (B.ack || decide (A.way ≠ [])) ∧ (A.way ≠ [] ∨ A.ack = true → b2 = e') ∧ (A.way = [] → A.ack = false → b2 = b' ∧ Q2 = [] ∧ comes A B = B) ∧
  (∀ (i : Nat) (t : List UInt8), A.dueP[i]? = some t → gotN (getsE B (A.dueP.take i)) t = 0) ∧ (∀ i, (getsE B (A.dueP.take i)).Ok) := by
 have hel := h.x.el
 have hbe := h.x.be
 have hbl := h.x.bl
 have hx : A.exp = (e' : Int) := h.y.exp
 have hwl := h.x.way.len
 have hb'e := h.y.be
 rw [List.length_drop] at hwl
 have toDue : ∀ {B' : En} {e2 : Nat} {Q' : List (List UInt8)} {b2 : Nat}, Two A B' S R C D P b e2 Q' b2 e' → Two A.due B' S R C D P b e2 Q' b2 e' := fun {B' e2 Q' b2} ht =>
  ⟨ht.x.left rfl rfl (WayIs.map (f := fun p => { p with due := false }) (fun _ => rfl) (fun _ => rfl) ht.x.way) rfl (fun t ht => by cases ht), ht.y.right rfl rfl rfl, ht.aA, ht.aB, due_full ht.fA, ht.fB, ht.s, ht.r⟩
 by_cases hw : A.way = []
 ·have hl0 : A.way.length = 0 := by rw [hw]; rfl
  have heP : e = P.length := by omega
  cases ha : A.ack
  ·have hp : A.dueP = [] := by rw [due_way_nil hw, ha, if_neg Bool.false_ne_true]
   have hh : comes A B = B := by rw [comes, hp]; rfl
   rw [hh]
   have hDB : Due B := by
    rcases hB with h1 | ⟨h1, -⟩
    ·exact h1
    ·rw [ha] at h1; cases h1
   refine ⟨[], b', by rw [List.append_nil, ← heP]; exact toDue h, hDB, by simp [hw], fun h1 => ?_, fun _ _ => ⟨rfl, rfl, rfl⟩, fun i t ht => by rw [hp] at ht; simp at ht, fun i => by rw [hp, List.take_nil]; exact h.turn.ok⟩
   rcases h1 with h1 | h1
   ·exact absurd hw h1
   ·cases h1
  ·have hp : A.dueP = [pkt 1 0 (e' : Int) []] := by rw [due_way_nil hw, ha, if_pos rfl, hx]
   have hh : comes A B = B.gotE (pkt 1 0 (e' : Int) []) := by rw [comes, hp]; rfl
   obtain ⟨Q2, g1, g2, g3, g4, g5⟩ := h.getA
   rw [hh]
   refine ⟨Q2, max b' e', by rw [← heP]; exact toDue g1, ?_, by rw [g2]; simp [hw], fun _ => by omega, fun _ h2 => (by cases h2), fun i t ht => ?_, fun i => ?_⟩
   ·rcases hB with h1 | ⟨-, h1⟩
    ·exact g3 h1
    ·exact g4 h1
   ·rw [hp] at ht
    cases i with
    | zero => simp at ht; subst ht; exact g5
    | succ i => simp at ht
   ·rw [hp]
    cases i with
    | zero => exact h.turn.ok
    | succ i =>
     rw [List.take_succ_cons, List.take_nil]
     exact g1.turn.ok
 ·have hl0 : 0 < A.way.length := List.length_pos_iff.2 hw
  have hds := dueStr_pks (x := 0) hx h.x.way hd
  have hp : A.dueP = pks P e' b A.way.length := by
   unfold En.dueP
   rw [hds, if_neg]
   rintro ⟨h1, -⟩
   have : ∀ m, 0 < m → pks P e' b m ≠ [] := fun m hm => by cases m with | zero => omega | succ m => simp [pks]
   exact this _ hl0 h1
  obtain ⟨e2, Q2, g1, g2, g3, g4, g5, g6, g7, g8⟩ := h.gets A.way.length (k := b) (by omega) hbe
  have he2 : e2 = P.length := by
   have := g3.x.el
   omega
  subst he2
  have hh : comes A B = getsE B (pks P e' b A.way.length) := by rw [comes, hp]
  rw [hh]
  rw [if_neg (by omega)] at g3
  refine ⟨Q2, max b' e', toDue g3, ?_, by rw [g4]; simp [hw, hl0], fun _ => by omega, fun h1 => absurd h1 hw, fun i t ht => ?_, fun i => by rw [hp]; exact g8 i⟩
  ·rcases hB with h1 | ⟨-, h1⟩
   ·exact g5 h1
   ·exact g6 hl0 h1
  ·rw [hp] at ht ⊢
   exact g7 i t ht
def overB (A B : En) : En := (comes A B).due
def overA (A B : En) : En := comes (comes A B) A.due
structure Calm (k : Nat) (A B : En) (S R C D : List UInt8) : Prop where
 d : ∃ P b Q b', Two A B S R C D P b b Q b' Q.length ∧ (A.rest ≠ [] → 16 * k ≤ P.length) ∧ (B.rest ≠ [] → 16 * k ≤ Q.length)
 due : Due A
 ack : B.ack = false
 ackA : B.way ≠ [] → A.ack = true
theorem flat_nil {P X : List (List UInt8)} {r s : List UInt8} (h1 : P.flatten = s) (h2 : (P ++ X).flatten ++ r = s) : r = [] := by
 rw [List.flatten_append, h1, List.append_assoc] at h2
 have := congrArg List.length h2
 simp only [List.length_append] at this
 exact List.eq_nil_of_length_eq_zero (by omega)
theorem nz {α : Type} {l : List α} (h : l ≠ []) : 0 < l.length := List.length_pos_iff.2 h
structure OvOk (A B : En) : Prop where
 a : A.Ok
 g1 : ∀ (i : Nat) (t : List UInt8), A.dueP[i]? = some t → gotN (getsE B (A.dueP.take i)) t = 0
 o1 : ∀ i, (getsE B (A.dueP.take i)).Ok
 l1 : ∀ t ∈ A.dueP, t.length ≤ 3000
 g2 : ∀ (i : Nat) (t : List UInt8), (comes A B).dueP[i]? = some t → gotN (getsE A.due ((comes A B).dueP.take i)) t = 0
 o2 : ∀ i, (getsE A.due ((comes A B).dueP.take i)).Ok
 l2 : ∀ t ∈ (comes A B).dueP, t.length ≤ 3000
theorem Dir.dueLen {X Y P b e sent came T} (h : Dir X Y P b e sent came T) (hx : 0 ≤ X.exp) : ∀ t ∈ X.dueP, t.length ≤ 3000 := fun t ht => pkt_len ((h.due hx).pk t (List.mem_append_right _ ht)) h.ne
theorem Two.round {A B : En} {S R C D : List UInt8} {P : List (List UInt8)} {b e : Nat} {Q : List (List UInt8)} {b' e' : Nat} (h : Two A B S R C D P b e Q b' e') (hd : Due A) (hB : Due B ∨ (A.ack = true ∧ e' = Q.length)) (hBa : A.way = [] → A.ack = false → B.ack = false ∨ True) :
 ∃ P2 Q2 b2, Two (overA A B) (overB A B) S R C D (P ++ P2) P.length P.length (Q ++ Q2) b2 (Q ++ Q2).length ∧ Due (overA A B) ∧ (overB A B).ack = false ∧ ((overB A B).way ≠ [] → (overA A B).ack = true) ∧
  ((overB A B).way = [] → (overA A B).ack = false) ∧ (A.way ≠ [] ∨ A.ack = true → b2 = e') ∧ (A.way = [] → A.ack = false → b2 = b' ∧ Q2 = []) ∧
  OvOk A B := by
 obtain ⟨Q2, b2, g1, g2, g3, g4, g5, g6, g7⟩ := h.half hd hB
 have hAd : A.due.ack = false := rfl
 have hwA : A.due.way = [] ↔ A.way = [] := by
  show dueL A.way = [] ↔ _
  constructor
  ·intro h1
   have := congrArg List.length h1
   rw [dueL_len] at this
   exact List.eq_nil_of_length_eq_zero this
  ·intro h1; rw [h1]; rfl
 have hor : Due A.due ∨ ((comes A B).ack = true ∧ P.length = P.length) := by
  by_cases hw : A.way = []
  ·left
   intro p hp
   rw [hwA.2 hw] at hp
   cases hp
  ·right
   refine ⟨by rw [g3]; simp [hw], rfl⟩
 obtain ⟨P2, b3, k1, k2, k3, k4, k5, k6, k7⟩ := g1.turn.half g2 hor
 have hbP : b3 = P.length := by
  by_cases h1 : (comes A B).way ≠ [] ∨ (comes A B).ack = true
  ·exact k4 h1
  ·have hw1 : (comes A B).way = [] := by
    rcases Decidable.em ((comes A B).way = []) with h2 | h2
    ·exact h2
    ·exact absurd (.inl h2) h1
   have ha1 : (comes A B).ack = false := by
    cases h2 : (comes A B).ack
    ·rfl
    ·exact absurd (.inr h2) h1
   obtain ⟨h2, -, -⟩ := k5 hw1 ha1
   have hwn : A.way = [] := by
    rcases Decidable.em (A.way = []) with h3 | h3
    ·exact h3
    ·rw [g3] at ha1; simp [h3] at ha1
   have hl := h.x.way.len
   rw [hwn, List.length_drop] at hl
   have hbl := h.x.bl
   have : A.way.length = 0 := by rw [hwn]; rfl
   simp only [List.length_nil] at hl
   rw [h2]; omega
 rw [hbP] at k1
 have hO := k1.turn
 have hwB : (overB A B).way = [] ↔ (comes A B).way = [] := by
  show dueL (comes A B).way = [] ↔ _
  constructor
  ·intro h1
   have := congrArg List.length h1
   rw [dueL_len] at this
   exact List.eq_nil_of_length_eq_zero this
  ·intro h1; rw [h1]; rfl
 refine ⟨P2, Q2, b2, hO, k2, rfl, fun hw => ?_, fun hw => ?_, g4, fun h1 h2 => ?_, ?_⟩
 ·show (comes (comes A B) A.due).ack = true
  rw [k3]
  have : (comes A B).way ≠ [] := fun h1 => hw (hwB.2 h1)
  simp [this]
 ·show (comes (comes A B) A.due).ack = false
  rw [k3, hwB.1 hw, hAd]
  simp
 ·exact ⟨(g5 h1 h2).1, (g5 h1 h2).2.1⟩
 ·have hx1 : A.exp = (e' : Int) := h.y.exp
  have hx2 : (comes A B).exp = (P.length : Int) := g1.x.exp
  exact ⟨h.ok, g6, g7, h.x.dueLen (by omega), k6, k7, g1.y.dueLen (by omega)⟩
theorem rest_nil {A B A' B' : En} {P P2 : List (List UInt8)} {b e b2 e2 : Nat} {S C T T' : List UInt8 } {x y} (h : Dir A B P b e S C x) (h2 : Dir A' B' (P ++ P2) b2 e2 S C y) (hr : A.rest = []) : A'.rest = [] := by
 have h3 := h.sent
 rw [hr, List.append_nil] at h3
 exact flat_nil h3 h2.sent
theorem Two.first {A B : En} {S R C D : List UInt8} {P : List (List UInt8)} {b e : Nat} {Q : List (List UInt8)} {b' e' : Nat} (h : Two A B S R C D P b e Q b' e') (hd : Due A) (hB : Due B) :
 Calm 0 (overA A B) (overB A B) S R C D ∧ OvOk A B := by
 obtain ⟨P2, Q2, b2, g1, g2, g3, g4, -, -, -, g9⟩ := h.round hd (.inl hB) (fun _ _ => .inr trivial)
 exact ⟨⟨⟨_, _, _, _, g1, fun _ => by omega, fun _ => by omega⟩, g2, g3, g4⟩, g9⟩
theorem Calm.next {k : Nat} {A B : En} {S R C D : List UInt8} (h : Calm k A B S R C D) : Calm (k + 1) (overA A B) (overB A B) S R C D ∧ OvOk A B ∧
 (A.rest = [] → B.rest = [] → (overA A B).way = [] ∧ (overB A B).way = [] ∧ (overA A B).ack = false ∧ (overB A B).ack = false ∧ C ++ (overB A B).read = S ∧ D ++ (overA A B).read = R ∧ (overA A B).rest = [] ∧ (overB A B).rest = []) := by
 obtain ⟨P, b, Q, b', h1, hp, hq⟩ := h.d
 have hB : Due B ∨ (A.ack = true ∧ Q.length = Q.length) := by
  by_cases hw : B.way = []
  ·left; intro p hm; rw [hw] at hm; cases hm
  ·exact .inr ⟨h.ackA hw, rfl⟩
 obtain ⟨P2, Q2, b2, g1, g2, g3, g4, g5, g6, g7, g9⟩ := h1.round h.due hB (fun _ _ => .inr trivial)
 have hwA := g1.x.way.len
 have hwB := g1.y.way.len
 rw [List.length_drop, List.length_append] at hwA hwB
 have hbl2 := g1.y.bl
 rw [List.length_append] at hbl2
 have hlA := h1.x.way.len
 have hlB := h1.y.way.len
 rw [List.length_drop] at hlA hlB
 have hb2 : b2 = Q.length ∨ (B.way = [] ∧ A.way = [] ∧ A.ack = false ∧ b2 = b' ∧ Q2 = []) := by
  by_cases h2 : A.way ≠ [] ∨ A.ack = true
  ·exact .inl (g6 h2)
  ·right
   have hw : A.way = [] := by
    rcases Decidable.em (A.way = []) with h3 | h3
    ·exact h3
    ·exact absurd (.inl h3) h2
   have ha : A.ack = false := by
    cases h3 : A.ack
    ·rfl
    ·exact absurd (.inr h3) h2
   have hbw : B.way = [] := by
    rcases Decidable.em (B.way = []) with h3 | h3
    ·exact h3
    ·rw [h.ackA h3] at ha; cases ha
   exact ⟨hbw, hw, ha, g7 hw ha⟩
 have hb'l := h1.y.bl
 have hbl1 := h1.x.bl
 have hb2q : b2 = Q.length := by
  rcases hb2 with h2 | ⟨h2, -, -, h3, h4⟩
  ·exact h2
  ·rw [h2] at hlB
   simp only [List.length_nil] at hlB
   omega
 have rA : A.rest = [] → (overA A B).rest = [] := fun hr => rest_nil (T := []) (T' := []) h1.x g1.x hr
 have rB : B.rest = [] → (overB A B).rest = [] := fun hr => rest_nil (T := []) (T' := []) h1.y g1.y hr
 refine ⟨⟨⟨_, _, _, _, g1, fun hr => ?_, fun hr => ?_⟩, g2, g3, g4⟩, g9, fun eA eB => ?_⟩
 ·have h2 := hp (fun h3 => hr (rA h3))
  have h4 : (overA A B).way.length = 16 := g1.fA.resolve_right hr
  rw [List.length_append]; omega
 ·have h2 := hq (fun h3 => hr (rB h3))
  have h4 : (overB A B).way.length = 16 := g1.fB.resolve_right hr
  rw [List.length_append]; omega
 ·have eA : A.rest = [] := by
   rcases Decidable.em (A.rest = []) with h2 | h2
   ·exact h2
   ·have h3 := hp h2
    have h4 := h1.x.plen
    have h5 := nz h2
    omega
  have eB : B.rest = [] := by
   rcases Decidable.em (B.rest = []) with h2 | h2
   ·exact h2
   ·have h3 := hq h2
    have h4 := h1.y.plen
    have h5 := nz h2
    omega
  have zP : P2 = [] := by
   have h2 := h1.x.sent
   rw [eA, List.append_nil] at h2
   have h3 := g1.x.sent
   rw [rA eA, List.append_nil, List.flatten_append, h2] at h3
   have h4 : P2.flatten = [] := by
    have := congrArg List.length h3
    rw [List.length_append] at this
    exact List.eq_nil_of_length_eq_zero (by omega)
   rcases Decidable.em (P2 = []) with h5 | h5
   ·exact h5
   ·have h6 := flat_le (P := P2) (fun q hq => g1.x.ne q (List.mem_append_right _ hq))
    have h7 := nz h5
    rw [h4] at h6
    simp only [List.length_nil] at h6
    omega
  have zQ : Q2 = [] := by
   have h2 := h1.y.sent
   rw [eB, List.append_nil] at h2
   have h3 := g1.y.sent
   rw [rB eB, List.append_nil, List.flatten_append, h2] at h3
   have h4 : Q2.flatten = [] := by
    have := congrArg List.length h3
    rw [List.length_append] at this
    exact List.eq_nil_of_length_eq_zero (by omega)
   rcases Decidable.em (Q2 = []) with h5 | h5
   ·exact h5
   ·have h6 := flat_le (P := Q2) (fun q hq => g1.y.ne q (List.mem_append_right _ hq))
    have h7 := nz h5
    rw [h4] at h6
    simp only [List.length_nil] at h6
    omega
  rw [zP] at hwA g1
  rw [zQ] at hwB g1
  simp only [List.length_nil, List.append_nil] at hwA hwB g1
  have w1 : (overA A B).way = [] := List.eq_nil_of_length_eq_zero (by omega)
  have w2 : (overB A B).way = [] := List.eq_nil_of_length_eq_zero (by omega)
  refine ⟨w1, w2, g5 w2, g3, ?_, ?_, rA eA, rB eB⟩
  ·rw [g1.x.came, ← g1.x.sent, rA eA, List.append_nil, List.take_of_length_le (Nat.le_refl _)]
  ·rw [g1.y.came, ← g1.y.sent, rB eB, List.append_nil, List.take_of_length_le (Nat.le_refl _)]
theorem Two.tick {A B S R C D P b e Q b' e'} (h : Two A B S R C D P b e Q b' e') : Two A.tick B.tick S R C D P b e Q b' e' :=
 ⟨h.x.tick.right rfl rfl rfl, h.y.tick.right rfl rfl rfl, h.aA, h.aB, tick_full h.fA, tick_full h.fB, h.s, h.r⟩
theorem Calm.tick {k : Nat} {A B : En} {S R C D : List UInt8} (h : Calm k A B S R C D) : Calm k A.tick B.tick S R C D := by
 obtain ⟨P, b, Q, b', h1, hp, hq⟩ := h.d
 have hw : B.tick.way = [] → B.way = [] := fun h2 => by
  have := congrArg List.length h2
  rw [show B.tick.way = tickL B.way from rfl, tickL_len] at this
  exact List.eq_nil_of_length_eq_zero this
 refine ⟨⟨P, b, Q, b', ⟨h1.x.tick.right rfl rfl rfl, h1.y.tick.right rfl rfl rfl, h1.aA, h1.aB, tick_full h1.fA, tick_full h1.fB, h1.s, h1.r⟩, hp, hq⟩, tick_due A, h.ack, fun h2 => h.ackA (fun h3 => h2 (by show tickL B.way = []; rw [h3]; rfl))⟩
end Go.Proofs.Lk
set_option maxRecDepth 100000
set_option linter.unusedSimpArgs false
set_option linter.unusedVariables false
namespace Go.Proofs.Sh
open Go.Pv
theorem ixS_get (v : Bys) : ∀ (l : List Bys) (i : Nat), (ixS v l i = -1 ∧ v ∉ l) ∨ ∃ j : Nat, ixS v l i = ((i + j : Nat) : Int) ∧ j < l.length ∧ l.getD j [] = v
 | [], i => .inl ⟨rfl, by simp⟩
 | x :: l, i => by
  unfold ixS
  split
  ·rename_i h
   have : v = x := by simpa using h
   exact .inr ⟨0, rfl, by simp, this.symm⟩
  ·rename_i h
   rcases ixS_get v l (i + 1) with ⟨h1, h2⟩ | ⟨j, h1, h2, h3⟩
   ·refine .inl ⟨h1, fun hm => ?_⟩
    rcases List.mem_cons.1 hm with hm | hm
    ·exact h (by rw [hm]; simp)
    ·exact h2 hm
   ·exact .inr ⟨j + 1, by rw [h1]; congr 1; omega, by simp; omega, by simpa using h3⟩
theorem u8w_nat {j : Nat} (h : j < 256) : (u8w (j : Int)).toNat = j := by
 have hw : IntKind.u8.wrap (j : Int) = (j : Int) := by
  simp [IntKind.wrap, IntKind.signed, IntKind.bits, IntKind.max, IntKind.min]
  omega
 unfold u8w
 rw [hw, Int.toNat_natCast, UInt8.toNat_ofNat']
 omega
def chgB (a b : Bys) (i : Nat) : Bys := (chgP a b i).map Pv.byteOf
theorem chgB_cons (x y : UInt8) (a b : Bys) (i : Nat) : chgB (x :: a) (y :: b) i = (if (x != y) = true then [u8w ((i : Int).fdiv 256), u8w (i : Int), y] else []) ++ chgB a b (i + 1) := by
 unfold chgB
 rw [chgP, List.map_append]
 congr 1
 split
 ·simp [Pv.byteOf, u8w]
 ·rfl
theorem at2_u8w {i : Nat} (h : i < 65536) : at2 (u8w ((i : Int).fdiv 256)) (u8w (i : Int)) = i := by
 have h1 : (i : Int).fdiv 256 = ((i / 256 : Nat) : Int) := by
  rw [Int.fdiv_eq_ediv_of_nonneg _ (by omega)]
  omega
 have h2 : IntKind.u8.wrap (i : Int) = ((i % 256 : Nat) : Int) := by
  simp [IntKind.wrap, IntKind.signed, IntKind.bits, IntKind.max, IntKind.min]
 unfold at2
 rw [h1, u8w_nat (by omega)]
 unfold u8w
 rw [h2, Int.toNat_natCast, UInt8.toNat_ofNat']
 omega
theorem chgd_chgB : ∀ (x y pre : Bys) (i : Nat) (l : Int), x.length = y.length → pre.length = i → i + x.length ≤ 65536 → l < (i : Int) → chgd (pre ++ x) l (chgB x y i) = (pre ++ y, 0)
 | [], [], pre, i, l, _, _, _, _ => by
  rw [show chgB [] [] i = [] from rfl, chgd]
  intro a b c d h
  cases h
 | x :: a, y :: b, pre, i, l, hl, hp, hi, hL => by
  simp only [List.length_cons] at hl hi
  have hl' : a.length = b.length := by omega
  rw [chgB_cons]
  cases hxy : (x != y) with
  | false =>
   have hx : x = y := by simpa using hxy
   subst hx
   rw [if_neg (by decide), List.nil_append]
   have ih := chgd_chgB a b (pre ++ [x]) (i + 1) l hl' (by simp; omega) (by omega) (by omega)
   rw [List.append_assoc, List.append_assoc] at ih
   exact ih
  | true =>
   rw [if_pos rfl]
   simp only [List.cons_append, List.nil_append]
   rw [chgd, at2_u8w (by omega), if_neg (by simp; omega), if_neg (by simp; omega)]
   have hg : (pre ++ x :: a).getD i 0 = x := by rw [List.getD_eq_getElem?_getD, List.getElem?_append_right (by omega), hp, Nat.sub_self]; rfl
   have hs : (pre ++ x :: a).set i y = (pre ++ [y]) ++ a := by rw [List.set_append_right _ _ (by omega), hp, Nat.sub_self, List.append_assoc]; rfl
   have hne : ¬ (((x.toNat : Int)) == (y.toNat : Int)) = true := by
    intro h
    have h2 : x.toNat = y.toNat := by have := of_decide_eq_true (by simpa using h : decide ((x.toNat : Int) = y.toNat) = true); omega
    have h3 : x = y := UInt8.toNat_inj.1 h2
    rw [h3] at hxy; simp at hxy
   rw [hg, if_neg hne, hs]
   have ih := chgd_chgB a b (pre ++ [y]) (i + 1) (i : Int) hl' (by simp; omega) (by omega) (by omega)
   rw [List.append_assoc pre [y] b] at ih
   exact ih
 | [], _ :: _, _, _, _, h, _, _, _ => by simp at h
 | _ :: _, [], _, _, _, h, _, _, _ => by simp at h
theorem chgB_mod : ∀ (x y : Bys) (i : Nat), (chgB x y i).length % 3 = 0
 | [], y, i => by cases y <;> rfl
 | x :: a, [], i => rfl
 | x :: a, y :: b, i => by
  have := chgB_mod a b (i + 1)
  rw [chgB_cons, List.length_append]
  split
  ·simp only [List.length_cons, List.length_nil]; omega
  ·simp only [List.length_nil]; omega
theorem chgB_ne : ∀ (x y : Bys) (i : Nat), x.length = y.length → x ≠ y → chgB x y i ≠ []
 | [], [], i, _, h => absurd rfl h
 | x :: a, y :: b, i, hl, h => by
  rw [chgB_cons]
  cases hxy : (x != y) with
  | true => rw [if_pos rfl]; simp
  | false =>
   have hx : x = y := by simpa using hxy
   subst hx
   rw [if_neg (by decide), List.nil_append]
   exact chgB_ne a b (i + 1) (by simpa using hl) (fun e => h (by rw [e]))
 | [], _ :: _, _, h, _ => by simp at h
 | _ :: _, [], _, h, _ => by simp at h
theorem rd_sh {c : Cc} (hc : c.Ok) {b : Bys} (hb : b.length ≤ 65536) : rdS c.k (c.sh b) = (b, 0) := by
 have hk := hc.k
 rcases ixS_get b c.k 0 with ⟨h1, h2⟩ | ⟨j, h1, h2, h3⟩
 ·unfold Cc.sh
  rw [h1, if_neg (by decide)]
  split
  ·rename_i hx
   rw [Bool.and_eq_true] at hx
   rcases nearL_at b c.k 0 (-1) 0 c.k (fun j x hx => by rwa [Nat.zero_add]) (.inl rfl) with h | ⟨j, h, x, hxj, hl⟩
   ·rw [h] at hx; exact absurd hx.1 (by decide)
   ·have hj : j < c.k.length := by rw [List.getElem?_eq_some_iff] at hxj; exact hxj.1
    rw [h, Int.toNat_natCast, List.getD_eq_getElem?_getD, hxj, Option.getD_some]
    show rdS c.k (2 :: u8w (j : Int) :: chgB x b 0) = _
    have hne : x ≠ b := fun e => h2 (by rw [← e]; exact List.mem_of_getElem? hxj)
    have hcn := chgB_ne x b 0 hl hne
    unfold rdS
    simp only
    rw [if_neg (by decide), if_neg (by decide), if_pos (by decide)]
    unfold rd2
    have hcl : 0 < (chgB x b 0).length := List.length_pos_iff.2 hcn
    rw [if_neg (by simp; omega)]
    have hg : (u8w (j : Int) :: chgB x b 0).getD 0 0 = u8w (j : Int) := rfl
    rw [hg, u8w_nat (by omega), if_neg (by simp; omega)]
    rw [List.getD_eq_getElem?_getD, hxj, Option.getD_some]
    show chgR x (chgB x b 0) = _
    unfold chgR
    rw [if_neg (by simpa using hcn), if_neg (by rw [chgB_mod]; decide)]
    exact chgd_chgB x b [] 0 (-1) hl rfl (by omega) (by decide)
  ·unfold rdS
   simp only
   rw [if_pos (by decide), if_neg (by simp; omega)]
 ·unfold Cc.sh
  rw [Nat.zero_add] at h1
  rw [h1, if_pos (by simp)]
  unfold rdS
  simp only
  rw [if_neg (by decide), if_pos (by decide)]
  unfold rd1
  have hg : [u8w (j : Int)].getD 0 0 = u8w (j : Int) := rfl
  rw [if_neg (by simp), hg, u8w_nat (by omega), if_neg (by simp; omega), h3]
theorem get_sh {c : Cc} (hc : c.Ok) {b : Bys} (hb : b.length ≤ 65536) : c.get (c.sh b) = (c.put b, b, 0) := by
 unfold Cc.get
 rw [if_neg (by have := hc.m0; omega), rd_sh hc hb]
 rfl
def cntB : Bys → Bys → Nat
 | x :: a, y :: b => (if (x != y) = true then 1 else 0) + cntB a b
 | _, _ => 0
theorem chgP_cnt : ∀ (a b : Bys) (i : Nat), (chgP a b i).length = 3 * cntB a b
 | [], b, i => by cases b <;> rfl
 | x :: a, [], i => rfl
 | x :: a, y :: b, i => by
  have := chgP_cnt a b (i + 1)
  rw [chgP, cntB, List.length_append, this]
  split
  ·simp only [List.length_cons, List.length_nil]; omega
  ·simp only [List.length_nil]; omega
theorem cntB_le : ∀ a b : Bys, cntB a b ≤ a.length
 | [], b => by cases b <;> simp [cntB]
 | x :: a, [] => by simp [cntB]
 | x :: a, y :: b => by
  have := cntB_le a b
  rw [cntB, List.length_cons]
  split <;> omega
theorem cntD_or (p l : Int) : ∀ (a b : Bys) (n : Nat), cntD p l a b n = n + cntB a b ∨ (0 ≤ p ∧ l ≤ (cntD p l a b n : Nat))
 | [], b, n => .inl (by cases b <;> simp [cntD, cntB])
 | x :: a, [], n => .inl (by simp [cntD, cntB])
 | x :: a, y :: b, n => by
  unfold cntD
  rw [cntB]
  split
  ·split
   ·rename_i h
    rw [Bool.and_eq_true] at h
    have h1 := of_decide_eq_true h.1
    have h2 := of_decide_eq_true h.2
    exact .inr ⟨h1, by omega⟩
   ·rcases cntD_or p l a b (n + 1) with h | h
    ·exact .inl (by omega)
    ·exact .inr h
  ·rcases cntD_or p l a b n with h | h
   ·exact .inl (by omega)
   ·exact .inr h
theorem nearL_cnt (b : Bys) : ∀ (L : List Bys) (i : Nat) (p l : Int) (M : List Bys), (∀ (j : Nat) (x : Bys), L[j]? = some x → M[i + j]? = some x) → (p = -1 ∨ ∃ j : Nat, p = (j : Int) ∧ ∃ x, M[j]? = some x ∧ l = (cntB x b : Nat)) →
 ((nearL b L i p l).1 = -1 ∨ ∃ j : Nat, (nearL b L i p l).1 = (j : Int) ∧ ∃ x, M[j]? = some x ∧ (nearL b L i p l).2 = (cntB x b : Nat))
 | [], i, p, l, M, hM, h => h
 | k :: ks, i, p, l, M, hM, h => by
  have hM' : ∀ (j : Nat) (x : Bys), ks[j]? = some x → M[i + 1 + j]? = some x := fun j x hx => by rw [show i + 1 + j = i + (j + 1) by omega]; exact hM (j + 1) x (by simpa using hx)
  unfold nearL
  split
  ·exact nearL_cnt b ks (i + 1) p l M hM' h
  ·split
   ·rename_i hc
    refine nearL_cnt b ks (i + 1) _ _ M hM' (.inr ⟨i, rfl, k, by simpa using hM 0 k rfl, ?_⟩)
    rcases cntD_or p l k b 0 with h1 | ⟨h1, h2⟩
    ·rw [h1, Nat.zero_add]
    ·rw [Bool.or_eq_true] at hc
     rcases hc with hc | hc
     ·have := of_decide_eq_true hc; omega
     ·have := of_decide_eq_true hc; omega
   ·exact nearL_cnt b ks (i + 1) p l M hM' h
theorem sh_le {c : Cc} (hc : c.Ok) {b : Bys} (hb1 : 1 ≤ b.length) (hb2 : b.length ≤ 65536) : (c.sh b).length ≤ 1 + b.length := by
 unfold Cc.sh
 split
 ·simp; omega
 ·split
  ·rename_i hx
   rw [Bool.and_eq_true] at hx
   obtain ⟨hx1, hx2⟩ := hx
   rcases nearL_cnt b c.k 0 (-1) 0 c.k (fun j x hx => by rwa [Nat.zero_add]) (.inl rfl) with h | ⟨j, h, x, hxj, hl⟩
   ·rw [h] at hx1; exact absurd hx1 (by decide)
   ·have hxl := hc.b x (List.mem_of_getElem? hxj)
    have hcn := cntB_le x b
    rw [h, Int.toNat_natCast, List.getD_eq_getElem?_getD, hxj, Option.getD_some, List.length_append, List.length_map, chgP_cnt]
    rw [hl] at hx2
    have w1 : IntKind.i64.wrap (3 * ((cntB x b : Nat) : Int)) = 3 * ((cntB x b : Nat) : Int) := wrap_i64_id (by omega) (by omega)
    have w2 : IntKind.i64.wrap (2 + 3 * ((cntB x b : Nat) : Int)) = 2 + 3 * ((cntB x b : Nat) : Int) := wrap_i64_id (by omega) (by omega)
    have w3 : IntKind.i64.wrap (1 + (b.length : Int)) = 1 + (b.length : Int) := wrap_i64_id (by omega) (by omega)
    rw [w1, w2, w3] at hx2
    have := of_decide_eq_true hx2
    simp only [List.length_cons, List.length_nil]
    omega
  ·simp only [List.length_cons]; omega
end Go.Proofs.Sh
set_option maxRecDepth 100000
set_option linter.unusedSimpArgs false
set_option linter.unusedVariables false
namespace Go.Proofs.Sh
open Go.Pv
open Lk (En Pc)
theorem dec_enc4 (v : Int) : (decU 1 (encB 1 4 v) : Int) = v % 4294967296 := by
 have h0 := byteAt_toNat v 0
 have h1 := byteAt_toNat v 1
 have h2 := byteAt_toNat v 2
 have h3 := byteAt_toNat v 3
 simp only [Int.reducePow] at h0 h1 h2 h3
 simp [encB, decU, little, List.range_succ]
 omega
theorem four_frame {n : Nat} (h : n ≤ 1000000) (x : Bys) : fourN (putS 1 4 (n : Int) ++ x) = n := by
 obtain ⟨h1, -⟩ := putS_4 h
 have hf : fitsN 4 (n : Int) = true := by simp [fitsN, low, high]; omega
 have hd := dec_enc4 (n : Int)
 have hp : putS 1 4 (n : Int) = encB 1 4 (n : Int) := by unfold putS; rw [if_pos hf]; rfl
 unfold fourN
 rw [List.take_left' h1]
 unfold getV
 rw [if_pos (by rw [h1]; rfl), hp]
 unfold readV
 have hh : high 4 = 4294967295 := by decide
 rw [if_neg (by rw [hh]; simp; omega)]
 omega
def frs : Cc → List Bys → Bys
 | _, [] => []
 | c, m :: M => frame (c.sh m) ++ frs (c.put m) M
def cfd (c : Cc) (M : List Bys) : Cc := M.foldl Cc.put c
theorem frs_app : ∀ (M N : List Bys) (c : Cc), frs c (M ++ N) = frs c M ++ frs (cfd c M) N
 | [], N, c => rfl
 | m :: M, N, c => by
  show frame (c.sh m) ++ frs (c.put m) (M ++ N) = _
  rw [frs_app M N (c.put m)]
  simp only [frs, cfd, List.foldl_cons, List.append_assoc]
theorem frame_len {c : Cc} (hc : c.Ok) {m : Bys} (h1 : 1 ≤ m.length) (h2 : m.length ≤ 65536) : (frame (c.sh m)).length = 4 + (c.sh m).length ∧ (c.sh m).length ≤ 65537 := by
 have h := sh_le hc h1 h2
 unfold frame
 rw [List.length_append, (putS_4 (n := (c.sh m).length) (by omega)).1]
 exact ⟨rfl, by omega⟩
theorem shr_frs : ∀ (f : Nat) (h : Hf) (M : List Bys), h.l.Ok → (∀ m ∈ M, 1 ≤ m.length ∧ m.length ≤ 65536) → h.fr <+: frs h.l M → h.fr.length < f →
 ∃ M1 M2 fr, M = M1 ++ M2 ∧ Hf.shr f h = { h with fr := fr, l := cfd h.l M1, out := h.out ++ M1.flatten } ∧ h.fr = frs h.l M1 ++ fr ∧ fr <+: frs (cfd h.l M1) M2 ∧
  (∀ m M3, M2 = m :: M3 → fr.length < (frame ((cfd h.l M1).sh m)).length)
 | 0, h, M, _, _, _, hf => absurd hf (Nat.not_lt_zero _)
 | f + 1, h, M, hl, hM, hp, hf => by
  have stop : ∀ (hM2 : ∀ m M3, M = m :: M3 → h.fr.length < (frame (h.l.sh m)).length), Hf.shr (f + 1) h = h → ∃ M1 M2 fr, M = M1 ++ M2 ∧ Hf.shr (f + 1) h = { h with fr := fr, l := cfd h.l M1, out := h.out ++ M1.flatten } ∧ h.fr = frs h.l M1 ++ fr ∧ fr <+: frs (cfd h.l M1) M2 ∧
   (∀ m M3, M2 = m :: M3 → fr.length < (frame ((cfd h.l M1).sh m)).length) := by
   intro hM2 hs
   refine ⟨[], M, h.fr, rfl, ?_, rfl, hp, hM2⟩
   rw [hs]
   simp [cfd]
  by_cases h4 : 4 ≤ h.fr.length
  ·cases M with
   | nil =>
    have := hp.length_le
    simp [frs] at this
    rw [this] at h4
    simp at h4
   | cons m M =>
    obtain ⟨hm1, hm2⟩ := hM m List.mem_cons_self
    obtain ⟨l1, l2⟩ := frame_len hl hm1 hm2
    obtain ⟨x, hx⟩ := hp
    have hP4 := (putS_4 (n := (h.l.sh m).length) (by omega)).1
    have hfo : fourN h.fr = ((h.l.sh m).length : Int) := by
     have e1 : fourN h.fr = fourN (h.fr ++ x) := by unfold fourN; rw [List.take_append_of_le_length h4]
     rw [e1, hx]
     show fourN (frame (h.l.sh m) ++ _) = _
     unfold frame
     rw [List.append_assoc]
     exact four_frame (by omega) _
    by_cases hlt : h.fr.length < (frame (h.l.sh m)).length
    ·refine stop (fun m' M3 e => ?_) ?_
     ·cases e; exact hlt
     ·rw [Hf.shr, hfo, if_pos (by simp; omega), if_neg (by simp; omega), if_pos (by simp; omega)]
    ·
     have hle : (frame (h.l.sh m)).length ≤ h.fr.length := by omega
     have e2 : h.fr = frame (h.l.sh m) ++ h.fr.drop (frame (h.l.sh m)).length := by
      have e3 : (h.fr ++ x).take (frame (h.l.sh m)).length = frame (h.l.sh m) := by
       rw [hx]
       show (frame (h.l.sh m) ++ _).take _ = _
       exact List.take_left
      rw [List.take_append_of_le_length hle] at e3
      conv => lhs; rw [← List.take_append_drop (frame (h.l.sh m)).length h.fr, e3]
     have e5 : (h.fr.drop 4).take (h.l.sh m).length = h.l.sh m := by
      rw [e2]
      unfold frame
      rw [List.append_assoc, List.drop_left' hP4]
      exact List.take_left
     have e6 : 4 + (h.l.sh m).length = (frame (h.l.sh m)).length := l1.symm
     rw [Hf.shr, hfo, if_pos (by simp; omega), if_neg (by simp; omega), if_neg (by simp; omega), Int.toNat_natCast, e5, get_sh hl hm2, if_neg (by show ¬ ((0 : Int) != 0) = true; decide), e6]
     simp only
     have hfl : (h.fr.drop (frame (h.l.sh m)).length).length = h.fr.length - (frame (h.l.sh m)).length := List.length_drop
     obtain ⟨M1, M2, fr, a1, a2, a3, a4, a5⟩ := shr_frs f { h with fr := h.fr.drop (frame (h.l.sh m)).length, l := h.l.put m, out := h.out ++ m } M (hl.put hm2) (fun q hq => hM q (List.mem_cons_of_mem _ hq)) (by
      refine ⟨x, ?_⟩
      rw [e2, List.append_assoc] at hx
      have hx' : frame (h.l.sh m) ++ (h.fr.drop (frame (h.l.sh m)).length ++ x) = frame (h.l.sh m) ++ frs (h.l.put m) M := hx
      exact List.append_cancel_left hx') (by show (h.fr.drop (frame (h.l.sh m)).length).length < f; omega)
     refine ⟨m :: M1, M2, fr, by rw [a1]; rfl, ?_, ?_, a4, a5⟩
     ·rw [a2]
      simp only [List.flatten_cons, List.append_assoc]
      rfl
     ·have a3' : h.fr.drop (frame (h.l.sh m)).length = frs (h.l.put m) M1 ++ fr := a3
      rw [e2, a3', ← List.append_assoc]
      rfl
  ·refine stop (fun m M3 e => ?_) ?_
   ·subst e
    obtain ⟨hm1, hm2⟩ := hM m List.mem_cons_self
    obtain ⟨l1, l2⟩ := frame_len hl hm1 hm2
    omega
   ·rw [Hf.shr, if_neg (by simp; omega)]
end Go.Proofs.Sh
set_option maxRecDepth 100000
set_option linter.unusedSimpArgs false
set_option linter.unusedVariables false
namespace Go.Proofs.Sh
open Go.Pv
open Lk (En Pc)
def adR (x : Bys) (e : En) : En := { e with read := x ++ e.read }
theorem adR_numL (x : Bys) : ∀ (k : Nat) (e : En), Lk.numL k (adR x e) = adR x (Lk.numL k e)
 | 0, e => rfl
 | k + 1, e => by
  unfold Lk.numL
  show (if (e.rest != [] && decide ((e.way.length : Int) < 16)) = true then Lk.numL k (adR x e).num1 else adR x e) = _
  split
  ·exact adR_numL x k e.num1
  ·rfl
theorem adR_shL (x : Bys) : ∀ (k : Nat) (e : En), Lk.shL k (adR x e) = adR x (Lk.shL k e)
 | 0, e => rfl
 | k + 1, e => by
  unfold Lk.shL
  show (if (e.aside 0 != []) = true then Lk.shL k (adR x e).shift else adR x e) = _
  split
  ·have : (adR x e).shift = adR x e.shift := by simp only [adR, Lk.En.shift, List.append_assoc]
   rw [this]
   exact adR_shL x k e.shift
  ·rfl
theorem adR_took (x : Bys) (e : En) (n : Int) (b : Bys) : (adR x e).took n b = adR x (e.took n b) := by
 unfold Lk.En.took
 show (if decide (n < e.exp) = true then (adR x e).acked else if (e.aside (n - e.exp).toNat != []) = true then (adR x e).acked else Lk.shL 17 ((adR x e).acked.lay (n - e.exp).toNat b)) = _
 split
 ·rfl
 ·split
  ·rfl
  ·exact adR_shL x 17 (e.acked.lay (n - e.exp).toNat b)
theorem adR_got (x : Bys) (e : En) (p : Bys) : (adR x e).gotE p = adR x (e.gotE p) := by
 unfold Lk.En.gotE
 split
 ·have h1 : ((adR x e).ackn (Lk.tol p)).took (Lk.nu p) (Lk.bd p) = adR x ((e.ackn (Lk.tol p)).took (Lk.nu p) (Lk.bd p)) := adR_took x (e.ackn (Lk.tol p)) _ _
  rw [h1]
  exact adR_numL x 17 _
 ·exact adR_numL x 17 (e.ackn (Lk.tol p))
theorem adR_clear (x : Bys) (e : En) : adR x e = adR (x ++ e.read) { e with read := [] } := by simp [adR]
def Whl (n : Nat) (e : En) : Prop := e.rest ≠ [] → 16 * (e.next - 16) + (e.rest.length : Int) ≤ n
theorem Whl.numL {n : Nat} : ∀ (k : Nat) {e : En}, 16 ≤ e.most → Whl n e → Whl n (Lk.numL k e)
 | 0, e, _, h => h
 | k + 1, e, hm, h => by
  unfold Lk.numL
  split
  ·rename_i hc
   rw [Bool.and_eq_true] at hc
   have hr : e.rest ≠ [] := by simpa using hc.1
   refine Whl.numL k hm (fun hr2 => ?_)
   have h1 := h hr
   have h2 : (e.rest.drop e.mn.toNat).length = e.rest.length - e.mn.toNat := List.length_drop
   have h3 : 0 < (e.rest.drop e.mn.toNat).length := List.length_pos_iff.2 hr2
   have h4 : e.mn = if (e.rest.length : Int) < e.most then (e.rest.length : Int) else e.most := rfl
   have h5 : 16 ≤ e.mn := by
    rw [h4]
    split
    ·rename_i h6
     have h7 : e.mn = (e.rest.length : Int) := by rw [h4, if_pos h6]
     omega
    ·exact hm
   have h6 : 16 ≤ e.mn.toNat := by omega
   show 16 * (e.next + 1 - 16) + ((e.rest.drop e.mn.toNat).length : Int) ≤ n
   clear h4 h5
   generalize e.mn.toNat = K at *
   generalize (List.drop K e.rest).length = L at *
   generalize e.rest.length = R at *
   omega
  ·exact h
theorem Whl.got {n : Nat} {e : En} (hm : 16 ≤ e.most) (h : Whl n e) (p : Bys) : Whl n (e.gotE p) := by
 unfold Lk.En.gotE
 split
 ·obtain ⟨q1, q2, q3, q4⟩ := Lk.took_same (e.ackn (Lk.tol p)) (Lk.nu p) (Lk.bd p)
  refine Whl.numL 17 (by rw [q2]; exact hm) ?_
  unfold Whl
  rw [q3, q4]
  exact h
 ·exact Whl.numL 17 hm h
end Go.Proofs.Sh
set_option maxRecDepth 100000
set_option linter.unusedSimpArgs false
set_option linter.unusedVariables false
namespace Go.Proofs.Sh
open Go.Pv
open Lk (En Pc Dir A16 Full)
def c8 : Cc := ⟨8, []⟩
theorem c8_ok : c8.Ok := ⟨by show 1 ≤ 8; omega, by show 8 ≤ 64; omega, Nat.zero_le _, fun x hx => (by cases hx)⟩
theorem cfd_ok : ∀ (M : List Bys) {c : Cc}, c.Ok → (∀ m ∈ M, 1 ≤ m.length ∧ m.length ≤ 65536) → (cfd c M).Ok
 | [], c, h, _ => h
 | m :: M, c, h, hM => cfd_ok M (h.put (hM m List.mem_cons_self).2) fun q hq => hM q (List.mem_cons_of_mem _ hq)
theorem cfd_app (M N : List Bys) (c : Cc) : cfd c (M ++ N) = cfd (cfd c M) N := List.foldl_append
structure Rc (M : List Bys) (h : Hf) (C out : Bys) : Prop where
 dd : h.dd = false
 x : ∃ M1 M2, M = M1 ++ M2 ∧ C = frs c8 M1 ++ h.fr ∧ h.l = cfd c8 M1 ∧ out ++ h.out = M1.flatten ∧ ∀ m M3, M2 = m :: M3 → h.fr.length < (frame ((cfd c8 M1).sh m)).length
structure Sd (M : List Bys) (a b : Hf) (out : Bys) (T : List Bys) (P : List Bys) (pb pe : Nat) : Prop where
 d : ∃ C, Dir a.e b.e P pb pe (frs c8 M) C T ∧ Rc M b C out
 rd : b.e.read = []
 a16 : A16 b.e
 full : Full a.e
 whl : Whl (frs c8 M).length a.e
 m16 : 16 ≤ a.e.most
 s : (frs c8 M).length ≤ 20000
 hM : ∀ m ∈ M, 1 ≤ m.length ∧ m.length ≤ 65536
theorem Sd.pl {M : List Bys} {a b : Hf} {out : Bys} {T P : List Bys} {pb pe : Nat} (h : Sd M a b out T P pb pe) : P.length ≤ 20000 := by
 obtain ⟨C, h1, h2⟩ := h.d
 have := h1.plen
 have := h.s
 omega
theorem Sd.begins {M : List Bys} {a b : Hf} {out : Bys} {T P : List Bys} {pb pe : Nat} (h : Sd M a b out T P pb pe) : out ++ b.out <+: M.flatten ∧ b.dd = false := by
 obtain ⟨C, h1, h2⟩ := h.d
 obtain ⟨M1, M2, rfl, h4, h5, h6, h7⟩ := h2.x
 exact ⟨by rw [h6, List.flatten_append]; exact List.prefix_append _ _, h2.dd⟩
theorem Sd.all {M : List Bys} {a b : Hf} {out : Bys} {T P : List Bys} {pb pe : Nat} (h : Sd M a b out T P pb pe) (hw : a.e.way = []) (hr : a.e.rest = []) : out ++ b.out = M.flatten := by
 obtain ⟨C, h1, h2⟩ := h.d
 obtain ⟨M1, M2, rfl, h4, h5, h6, h7⟩ := h2.x
 have hl := h1.way.len
 have hbl := h1.bl
 have hbe := h1.be
 have hel := h1.el
 rw [hw, List.length_drop] at hl
 simp only [List.length_nil] at hl
 have hC := h1.came
 have hS := h1.sent
 rw [h.rd, List.append_nil, List.take_of_length_le (by omega)] at hC
 rw [hr, List.append_nil, ← hC, h4, frs_app] at hS
 have hfr : b.fr = frs (cfd c8 M1) M2 := List.append_cancel_left hS
 cases M2 with
 | nil => rw [h6]; simp
 | cons m M3 =>
  have := h7 m M3 rfl
  rw [hfr] at this
  simp only [frs, List.length_append] at this
  omega
theorem Sd.outs {M : List Bys} {a b : Hf} {out : Bys} {T P : List Bys} {pb pe : Nat} (h : Sd M a b out T P pb pe) : Sd M a { b with out := [] } (out ++ b.out) T P pb pe := by
 obtain ⟨C, h1, h2⟩ := h.d
 obtain ⟨M1, M2, h3, h4, h5, h6, h7⟩ := h2.x
 exact ⟨⟨C, h1, h2.dd, M1, M2, h3, h4, h5, by simpa using h6, h7⟩, h.rd, h.a16, h.full, h.whl, h.m16, h.s, h.hM⟩
theorem Sd.outs' {M : List Bys} {a b : Hf} {out : Bys} {T P : List Bys} {pb pe : Nat} (h : Sd M a b out T P pb pe) : Sd M { a with out := [] } b out T P pb pe :=
 ⟨h.d, h.rd, h.a16, h.full, h.whl, h.m16, h.s, h.hM⟩
theorem Sd.sub {M : List Bys} {a b : Hf} {out : Bys} {T T' P : List Bys} {pb pe : Nat} (h : Sd M a b out T P pb pe) (ht : ∀ t ∈ T', t ∈ T) : Sd M a b out T' P pb pe := by
 obtain ⟨C, h1, h2⟩ := h.d
 exact ⟨⟨C, h1.sub ht, h2⟩, h.rd, h.a16, h.full, h.whl, h.m16, h.s, h.hM⟩
theorem Sd.due {M : List Bys} {a b : Hf} {out : Bys} {T P : List Bys} {pb pe : Nat} (h : Sd M a b out T P pb pe) (hx : 0 ≤ a.e.exp) : Sd M a.du b out (T ++ a.e.dueP) P pb pe := by
 obtain ⟨C, h1, h2⟩ := h.d
 exact ⟨⟨C, h1.due hx, h2⟩, h.rd, h.a16, Lk.due_full h.full, h.whl, h.m16, h.s, h.hM⟩
theorem Sd.due' {M : List Bys} {a b : Hf} {out : Bys} {T P : List Bys} {pb pe : Nat} (h : Sd M a b out T P pb pe) : Sd M a b.du out T P pb pe := by
 obtain ⟨C, h1, h2⟩ := h.d
 exact ⟨⟨C, h1.right rfl rfl rfl, h2.dd, h2.x⟩, h.rd, h.a16, h.full, h.whl, h.m16, h.s, h.hM⟩
theorem Sd.tick {M : List Bys} {a b : Hf} {out : Bys} {T P : List Bys} {pb pe : Nat} (h : Sd M a b out T P pb pe) : Sd M a.ti b out T P pb pe := by
 obtain ⟨C, h1, h2⟩ := h.d
 exact ⟨⟨C, h1.tick, h2⟩, h.rd, h.a16, Lk.tick_full h.full, h.whl, h.m16, h.s, h.hM⟩
theorem Sd.tick' {M : List Bys} {a b : Hf} {out : Bys} {T P : List Bys} {pb pe : Nat} (h : Sd M a b out T P pb pe) : Sd M a b.ti out T P pb pe := by
 obtain ⟨C, h1, h2⟩ := h.d
 exact ⟨⟨C, h1.right rfl rfl rfl, h2.dd, h2.x⟩, h.rd, h.a16, h.full, h.whl, h.m16, h.s, h.hM⟩
theorem got_most (e : En) (p : Bys) (hm : 0 ≤ e.most) (hw : e.way.length ≤ 16) : (e.gotE p).most = e.most := by
 have hakl : (e.ackn (Lk.tol p)).way.length ≤ 16 := Nat.le_trans (List.dropWhile_sublist _).length_le hw
 unfold Lk.En.gotE
 split
 ·obtain ⟨q1, q2, q3, q4⟩ := Lk.took_same (e.ackn (Lk.tol p)) (Lk.nu p) (Lk.bd p)
  have i1 := (Lk.numL_numd 17 ((e.ackn (Lk.tol p)).took (Lk.nu p) (Lk.bd p)) (by rw [q2]; exact hm) (by rw [q1]; exact hakl)).most
  rw [q2] at i1
  exact i1
 ·exact (Lk.numL_numd 17 (e.ackn (Lk.tol p)) hm hakl).most
theorem Sd.got {M N : List Bys} {a b : Hf} {there back : Bys} {T T' P Q : List Bys} {pb pe qb qe : Nat} (h : Sd M a b there T P pb pe) (h' : Sd N b a back T' Q qb qe) {p : Bys} (hp : p ∈ T) :
 Lk.gotN b.e p = 0 ∧ (b.got p).2 = 0 ∧ (b.tk p).e = { (b.e.gotE p) with read := [] } ∧ ∃ pe2 qb2 Q2, pe ≤ pe2 ∧ Sd M a (b.tk p) there T P pb pe2 ∧ Sd N (b.tk p) a back T' (Q ++ Q2) qb2 qe := by
 obtain ⟨C, h1, h2⟩ := h.d
 obtain ⟨D, h3, h4⟩ := h'.d
 have hpl := h.pl
 have hql := h'.pl
 obtain ⟨g0, pe2, qb2, Q2, g1, g2, g3⟩ := h1.got h3 hp h.a16 (by omega) (by omega)
 obtain ⟨M1, M2, e1, e2, e3, e4, e5⟩ := h2.x
 have g2' := g2.clear
 have hb := g2'.begins
 rw [e2, e1, frs_app, List.append_assoc] at hb
 have hb2 : b.fr ++ (b.e.gotE p).read <+: frs (cfd c8 M1) M2 := by
  obtain ⟨y, hy⟩ := hb
  rw [List.append_assoc] at hy
  exact ⟨y, List.append_cancel_left hy⟩
 have hMa : ∀ m ∈ M1, 1 ≤ m.length ∧ m.length ≤ 65536 := fun m hm => h.hM m (by rw [e1]; exact List.mem_append_left _ hm)
 have hMb : ∀ m ∈ M2, 1 ≤ m.length ∧ m.length ≤ 65536 := fun m hm => h.hM m (by rw [e1]; exact List.mem_append_right _ hm)
 obtain ⟨X1, X2, fr, s1, s2, s3, s4, s5⟩ := shr_frs (b.fr.length + (b.e.gotE p).read.length + 1) { b with e := { (b.e.gotE p) with read := [] }, fr := b.fr ++ (b.e.gotE p).read } M2 (by show b.l.Ok; rw [e3]; exact cfd_ok M1 c8_ok hMa) hMb (by rw [← e3] at hb2; exact hb2) (by show (b.fr ++ (b.e.gotE p).read).length < _; rw [List.length_append]; omega)
 have hG : b.got p = ({ b with e := { (b.e.gotE p) with read := [] }, fr := fr, l := cfd b.l X1, out := b.out ++ X1.flatten }, 0) := by
  unfold Hf.got
  rw [if_neg (by rw [h2.dd]; decide), if_pos g0]
  simp only
  rw [s2]
  simp only
  rw [if_neg (by rw [h2.dd]; decide)]
 have hT : b.tk p = { b with e := { (b.e.gotE p) with read := [] }, fr := fr, l := cfd b.l X1, out := b.out ++ X1.flatten } := by
  unfold Hf.tk
  rw [hG, if_pos rfl]
 have hw := h3.w16
 have hm := h3.m0
 refine ⟨g0, by rw [hG], by rw [hT], pe2, qb2, Q2, g1, ?_, ?_⟩
 ·rw [hT]
  refine ⟨⟨C ++ (b.e.gotE p).read, g2', h2.dd, M1 ++ X1, X2, by rw [e1, s1, List.append_assoc], ?_, ?_, ?_, ?_⟩, rfl, ?_, h.full, h.whl, h.m16, h.s, h.hM⟩
  ·simp only at s3
   rw [e2, frs_app, List.append_assoc, s3, e3, List.append_assoc]
  ·simp only; rw [e3, cfd_app]
  ·simp only
   rw [← List.append_assoc, e4, List.flatten_append]
  ·simp only at s5 ⊢
   rw [cfd_app, ← e3]
   exact s5
  ·exact Lk.got_a16 h.a16 g0
 ·rw [hT]
  refine ⟨⟨D, g3.clearL, h4.dd, h4.x⟩, h'.rd, h'.a16, ?_, ?_, ?_, h'.s, h'.hM⟩
  ·exact Lk.got_full b.e p hw
  ·exact Whl.got h'.m16 h'.whl p
  ·show 16 ≤ (b.e.gotE p).most
   rw [got_most b.e p (by omega) hw]
   exact h'.m16
end Go.Proofs.Sh
set_option maxRecDepth 100000
set_option linter.unusedSimpArgs false
set_option linter.unusedVariables false
namespace Go.Proofs.Sh
open Go.Pv
open Lk (En Pc Dir A16 Full Two)
theorem Sd.gets {M N : List Bys} {a : Hf} {there back : Bys} {T T' P : List Bys} {pb qe : Nat} : ∀ (l : List Bys) {b : Hf} {Q : List Bys} {pe qb : Nat}, Sd M a b there T P pb pe → Sd N b a back T' Q qb qe → (∀ p ∈ l, p ∈ T) →
 (∃ pe2 qb2 Q2, Sd M a (b.tks l) there T P pb pe2 ∧ Sd N (b.tks l) a back T' Q2 qb2 qe) ∧ ∀ X, ∃ X', Lk.getsE (adR X b.e) l = adR X' (b.tks l).e
 | [], b, Q, pe, qb, h, h', _ => ⟨⟨pe, qb, Q, h, h'⟩, fun X => ⟨X, rfl⟩⟩
 | p :: l, b, Q, pe, qb, h, h', hl => by
  obtain ⟨g0, -, ge, pe2, qb2, Q2, -, g1, g2⟩ := h.got h' (hl p List.mem_cons_self)
  obtain ⟨r1, r2⟩ := Sd.gets l g1 g2 fun q hq => hl q (List.mem_cons_of_mem _ hq)
  refine ⟨r1, fun X => ?_⟩
  obtain ⟨X', hX⟩ := r2 (X ++ (b.e.gotE p).read)
  refine ⟨X', Eq.trans ?_ hX⟩
  show Lk.getsE ((adR X b.e).gotE p) l = _
  rw [adR_got, adR_clear, ge]
def Sys (M N : List Bys) (a b : Hf) (there back : Bys) : Prop := ∃ P pb pe Q qb qe, Sd M a b there [] P pb pe ∧ Sd N b a back [] Q qb qe
theorem Sys.flip {M N : List Bys} {a b : Hf} {there back : Bys} (h : Sys M N a b there back) : Sys N M b a back there := by
 obtain ⟨P, pb, pe, Q, qb, qe, h1, h2⟩ := h
 exact ⟨Q, qb, qe, P, pb, pe, h2, h1⟩
theorem Sys.tick {M N : List Bys} {a b : Hf} {there back : Bys} (h : Sys M N a b there back) : Sys M N a.ti b there back := by
 obtain ⟨P, pb, pe, Q, qb, qe, h1, h2⟩ := h
 exact ⟨P, pb, pe, Q, qb, qe, h1.tick, h2.tick'⟩
theorem Sys.outs {M N : List Bys} {a b : Hf} {there back : Bys} (h : Sys M N a b there back) : Sys M N a { b with out := [] } (there ++ b.out) back := by
 obtain ⟨P, pb, pe, Q, qb, qe, h1, h2⟩ := h
 exact ⟨P, pb, pe, Q, qb, qe, h1.outs, h2.outs'⟩
theorem Sys.over {M N : List Bys} {a b : Hf} {there back : Bys} (h : Sys M N a b there back) {l : List Bys} (hl : ∀ p ∈ l, p ∈ a.e.dueP) : Sys M N a.du (b.tks l) there back ∧ ∀ X, ∃ X', Lk.getsE (adR X b.e) l = adR X' (b.tks l).e := by
 obtain ⟨P, pb, pe, Q, qb, qe, h1, h2⟩ := h
 obtain ⟨D, h3, h4⟩ := h2.d
 have hx : 0 ≤ a.e.exp := by rw [h3.exp]; omega
 have h5 := h1.due hx
 have h6 := h2.due'
 obtain ⟨⟨pe2, qb2, Q2, r1, r2⟩, r3⟩ := Sd.gets l h5 h6 fun p hp => List.mem_append_right _ (hl p hp)
 exact ⟨⟨P, pb, pe2, Q2, qb2, qe, r1.sub (fun t ht => by cases ht), r2⟩, r3⟩
theorem Sys.xch {M N : List Bys} {a b : Hf} {there back : Bys} (h : Sys M N a b there back) : Sys M N (xch (a, b)).1 (xch (a, b)).2 there back ∧
 ∀ X Y, ∃ X' Y', Lk.overA (adR X a.e) (adR Y b.e) = adR X' (xch (a, b)).1.e ∧ Lk.overB (adR X a.e) (adR Y b.e) = adR Y' (xch (a, b)).2.e := by
 obtain ⟨h1, r1⟩ := h.over (l := a.e.dueP) fun p hp => hp
 obtain ⟨h2, r2⟩ := h1.flip.over (l := (b.tks a.e.dueP).e.dueP) fun p hp => hp
 refine ⟨h2.flip, fun X Y => ?_⟩
 obtain ⟨Y', hY⟩ := r1 Y
 obtain ⟨X', hX⟩ := r2 X
 have hc : Lk.comes (adR X a.e) (adR Y b.e) = adR Y' (b.tks a.e.dueP).e := hY
 refine ⟨X', Y', ?_, ?_⟩
 ·unfold Lk.overA
  rw [hc]
  exact hX
 ·unfold Lk.overB
  rw [hc]
  rfl
def FinE (A B : En) : Prop := A.way = [] ∧ B.way = [] ∧ A.ack = false ∧ B.ack = false ∧ A.rest = [] ∧ B.rest = []
def CaR (j : Nat) (A B : En) (S R C D : Bys) : Prop :=
 (j = 0 ∧ ∃ P b e Q b' e', Two A B S R C D P b e Q b' e') ∨ ∃ k, j = k + 1 ∧ Lk.Calm k A B S R C D ∧ (81 ≤ k → FinE A B)
theorem Whl.end {k : Nat} {S C : Bys} {A B : En} {P : List Bys} {b e : Nat} {T : List Bys} (h : Dir A B P b e S C T) (hs : S.length ≤ 20000) (hw : Whl S.length A) (hp : A.rest ≠ [] → 16 * k ≤ P.length) (hk : 80 ≤ k) : A.rest = [] := by
 rcases Decidable.em (A.rest = []) with h1 | h1
 ·exact h1
 ·have h2 := hw h1
  have h3 := hp h1
  have h4 := h.next
  omega
theorem calm_step {k : Nat} {A B : En} {S R C D : Bys} (h : Lk.Calm k A B S R C D) (wA : Whl S.length A) (wB : Whl R.length B) : CaR (k + 2) (Lk.overA A B) (Lk.overB A B) S R C D := by
 obtain ⟨n1, -, n3⟩ := h.next
 refine .inr ⟨k + 1, rfl, n1, fun hk => ?_⟩
 obtain ⟨P, b, Q, b', t, hp, hq⟩ := h.d
 have eA := Whl.end t.x t.s wA hp (by omega)
 have eB := Whl.end t.y t.r wB hq (by omega)
 obtain ⟨a1, a2, a3, a4, -, -, a7, a8⟩ := n3 eA eB
 exact ⟨a1, a2, a3, a4, a7, a8⟩
theorem CaR.step {j : Nat} {A B : En} {S R C D : Bys} (h : CaR j A B S R C D) (hj : 1 ≤ j) (wA : Whl S.length A) (wB : Whl R.length B) : CaR (j + 1) (Lk.overA A B) (Lk.overB A B) S R C D := by
 rcases h with ⟨rfl, -⟩ | ⟨k, rfl, h, -⟩
 ·omega
 ·exact calm_step h wA wB
theorem CaR.tick {j : Nat} {A B : En} {S R C D : Bys} (h : CaR j A B S R C D) (wA : Whl S.length A) (wB : Whl R.length B) : CaR (j + 1) (Lk.overA A.tick B.tick) (Lk.overB A.tick B.tick) S R C D := by
 rcases h with ⟨rfl, P, b, e, Q, b', e', h⟩ | ⟨k, rfl, h, -⟩
 ·exact .inr ⟨0, rfl, (h.tick.first (Lk.tick_due A) (Lk.tick_due B)).1, fun hk => by omega⟩
 ·exact calm_step h.tick wA wB
theorem Sys.whl {M N : List Bys} {a b : Hf} {there back : Bys} (h : Sys M N a b there back) (X Y : Bys) : Whl (frs c8 M).length (adR X a.e) ∧ Whl (frs c8 N).length (adR Y b.e) := by
 obtain ⟨P, pb, pe, Q, qb, qe, h1, h2⟩ := h
 exact ⟨h1.whl, h2.whl⟩
theorem calm_all {M N : List Bys} {there back C D : Bys} : ∀ (n j : Nat) (a b : Hf) (X Y : Bys), Sys M N a b there back → CaR j (adR X a.e) (adR Y b.e) (frs c8 M) (frs c8 N) C D →
 Sys M N (calmR n (a, b)).1 (calmR n (a, b)).2 there back ∧ ∃ X' Y', CaR (j + 2 * n) (adR X' (calmR n (a, b)).1.e) (adR Y' (calmR n (a, b)).2.e) (frs c8 M) (frs c8 N) C D
 | 0, j, a, b, X, Y, h, hc => ⟨h, X, Y, hc⟩
 | n + 1, j, a, b, X, Y, h, hc => by
  have h1 : Sys M N a.ti b.ti there back := h.tick.flip.tick.flip
  obtain ⟨w1, w2⟩ := h.whl X Y
  have c1 := hc.tick w1 w2
  obtain ⟨h2, r2⟩ := h1.xch
  obtain ⟨X2, Y2, e1, e2⟩ := r2 X Y
  have e1' : Lk.overA (adR X a.e).tick (adR Y b.e).tick = _ := e1
  have e2' : Lk.overB (adR X a.e).tick (adR Y b.e).tick = _ := e2
  rw [e1', e2'] at c1
  generalize hp1 : xch (a.ti, b.ti) = p1 at *
  obtain ⟨a1, b1⟩ := p1
  simp only at h2 c1
  clear e1 e2 e1' e2' r2
  obtain ⟨w3, w4⟩ := h2.whl X2 Y2
  have c2 := c1.step (by omega) w3 w4
  obtain ⟨h3, r3⟩ := h2.xch
  obtain ⟨X3, Y3, e3, e4⟩ := r3 X2 Y2
  rw [e3, e4] at c2
  generalize hp2 : xch (a1, b1) = p2 at *
  obtain ⟨a2, b2⟩ := p2
  simp only at h3 c2
  have hcR : calmR (n + 1) (a, b) = calmR n (a2, b2) := by
   show calmR n (xch (xch (a.ti, b.ti))) = _
   rw [hp1, hp2]
  rw [hcR, show j + 2 * (n + 1) = j + 1 + 1 + 2 * n by omega]
  exact calm_all n (j + 1 + 1) a2 b2 X3 Y3 h3 c2
theorem calm_end {M N : List Bys} {a b : Hf} {there back : Bys} (h : Sys M N a b there back) : ∃ x y, calmR 80 (a, b) = (x, y) ∧ there ++ y.out = M.flatten ∧ back ++ x.out = N.flatten ∧ x.e.way = [] ∧ y.e.way = [] ∧ x.e.ack = false ∧ y.e.ack = false := by
 obtain ⟨P, pb, pe, Q, qb, qe, h1, h2⟩ := h
 obtain ⟨C, d1, -⟩ := h1.d
 obtain ⟨D, d2, -⟩ := h2.d
 have hT : Two a.e b.e (frs c8 M) (frs c8 N) C D P pb pe Q qb qe := ⟨d1, d2, h2.a16, h1.a16, h1.full, h2.full, h1.s, h2.s⟩
 have hz : ∀ e : En, adR [] e = e := fun e => rfl
 obtain ⟨s, X, Y, c⟩ := calm_all 80 0 a b [] [] ⟨P, pb, pe, Q, qb, qe, h1, h2⟩ (.inl ⟨rfl, P, pb, pe, Q, qb, qe, by rw [hz, hz]; exact hT⟩)
 generalize calmR 80 (a, b) = r at *
 obtain ⟨x, y⟩ := r
 simp only at s c
 rcases c with ⟨c, -⟩ | ⟨k, hk, -, hf⟩
 ·omega
 ·obtain ⟨f1, f2, f3, f4, f5, f6⟩ := hf (by omega)
  obtain ⟨P, pb, pe, Q, qb, qe, g1, g2⟩ := s
  exact ⟨x, y, rfl, g1.all f1 f5, g2.all f2 f6, f1, f2, f3, f4⟩
end Go.Proofs.Sh
set_option maxRecDepth 100000
set_option linter.unusedSimpArgs false
set_option linter.unusedVariables false
namespace Go.Proofs.Sh
open Go.Pv
open Lk (En Pc Dir A16 Full Two)
theorem frs_len : ∀ (M : List Bys) (c : Cc), c.Ok → (∀ m ∈ M, 1 ≤ m.length ∧ m.length ≤ 65536) → (frs c M).length ≤ M.flatten.length + 5 * M.length
 | [], c, _, _ => by simp [frs]
 | m :: M, c, hc, hM => by
  obtain ⟨h1, h2⟩ := hM m List.mem_cons_self
  have a := frame_len hc h1 h2
  have b := sh_le hc h1 h2
  have ih := frs_len M (c.put m) (hc.put h2) fun q hq => hM q (List.mem_cons_of_mem _ hq)
  simp only [frs, List.length_append, List.flatten_cons, List.length_cons]
  omega
theorem fdm_dir : ∀ (L : List Bys) (c : Cc) (e : En) {Y : En} {P S : List UInt8 → List Bys} {P0 : List Bys} {S0 : Bys}, Dir e Y P0 0 0 S0 [] [] → Full e → ∃ P1, Dir (fdm (c, e) L).2 Y P1 0 0 (S0 ++ frs c L) [] [] ∧ Full (fdm (c, e) L).2
 | [], c, e, Y, _, _, P0, S0, h, hf => ⟨P0, by simpa [frs, fdm] using h, hf⟩
 | m :: L, c, e, Y, P, S, P0, S0, h, hf => by
  obtain ⟨Q, h1⟩ := h.send (frame (c.sh m))
  obtain ⟨P1, h2, h3⟩ := fdm_dir L (c.put m) (e.sendE (frame (c.sh m))) (P := P) (S := S) h1 (Lk.send_full e _ h.w16)
  refine ⟨P1, ?_, h3⟩
  rw [List.append_assoc] at h2
  exact h2
theorem fdm_same : ∀ (L : List Bys) (c : Cc) (e : En), 0 ≤ e.most → e.way.length ≤ 16 → (fdm (c, e) L).2.exp = e.exp ∧ (fdm (c, e) L).2.aside = e.aside ∧ (fdm (c, e) L).2.read = e.read ∧ (fdm (c, e) L).2.most = e.most
 | [], c, e, _, _ => ⟨rfl, rfl, rfl, rfl⟩
 | m :: L, c, e, hm, hw => by
  have i1 := Lk.numL_numd 17 { e with rest := e.rest ++ frame (c.sh m) } hm hw
  have hmm : (e.sendE (frame (c.sh m))).most = e.most := i1.most
  obtain ⟨a1, a2, a3, a4⟩ := fdm_same L (c.put m) (e.sendE (frame (c.sh m))) (by rw [hmm]; exact hm) i1.way
  exact ⟨Eq.trans a1 i1.exp, Eq.trans a2 i1.aside, Eq.trans a3 i1.read, Eq.trans a4 i1.most⟩
structure Nw (m : Int) (M : List Bys) (a : Hf) : Prop where
 f : fdm (c8, enM m) M = (a.s, a.e)
 l : a.l = c8
 fr : a.fr = []
 out : a.out = []
 dd : a.dd = false
 hM : ∀ x ∈ M, 4 ≤ x.length ∧ x.length ≤ 65536
 n : M.flatten.length ≤ 3000
theorem enM_dir {m : Int} (h1 : 1 ≤ m) (h2 : m ≤ 1024) : Dir (enM m) (enM m) [] 0 0 [] [] [] :=
 ⟨h1, h2, rfl, rfl, Nat.le_refl _, Nat.le_refl _, Nat.zero_le _, fun q hq => (by cases hq), rfl, Nat.le_refl _, rfl, rfl, rfl, fun _ => .inl rfl, fun t ht => (by cases ht)⟩
theorem Nw.sd {m : Int} {M N : List Bys} {a b : Hf} (h : Nw m M a) (h' : Nw m N b) (h1 : 16 ≤ m) (h2 : m ≤ 1024) : ∃ P, Sd M a b [] [] P 0 0 := by
 have hM : ∀ x ∈ M, 1 ≤ x.length ∧ x.length ≤ 65536 := fun x hx => by have := h.hM x hx; omega
 have hml := mem4_len M h.hM
 have hn := h.n
 have hs := frs_len M c8 c8_ok hM
 obtain ⟨P, d1, d2⟩ := fdm_dir M c8 (enM m) (P := fun _ => []) (S := fun _ => []) (enM_dir (m := m) (by omega) h2) (.inr rfl)
 rw [h.f, List.nil_append] at d1
 rw [h.f] at d2
 simp only at d1 d2
 obtain ⟨s1, s2, s3, s4⟩ := fdm_same M c8 (enM m) (by show 0 ≤ m; omega) (Nat.zero_le _)
 rw [h.f] at s1 s2 s3 s4
 simp only at s1 s2 s3 s4
 obtain ⟨t1, t2, t3, t4⟩ := fdm_same N c8 (enM m) (by show 0 ≤ m; omega) (Nat.zero_le _)
 rw [h'.f] at t1 t2 t3 t4
 simp only at t1 t2 t3 t4
 have d3 := d1.right t1 t2 t3
 have hwl := d3.way.len
 rw [List.drop_zero] at hwl
 have hw16 := d3.w16
 have hnx := d3.next
 have hst := d3.sent
 refine ⟨P, ⟨[], d3, h'.dd, [], M, rfl, ?_, ?_, ?_, ?_⟩, t3, fun j _ => by rw [t2]; rfl, d2, ?_, by rw [s4]; exact h1, by omega, hM⟩
 ·rw [h'.fr]; rfl
 ·rw [h'.l]; rfl
 ·rw [h'.out]; rfl
 ·intro x M3 hx
  have hx1 := hM x (by rw [hx]; exact List.mem_cons_self)
  rw [h'.fr]
  have := (frame_len (c := cfd c8 []) c8_ok hx1.1 hx1.2).1
  simp only [List.length_nil]
  omega
 ·intro _
  have h5 : a.e.rest.length ≤ (frs c8 M).length := by rw [← hst, List.length_append]; omega
  omega
theorem sys_new {m : Int} {M N : List Bys} {a b : Hf} (h : Nw m M a) (h' : Nw m N b) (h1 : 16 ≤ m) (h2 : m ≤ 1024) : Sys M N a b [] [] := by
 obtain ⟨P, d1⟩ := h.sd h' h1 h2
 obtain ⟨Q, d2⟩ := h'.sd h h1 h2
 exact ⟨P, 0, 0, Q, 0, 0, d1, d2⟩
end Go.Proofs.Sh
set_option maxRecDepth 100000
set_option linter.unusedSimpArgs false
set_option linter.unusedVariables false
namespace Go.Proofs.Sh
open Go.Pv
open Lk (En Pc)
def Hf.ct (h : Hf) : List PV :=
 [.fn 34 [], .int .i64 h.o, .bool h.bg, .int .i64 h.s.m, .sl 1 (sts h.s.k), .int .i64 h.l.m, .sl 1 (sts h.l.k),
  .int .i64 h.e.most, .sl 3 (h.e.way.map Lk.Pc.pv), .int .i64 h.e.next, .str h.e.rest, .int .i64 h.e.exp, .str (h.e.aside 0), .str (h.e.aside 1), .str (h.e.aside 2), .str (h.e.aside 3), .str (h.e.aside 4), .str (h.e.aside 5), .str (h.e.aside 6), .str (h.e.aside 7),
  .str (h.e.aside 8), .str (h.e.aside 9), .str (h.e.aside 10), .str (h.e.aside 11), .str (h.e.aside 12), .str (h.e.aside 13), .str (h.e.aside 14), .str (h.e.aside 15), .str h.e.read, .bool h.e.ack,
  .str h.nr, .str h.fr, .str h.out, .bool h.dd]
def Hf.pt (h : Hf) : PV := .agg h.ct
theorem messagesT_fs (h : Hf) : Fsp Tryz.prog 35 [h.ct] 0 [.box 0 0] [h.ct, [.box 0 0]] 0 (.fn 64 [.box 1 0]) := by
 (refine Fsp.of (nx := 1) mixed Tryz.func35 rfl (by decide) (by first | exact Nat.le_refl _ | simp) (by simp [Tryz.f35]) ⟨by simp, by simp⟩ ?_; simp -implicitDefEqProofs only [push_cast, Tryz.f35, Hf.ct, seval])
 exact endK_box [] [0, 1] rfl rfl (by simp [PS.lv, lkp_hit, lkp_miss, lkp_nil]) rfl rfl (by rfl) (fun i j ps h1 h2 => by (rcases i with _ | _ | i <;> simp at h1 h2 <;> (subst h1; subst h2; exact ⟨_, rfl, (by (repeat' (first | exact wkL_nil | refine wkL_cons ?_ ?_)); all_goals (first | rfl | exact ⟨rfl, rfl⟩ | exact ⟨rfl, rfl, rfl⟩ | exact .inl rfl))⟩))) ⟨by simp [resOk, PS.get, lkp_hit, lkp_miss, PS.ev], by simp [resPV, PS.get, lkp_hit, lkp_miss, PS.ev], by simp [resOf, resPV, one', res3, res2, res1, PS.get, lkp_hit, lkp_miss, PS.ev, PV.weak, PV.el, wkL]⟩
def Hf.wt (h : Hf) : Int × Bool × Bool :=
 if h.bg = true then
  (if ((tlenR h.o h.nr).2 == 3) = true then (0, false, h.dd) else ((tlenR h.o h.nr).1, (!((tlenR h.o h.nr).2 != 0)) && decide ((tlenR h.o h.nr).1 ≤ (h.nr.length : Int)), (tlenR h.o h.nr).2 != 0))
 else (if decide ((h.nr.length : Int) < 4) = true then (0, false, h.dd) else (4, !(h.nr.take 4 != beg h.o), h.nr.take 4 != beg h.o))
theorem wholeT_fs (h : Hf) (ho : isOrder h.o) : Fsp Tryz.prog 65 [h.ct] 0 [.box 0 0] [({ h with dd := h.wt.2.2 } : Hf).ct] 0 (.tup [.int .i64 h.wt.1, .bool h.wt.2.1]) := by
 have hb := begin_fs ho
 have hl := tellLen_fs h.o h.nr
 have hbl := beg_length h.o
 generalize hW : h.wt = W
 rw [Hf.wt] at hW
 obtain ⟨o, bg, s, l, e, nr, fr, out, dd⟩ := h
 simp only at *
 cases bg with
 | false =>
  rw [if_neg (by decide)] at hW
  (refine Fsp.of (nx := 1) mixed Tryz.func65 rfl (by decide) (by first | exact Nat.le_refl _ | simp) (by simp [Tryz.f65]) ⟨by simp, by simp⟩ ?_; simp -implicitDefEqProofs only [push_cast, Tryz.f65, Hf.ct, seval])
  refine callE_p hb ?_
  simp -implicitDefEqProofs only [push_cast, hbl, seval]
  refine condC_split (fun g1 => ?_) (fun g1 => ?_)
  ·rw [if_pos g1] at hW
   subst hW
   simp -implicitDefEqProofs only [push_cast, seval]
   exact endK_box [] [0] rfl rfl (by simp [PS.lv, lkp_hit, lkp_miss, lkp_nil]) rfl rfl (by rfl) (fun i j ps h1 h2 => by (rcases i with _ | i <;> simp at h1 h2 <;> (subst h1; subst h2; exact ⟨_, rfl, (by (repeat' (first | exact wkL_nil | refine wkL_cons ?_ ?_)); all_goals (first | rfl | exact ⟨rfl, rfl⟩ | exact ⟨rfl, rfl, rfl⟩ | exact .inl rfl))⟩))) ⟨by simp [resOk, PS.get, lkp_hit, lkp_miss, PS.ev], by simp [resPV, PS.get, lkp_hit, lkp_miss, PS.ev], by simp [resOf, resPV, one', res3, res2, res1, PS.get, lkp_hit, lkp_miss, PS.ev, PV.weak, PV.el, wkL]⟩
  ·rw [if_neg (by rw [g1]; exact Bool.false_ne_true)] at hW
   subst hW
   have h4 : 4 ≤ nr.length := by simp at g1; omega
   simp -implicitDefEqProofs only [push_cast, hbl, seval]
   (repeat (first | refine ⟨(by omega : _ ≤ _), ?_⟩ | refine ⟨(by omega : _ < _), ?_⟩ | refine ⟨(by simp [sts_length]; omega), ?_⟩ | refine ⟨(by simp [sts_length]), ?_⟩ | refine ⟨(by (unfold drawOk; kernel_rfl)), ?_⟩))
   exact endK_box [] [0] rfl rfl (by simp [PS.lv, lkp_hit, lkp_miss, lkp_nil]) rfl rfl (by rfl) (fun i j ps h1 h2 => by (rcases i with _ | i <;> simp at h1 h2 <;> (subst h1; subst h2; exact ⟨_, rfl, (by (repeat' (first | exact wkL_nil | refine wkL_cons ?_ ?_)); all_goals (first | rfl | exact ⟨rfl, rfl⟩ | exact ⟨rfl, rfl, rfl⟩ | exact .inl rfl))⟩))) ⟨by simp [resOk, PS.get, lkp_hit, lkp_miss, PS.ev], by simp [resPV, PS.get, lkp_hit, lkp_miss, PS.ev], by simp [resOf, resPV, one', res3, res2, res1, PS.get, lkp_hit, lkp_miss, PS.ev, PV.weak, PV.el, wkL]⟩
 | true =>
  rw [if_pos rfl] at hW
  generalize (tlenR o nr).1 = n1 at *
  generalize (tlenR o nr).2 = n2 at *
  (refine Fsp.of (nx := 1) mixed Tryz.func65 rfl (by decide) (by first | exact Nat.le_refl _ | simp) (by simp [Tryz.f65]) ⟨by simp, by simp⟩ ?_; simp -implicitDefEqProofs only [push_cast, Tryz.f65, Hf.ct, seval])
  refine callE_p hl ?_
  simp -implicitDefEqProofs only [push_cast, seval]
  (repeat (first | refine ⟨(by omega : _ ≤ _), ?_⟩ | refine ⟨(by omega : _ < _), ?_⟩ | refine ⟨(by simp [sts_length]; omega), ?_⟩ | refine ⟨(by simp [sts_length]), ?_⟩ | refine ⟨(by (unfold drawOk; kernel_rfl)), ?_⟩))
  refine condC_split (fun g1 => ?_) (fun g1 => ?_)
  ·rw [if_pos g1] at hW
   subst hW
   simp -implicitDefEqProofs only [push_cast, seval]
   exact endK_box [] [0] rfl rfl (by simp [PS.lv, lkp_hit, lkp_miss, lkp_nil]) rfl rfl (by rfl) (fun i j ps h1 h2 => by (rcases i with _ | i <;> simp at h1 h2 <;> (subst h1; subst h2; exact ⟨_, rfl, (by (repeat' (first | exact wkL_nil | refine wkL_cons ?_ ?_)); all_goals (first | rfl | exact ⟨rfl, rfl⟩ | exact ⟨rfl, rfl, rfl⟩ | exact .inl rfl))⟩))) ⟨by simp [resOk, PS.get, lkp_hit, lkp_miss, PS.ev], by simp [resPV, PS.get, lkp_hit, lkp_miss, PS.ev], by simp [resOf, resPV, one', res3, res2, res1, PS.get, lkp_hit, lkp_miss, PS.ev, PV.weak, PV.el, wkL]⟩
  ·rw [if_neg (by rw [g1]; exact Bool.false_ne_true)] at hW
   subst hW
   simp -implicitDefEqProofs only [push_cast, seval]
   (repeat (first | refine ⟨(by omega : _ ≤ _), ?_⟩ | refine ⟨(by omega : _ < _), ?_⟩ | refine ⟨(by simp [sts_length]; omega), ?_⟩ | refine ⟨(by simp [sts_length]), ?_⟩ | refine ⟨(by (unfold drawOk; kernel_rfl)), ?_⟩))
   exact endK_box [] [0] rfl rfl (by simp [PS.lv, lkp_hit, lkp_miss, lkp_nil]) rfl rfl (by rfl) (fun i j ps h1 h2 => by (rcases i with _ | i <;> simp at h1 h2 <;> (subst h1; subst h2; exact ⟨_, rfl, (by (repeat' (first | exact wkL_nil | refine wkL_cons ?_ ?_)); all_goals (first | rfl | exact ⟨rfl, rfl⟩ | exact ⟨rfl, rfl, rfl⟩ | exact .inl rfl))⟩))) ⟨by simp [resOk, PS.get, lkp_hit, lkp_miss, PS.ev], by simp [resPV, PS.get, lkp_hit, lkp_miss, PS.ev], by simp [resOf, resPV, one', res3, res2, res1, PS.get, lkp_hit, lkp_miss, PS.ev, PV.weak, PV.el, wkL]⟩
theorem wt_n {h : Hf} (ho : isOrder h.o) (hnl : h.nr.length ≤ 65536) (hbg : h.bg = true) (hw : h.wt.2.1 = true) : ∃ n : Nat, h.wt.1 = (n : Int) ∧ 4 ≤ n ∧ n ≤ h.nr.length ∧ n ≤ 65536 ∧ h.wt.2.2 = false := by
 obtain ⟨o, bg, s, l, e, nr, fr, out, dd⟩ := h
 simp only at *
 subst hbg
 unfold Hf.wt at hw ⊢
 simp only at *
 have hO : isOrd o = true := by rcases ho with rfl | rfl <;> rfl
 simp only [if_true] at hw ⊢
 split at hw
 ·cases hw
 ·rename_i h1
  rw [if_neg h1]
  simp only [Bool.and_eq_true, Bool.not_eq_true', decide_eq_true_eq] at hw ⊢
  obtain ⟨hw1, hw2⟩ := hw
  have he : (tlenR o nr).2 = 0 := by simpa using hw1
  obtain ⟨n, hn, hn8⟩ : ∃ n : Nat, (tlenR o nr).1 = (n : Int) ∧ 4 ≤ n := by
   unfold tlenR at he ⊢
   rw [if_pos hO] at he ⊢
   by_cases h8 : nr.length < 8
   ·rw [if_pos h8] at he; exact absurd he (by decide)
   ·rw [if_neg h8] at he ⊢
    cases hf : tform nr with
    | none =>
     rw [hf] at he
     have := mErr_ne ((nr.getD 0 0).toNat : Int)
     unfold terr at he
     simp only at he
     rw [he] at this
     exact absurd this (by decide)
    | some f =>
     rw [hf] at he
     simp only at he ⊢
     unfold tlenW at he ⊢
     by_cases h2 : words o nr < 2
     ·rw [if_pos h2] at he; exact absurd he (by decide)
     ·rw [if_neg h2] at he ⊢
      by_cases h3 : 16386 < words o nr
      ·rw [if_pos h3] at he; exact absurd he (by decide)
      ·rw [if_neg h3]
       exact ⟨4 * words o nr, rfl, by omega⟩
  exact ⟨n, hn, hn8, by omega, by omega, by rw [he]; rfl⟩
def Hf.runT : Nat → Hf → Hf
 | 0, h => h
 | f + 1, h =>
  if h.dd = true then h
  else if h.wt.2.1 = true then Hf.runT f (Hf.stp { h with dd := h.wt.2.2, bg := true, nr := h.nr.drop h.wt.1.toNat } (h.nr.take h.wt.1.toNat))
  else { h with dd := h.wt.2.2 }
def Hf.nearT (h : Hf) (b : Bys) : Hf := (Hf.runT (h.nr.length + b.length + 1) { h with nr := h.nr ++ b }).cut
structure NtA (R : Hf) where
 h : Hf
 f : Nat
 hf : h.nr.length < f
 ok : h.Ok h.nr.length
 e : Hf.runT f h = R
 bt : h.bg = true
def NtA.O (h : Hf) : List (Nat × Option (List PV)) := [(0, some h.ct), (1, some hzC), (2, some [.int .i64 0]), (3, some [.box 0 0])]
def NtA.st {R : Hf} (a : NtA R) : PS := { n := 40, env := [(1, .box 3 0), (0, .yld 4)], objs := NtA.O a.h, live := [], nxt := 5 }
set_option maxHeartbeats 4000000 in
theorem nearT_fs (h : Hf) (b : Bys) (hd : h.dd = false) (hbg : h.bg = true) (H : h.Ok (h.nr.length + b.length)) : Fsp Tryz.prog 11 [] 0 [h.pt, .str b] [] 0 (.tup [(h.nearT b).pt, .int .i64 0]) := by
 have hM := messagesT_fs { h with nr := h.nr ++ b }
 unfold Hf.pt
 generalize hR : h.nearT b = R
 unfold Hf.nearT at hR
 obtain ⟨o, bg, s, l, e, nr, fr, out, dd⟩ := h
 simp only at hd hM hR H hbg
 subst hd
 simp only [Hf.ct] at hM ⊢
 (refine Fsp.ofs (nx := 0) mixed Tryz.func11 rfl (by simp [Tryz.f11]) ?_; simp -implicitDefEqProofs only [push_cast, Tryz.f11, seval])
 have hnb : nr.length + b.length ≤ 13108 := by have := H.e.q; simp only at this; omega
 refine ⟨by omega, ?_⟩
 refine callE_bx hM [0] [] ?_
 simp -implicitDefEqProofs only [push_cast, seval]
 generalize hRR : Hf.runT (nr.length + b.length + 1) { o := o, bg := bg, s := s, l := l, e := e, nr := nr ++ b, fr := fr, out := out, dd := false } = RR at hR
 have H0 : ({ o := o, bg := bg, s := s, l := l, e := e, nr := nr ++ b, fr := fr, out := out, dd := false } : Hf).Ok (nr ++ b).length := by
  rw [List.length_append]; exact ⟨H.o, H.s, H.e⟩
 refine PWP.named (fun Q => ∀ objs live nx, lkp none objs 0 = some RR.ct → lkp none objs 1 = some hzC → lkp none objs 2 = some [.int .i64 0] → Q .normal { n := 68, env := [(26, .any), (5, .box 2 0), (4, .box 1 0), (2, .box 0 0)], objs := objs, live := live, nxt := nx }) ?_ (fun Q hQ => ?_)
 ·intro objs live nx o0 o1 o2
  clear H0 hRR hM
  obtain ⟨o', bg', s', l', e', nr', fr', out', dd'⟩ := RR
  unfold Hf.cut at hR
  simp only [Hf.ct] at o0
  unfold hzC at o1
  cases dd' with
  | false =>
   simp only [Bool.false_eq_true, if_false] at hR
   subst hR
   simp -implicitDefEqProofs only [push_cast, o0, o1, o2, seval]
   all_goals (first | done | rfl | exact ⟨_, rfl, by simp [wkL, res2, res1, PV.weak, PV.el]⟩ | (simp [wkL, res2, res1, PV.weak, PV.el]; done))
  | true =>
   simp only [if_true] at hR
   subst hR
   simp -implicitDefEqProofs only [push_cast, o0, o1, o2, seval]
   all_goals (first | done | rfl | exact ⟨_, rfl, by simp [wkL, res2, res1, PV.weak, PV.el]⟩ | (simp [wkL, res2, res1, PV.weak, PV.el]; done))
 ·refine PWP.rangeY { n := 68, env := [(26, .fn 64 [.box 3 0]), (5, .box 2 0), (4, .box 1 0), (2, .box 0 0)], objs := NtA.O { o := o, bg := bg, s := s, l := l, e := e, nr := nr ++ b, fr := fr, out := out, dd := false }, live := [], nxt := 4 } ?_ 64 [.box 3 0] rfl Tryz.func64 rfl (by decide) rfl (by decide) ?_
  ·simp only [zipB, upto, List.cons_append, List.nil_append, NtA.O, Hf.ct, hzC]
   exact Wk.by _ _ _ [(0, 0), (1, 4), (2, 8), (3, 68)] [] [] (by simp) (by simp [wkV, wkL, PV.el, PV.weak, PS.get, PS.obj, PS.lv, lkp_hit, lkp_miss, lkp_nil, lko]) (by simp [PS.get, PS.obj, PS.lv, lkp_hit, lkp_miss, lkp_nil, lko, wkL, wkC, PV.weak]) (by simp) (by rfl) (by rfl) (by simp [lko]) (by simp) (by simp) (by simp) (fun i hi => absurd hi (Nat.not_lt_zero i))
  refine VCY_sound mixed ?_
  simp -implicitDefEqProofs only [push_cast, itS, seval]
  refine YWP.loop (α := NtA RR) NtA.st (fun _ => none) (fun a => a.h.nr.length) ⟨_, nr.length + b.length + 1, by simp, H0, hRR, hbg⟩ ?_ rfl ?_
  ·simp only [NtA.st, NtA.O, ycOf]
   exact Wk.by _ _ _ [(0, 0), (1, 1), (2, 2), (3, 3), (4, 4)] [] [] (by simp) (by simp [wkV, PV.el, PV.weak, PS.get, PS.obj, PS.lv, lkp_hit, lkp_miss, lkp_nil, lko]) (by simp [PS.get, PS.obj, PS.lv, lkp_hit, lkp_miss, lkp_nil, lko, wkL, wkC, PV.weak, Hf.ct, hzC]) (by simp) (by rfl) (by rfl) (by simp [lko]) (by simp) (by simp) (by simp) (fun i hi => by have hi' : i < 5 := hi; rcases i with _ | _ | _ | _ | _ | i <;> first | rfl | (exfalso; omega))
  clear H0 hRR H hnb
  rintro ⟨h, f, hf, hok, he, hbt⟩
  have hW := wholeT_fs h hok.o
  have hwn := wt_n (h := h) hok.o (by have := hok.e.q; omega) hbt
  cases f with
  | zero => exact absurd hf (Nat.not_lt_zero _)
  | succ f =>
  rw [Hf.runT] at he
  generalize h.wt = W at *
  obtain ⟨w1, w2, w3⟩ := W
  obtain ⟨o1, bg1, s1, l1, e1, nr1, fr1, out1, dd1⟩ := h
  simp only [Hf.ct] at hW
  simp only at he hwn hok hf
  refine VCY_sound mixed ?_
  simp only [NtA.st, NtA.O, Hf.ct]
  cases dd1 with
  | true =>
   rw [if_pos rfl] at he
   simp -implicitDefEqProofs only [push_cast, seval]
   refine ⟨.inl rfl, hQ _ _ _ ?_ rfl rfl⟩
   rw [← he]; rfl
  | false =>
   rw [if_neg (by decide)] at he
   simp -implicitDefEqProofs only [push_cast, seval]
   refine YWP.reg mixed ?_
   simp -implicitDefEqProofs only [push_cast, seval]
   refine callE_bx hW [0] [] ?_
   cases w2 with
   | false =>
    rw [if_neg (by decide)] at he
    simp -implicitDefEqProofs only [push_cast, seval]
    refine ⟨.inr rfl, hQ _ _ _ ?_ rfl rfl⟩
    rw [← he]; rfl
   | true =>
    rw [if_pos rfl] at he
    obtain ⟨n, rfl, hn4, hnl, hn6, rfl⟩ := hwn rfl
    rw [Int.toNat_natCast] at he
    simp -implicitDefEqProofs only [push_cast, seval]
    (repeat (first | refine ⟨(by omega : _ ≤ _), ?_⟩ | refine ⟨(by omega : _ < _), ?_⟩ | refine ⟨(by simp [sts_length]; omega), ?_⟩ | refine ⟨(by simp [sts_length]), ?_⟩ | refine ⟨(by (unfold drawOk; kernel_rfl)), ?_⟩))
    have hml : (nr1.take n).length = n := by rw [List.length_take]; omega
    have hsl := sh_len s1 (nr1.take n)
    have hPut := hok.s.fs (b := nr1.take n) (by omega)
    have hp4 := putS_4 (n := (s1.sh (nr1.take n)).length) (by have := hok.e.q; simp only at this; omega)
    have hOrd := put_fs (o := 1) (s := 4) (.inr rfl) (by unfold isSize; omega) ((s1.sh (nr1.take n)).length : Int)
    have hSend := hok.e.fs hn4 hnl (b := frame (s1.sh (nr1.take n))) (by unfold frame; rw [List.length_append, hp4.1]; omega)
    have hok2 := Hf.Ok.stp hok hn4 hnl hml hn6 (nr1.drop n)
    rw [hp4.2] at hOrd
    unfold frame at hSend
    unfold Hf.stp frame at he hok2
    simp only at he hok2 hPut hSend
    have hml2 : (putS 1 4 ((s1.sh (nr1.take n)).length : Int)).length + (s1.sh (nr1.take n)).length ≤ 1000000 := by rw [hp4.1]; have := hok.e.q; simp only at this; omega
    generalize hsp : s1.put (nr1.take n) = s2 at *
    generalize s1.sh (nr1.take n) = sh2 at *
    generalize hes : En.sendE e1 (putS 1 4 (sh2.length : Int) ++ sh2) = e2 at *
    generalize putS 1 4 (sh2.length : Int) = pl at *
    simp only [Cc.pv] at hPut
    simp only [Lk.En.pv, Lk.En.cs, Lk.pcs] at hSend
    generalize nr1.take n = mm at *
    have hdl : (nr1.drop n).length = nr1.length - n := List.length_drop
    generalize nr1.drop n = rr at *
    refine YWP.reg_y 2 mixed ⟨by rfl, by rfl, by simp [ycOf]⟩ ?_ ?_ ?_
    ·intro S pe h
     have h' : ryK _ _ Exit.outgrown S pe := h
     rcases h'.1 with h | h <;> cases h
    ·decide
    simp -implicitDefEqProofs only [push_cast, seval]
    refine yldE_of _ (.tmp 36) #[.tmp 37] #[9] 38 rfl rfl (by rfl) rfl (by rfl) (by rfl) (by rfl) (by rfl) (by simp) ?_
    refine RndP.of mixed ⟨by rfl, by rfl, by simp [ycOf]⟩ ?_
    simp only [ycOf, ybeg]
    simp -implicitDefEqProofs only [push_cast, pz, seval]
    refine callE_p hPut ?_
    simp -implicitDefEqProofs only [push_cast, seval]
    refine callE_p hOrd ?_
    simp -implicitDefEqProofs only [push_cast, seval]
    (repeat (first | refine ⟨(by omega : _ ≤ _), ?_⟩ | refine ⟨(by omega : _ < _), ?_⟩ | refine ⟨(by simp [sts_length]; omega), ?_⟩ | refine ⟨(by simp [sts_length]), ?_⟩ | refine ⟨(by (unfold drawOk; kernel_rfl)), ?_⟩))
    refine callE_p hSend ?_
    simp -implicitDefEqProofs only [push_cast, seval]
    (repeat (first | refine ⟨(by omega : _ ≤ _), ?_⟩ | refine ⟨(by omega : _ < _), ?_⟩ | refine ⟨(by simp [sts_length]; omega), ?_⟩ | refine ⟨(by simp [sts_length]), ?_⟩ | refine ⟨(by (unfold drawOk; kernel_rfl)), ?_⟩))
    have htk : rr.take (nr1.length - n) = rr := List.take_of_length_le (by omega)
    rw [← hdl] at hok2
    refine ⟨⟨_, f, ?_, hok2, he, rfl⟩, ?_, ?_, rfl⟩
    ·simp only at hf ⊢; omega
    ·simp only; omega
    ·simp only [NtA.st, NtA.O, Hf.ct]
     exact Wk.by _ _ _ [(0, 0), (1, 1), (2, 2), (3, 3), (4, 4)] [] [] (by simp) (by simp [wkV, PV.el, PV.weak, PS.get, PS.obj, PS.lv, lkp_hit, lkp_miss, lkp_nil, lko]) (by simp [PS.get, PS.obj, PS.lv, lkp_hit, lkp_miss, lkp_nil, lko, wkL, wkC, PV.weak, hzC, htk]) (by simp) (by rfl) (by rfl) (by simp [lko]) (by simp) (by simp) (by simp) (fun i hi => by have hi' : i < 5 := hi; rcases i with _ | _ | _ | _ | _ | i <;> first | rfl | (exfalso; omega))
end Go.Proofs.Sh
set_option maxRecDepth 100000
set_option linter.unusedSimpArgs false
set_option linter.unusedVariables false
namespace Go.Proofs.Sh
open Go.Pv
open Lk (En Pc Dir A16 Full Two)
theorem runT_is : ∀ (L : List Bys) (f : Nat) (h : Hf), h.dd = false → h.bg = true → isOrder h.o → h.nr = L.flatten → (∀ x ∈ L, 4 ≤ x.length ∧ ∀ y, tlenR h.o (x ++ y) = ((x.length : Int), 0)) → h.nr.length < f →
 Hf.runT f h = { h with s := (fdm (h.s, h.e) L).1, e := (fdm (h.s, h.e) L).2, nr := [] }
 | _, 0, h, _, _, _, _, _, hf => absurd hf (Nat.not_lt_zero _)
 | [], f + 1, h, hd, hb, ho, hn, _, _ => by
  have hn' : h.nr = [] := hn
  have hO : isOrd h.o = true := by rcases ho with h | h <;> rw [h] <;> rfl
  have ht : tlenR h.o [] = (0, 3) := by unfold tlenR; rw [if_pos hO]; rfl
  have hw : h.wt = (0, false, h.dd) := by
   unfold Hf.wt
   rw [if_pos hb, hn', ht]
   rfl
  rw [Hf.runT, if_neg (by rw [hd]; decide), hw, if_neg (by simp)]
  obtain ⟨o, bg, s, l, e, nr, fr, out, dd⟩ := h
  simp only at hn'
  subst hn'
  rfl
 | x :: L, f + 1, h, hd, hb, ho, hn, hL, hf => by
  have hn' : h.nr = x ++ L.flatten := hn
  obtain ⟨h4, hx⟩ := hL x List.mem_cons_self
  have hw : h.wt = ((x.length : Int), true, false) := by
   unfold Hf.wt
   rw [if_pos hb, hn', hx]
   simp only
   rw [if_neg (by decide)]
   congr 2
   simp
   omega
  have ih := runT_is L f (Hf.stp { h with dd := false, bg := true, nr := L.flatten } x) rfl rfl ho rfl (fun y hy => hL y (List.mem_cons_of_mem _ hy)) (by
   show L.flatten.length < f
   rw [hn', List.length_append] at hf
   omega)
  have ht : h.nr.take x.length = x := by rw [hn']; exact List.take_left
  have hdr : h.nr.drop x.length = L.flatten := by rw [hn']; exact List.drop_left
  rw [Hf.runT, if_neg (by rw [hd]; decide), hw, if_pos rfl, Int.toNat_natCast, ht, hdr, ih]
  obtain ⟨o, bg, s, l, e, nr, fr, out, dd⟩ := h
  simp only at hd hb
  subst hd
  subst hb
  rfl
theorem fdm_r : ∀ (M : List Bys) (c : Cc) (e : En) (r : Nat), c.Ok → EnR e r → M.flatten.length ≤ r → (∀ m ∈ M, 4 ≤ m.length ∧ m.length ≤ 65536) → EnR (fdm (c, e) M).2 (r - M.flatten.length)
 | [], c, e, r, _, he, _, _ => he
 | m :: M, c, e, r, hc, he, hr, hm => by
  have hm4 := hm m List.mem_cons_self
  rw [List.flatten_cons, List.length_append] at hr
  have hsl := sh_len c m
  have hq := he.q
  have hfl : (frame (c.sh m)).length ≤ 6 + 3 * m.length := by
   unfold frame
   rw [List.length_append, (putS_4 (n := (c.sh m).length) (by omega)).1]
   omega
  have her2 := he.send hm4.1 (by omega) hfl
  have ih := fdm_r M (c.put m) (e.sendE (frame (c.sh m))) (r - m.length) (hc.put hm4.2) her2 (by omega) (fun q hq => hm q (List.mem_cons_of_mem _ hq))
  rw [List.flatten_cons, List.length_append, ← Nat.sub_sub]
  exact ih
theorem nearT_is {m o : Int} (ho : isOrder o) (h1 : 1 ≤ m) (h2 : m ≤ 1024) {L : List Bys} (hL : ∀ x ∈ L, 4 ≤ x.length ∧ ∀ y, tlenR o (x ++ y) = ((x.length : Int), 0)) (hn : L.flatten.length ≤ 3000) :
 Nw m L ((hfM true m o).nearT L.flatten) ∧ ((hfM true m o).nearT L.flatten).C 3022 := by
 have hR : (hfM true m o).nearT L.flatten = { hfM true m o with s := (fdm (c8, enM m) L).1, e := (fdm (c8, enM m) L).2, nr := [] } := by
  unfold Hf.nearT
  rw [runT_is L _ { hfM true m o with nr := (hfM true m o).nr ++ L.flatten } rfl rfl ho rfl hL (by simp)]
  rfl
 have hlen : ∀ x ∈ L, x.length ≤ L.flatten.length := fun x hx => (List.sublist_flatten_of_mem hx).length_le
 have hm : ∀ x ∈ L, 4 ≤ x.length ∧ x.length ≤ 65536 := fun x hx => ⟨(hL x hx).1, by have := hlen x hx; omega⟩
 have hml := mem4_len L hm
 have hE := (hfM_ok true ho h1 h2 3000 (by omega)).e
 have hB := fdm_bd L c8 (enM m) 22 3000 c8_ok hE hn hm (enM_bd h1 h2 22) (by omega)
 have hq := (fdm_r L c8 (enM m) 3000 c8_ok hE hn hm).q
 unfold Lk.En.tot at hq
 rw [hR]
 refine ⟨⟨rfl, rfl, rfl, rfl, rfl, hm, hn⟩, ⟨?_, ?_, ?_⟩, c8_ok, ?_⟩
 ·exact hB.1.up (by omega)
 ·simp only; omega
 ·exact hB.2
 ·show 0 + 65536 * 0 ≤ _; omega
theorem near_is {m o : Int} (ho : isOrder o) (h1 : 1 ≤ m) (h2 : m ≤ 1024) {x : Bys} (hx : x.length ≤ 3000) :
 ∃ M, reqs o x = (M, ((hfM false m o).near x).dd) ∧ ((∀ q ∈ M, 4 ≤ q.length ∧ q.length ≤ 65536) ∧ M.flatten.length ≤ 3000) ∧ (((hfM false m o).near x).dd = false → Nw m M ((hfM false m o).near x)) ∧ ((hfM false m o).near x).C 3022 := by
 have hOk := hfM_ok false ho h1 h2 (0 + x.length) (by omega)
 have hC := near_C (h := hfM false m o) ho rfl (x := x) (by show 0 + x.length ≤ 3000; omega) hOk (enM_bd h1 h2 22) rfl c8_ok rfl rfl
 obtain ⟨M, hI⟩ := run_is ((hfM false m o).nr.length + x.length + 1) { hfM false m o with nr := (hfM false m o).nr ++ x } ho rfl (by simp)
 obtain ⟨k1, k2⟩ := run_keep ((hfM false m o).nr.length + x.length + 1) { hfM false m o with nr := (hfM false m o).nr ++ x }
 have hn0 := hI.n
 have hxx0 : ((hfM false m o).nr ++ x).length = x.length := rfl
 simp only at hn0
 rw [hxx0] at hn0
 refine ⟨M, ?_, ⟨hI.m, by omega⟩, ?_, hC⟩
 ·unfold Hf.near
  have hq : rq o false x = (M, _) := hI.q
  obtain ⟨-, -, -, c4, -, -, -⟩ := Hf.cut_is (Hf.run ((hfM false m o).nr.length + x.length + 1) { hfM false m o with nr := (hfM false m o).nr ++ x })
  rw [c4]
  exact hq
 ·intro hd
  unfold Hf.near at hd ⊢
  generalize hR : Hf.run ((hfM false m o).nr.length + x.length + 1) { hfM false m o with nr := (hfM false m o).nr ++ x } = R at *
  obtain ⟨c1, c2, c3, c4, c5, c6, c7⟩ := Hf.cut_is R
  obtain ⟨d1, d2, d3⟩ := cut_keep R
  have hn := hI.n
  have hxx : ((hfM false m o).nr ++ x).length = x.length := rfl
  simp only at hn
  rw [hxx] at hn
  exact ⟨by rw [c2, c3]; exact hI.e, by rw [d3]; exact hI.l, by rw [d1]; exact k1, by rw [d2]; exact k2, hd, hI.m, by omega⟩
def sayL (o : Int) (K : List Ot) : List Bys := (K.map fun r => (tellS o r).1).filter fun b => !b.isEmpty
def sayB (o : Int) (K : List Ot) : Bys := (K.map fun r => (tellS o r).1).flatten
theorem sayL_flat (o : Int) (K : List Ot) : (sayL o K).flatten = sayB o K := List.flatten_filter_not_isEmpty
theorem sayL_mem {o : Int} {K : List Ot} {x : Bys} (h : x ∈ sayL o K) : 4 ≤ x.length ∧ ∀ y, tlenR o (x ++ y) = ((x.length : Int), 0) := by
 unfold sayL at h
 rw [List.mem_filter] at h
 obtain ⟨h1, h2⟩ := h
 obtain ⟨r, -, rfl⟩ := List.mem_map.1 h1
 have h0 : (tellS o r).2 = 0 := by
  rcases Decidable.em ((tellS o r).2 = 0) with h3 | h3
  ·exact h3
  ·rw [tellS_none h3] at h2; simp at h2
 exact ⟨by have := (tell_whole h0 []).1; omega, fun y => (tell_whole h0 y).2⟩
end Go.Proofs.Sh
