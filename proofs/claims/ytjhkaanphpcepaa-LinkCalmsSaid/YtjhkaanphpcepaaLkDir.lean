/- Two ends: what one sends, and what comes at the other one. Plain. -/
import Derived.Test.YtjhkaanphpcepaaLkInv
set_option maxRecDepth 100000
set_option linter.unusedSimpArgs false
set_option linter.unusedVariables false
namespace Go.Proofs.Lk
open Go.Pv
/-- The pieces under way are those numbered from k on. -/
def WayIs : Nat → List Pc → List (List UInt8) → Prop
  | _, [], Q => Q = []
  | _, _ :: _, [] => False
  | k, p :: w, q :: Q => p.n = (k : Int) ∧ p.b = q ∧ WayIs (k + 1) w Q
theorem WayIs.len : ∀ {k : Nat} {w : List Pc} {Q : List (List UInt8)}, WayIs k w Q → w.length = Q.length
  | _, [], Q, h => by rw [show Q = [] from h]; rfl
  | _, _ :: _, [], h => by cases h
  | k, p :: w, q :: Q, h => by simp [h.2.2.len]
theorem WayIs.snoc : ∀ {k : Nat} {w : List Pc} {Q : List (List UInt8)} {p : Pc} {q : List UInt8}, WayIs k w Q → p.n = ((k + w.length : Nat) : Int) → p.b = q → WayIs k (w ++ [p]) (Q ++ [q])
  | k, [], Q, p, q, h, hn, hb => by
    rw [show Q = [] from h]
    exact ⟨by simpa using hn, hb, rfl⟩
  | _, _ :: _, [], _, _, h, _, _ => by cases h
  | k, x :: w, y :: Q, p, q, h, hn, hb => ⟨h.1, h.2.1, h.2.2.snoc (by rw [hn]; simp; omega) hb⟩
theorem WayIs.map {f : Pc → Pc} (hn : ∀ p, (f p).n = p.n) (hb : ∀ p, (f p).b = p.b) : ∀ {k : Nat} {w : List Pc} {Q : List (List UInt8)}, WayIs k w Q → WayIs k (w.map f) Q
  | _, [], Q, h => h
  | _, _ :: _, [], h => by cases h
  | k, p :: w, q :: Q, h => ⟨by rw [hn]; exact h.1, by rw [hb]; exact h.2.1, h.2.2.map hn hb⟩
theorem WayIs.mem : ∀ {k : Nat} {w : List Pc} {Q : List (List UInt8)}, WayIs k w Q → ∀ p ∈ w, ∃ i, i < Q.length ∧ p.n = ((k + i : Nat) : Int) ∧ p.b = Q.getD i []
  | _, [], Q, h, p, hp => by cases hp
  | _, _ :: _, [], h, _, _ => by cases h
  | k, x :: w, q :: Q, h, p, hp => by
    rcases List.mem_cons.1 hp with rfl | hp
    · exact ⟨0, by simp, by simpa using h.1, by simpa using h.2.1⟩
    · obtain ⟨i, h1, h2, h3⟩ := h.2.2.mem p hp
      exact ⟨i + 1, by simpa using h1, by rw [h2]; omega, by simpa using h3⟩
theorem WayIs.ack {told : Nat} : ∀ {k : Nat} {w : List Pc} {Q : List (List UInt8)}, WayIs k w Q → told ≤ k + Q.length →
    WayIs (max k told) (w.dropWhile fun p => decide (p.n < (told : Int))) (Q.drop (told - k))
  | k, [], Q, h, ht => by
    rw [show Q = [] from h]
    simp [WayIs]
  | _, _ :: _, [], h, _ => by cases h
  | k, p :: w, q :: Q, h, ht => by
    obtain ⟨h1, h2, h3⟩ := h
    by_cases hk : k < told
    · rw [List.dropWhile_cons_of_pos (by rw [h1]; simp; omega)]
      have := h3.ack (told := told) (by simp at ht; omega)
      rw [show max k told = max (k + 1) told by omega, show told - k = (told - (k + 1)) + 1 by omega]
      exact this
    · rw [List.dropWhile_cons_of_neg (by rw [h1]; simp; omega), show told - k = 0 by omega, show max k told = k by omega]
      exact ⟨h1, h2, h3⟩
/-- A packet, as one that sends X's pieces P makes it. -/
def PkOf (P : List (List UInt8)) (x : Int) (t : List UInt8) : Prop := ∃ told : Nat, (told : Int) ≤ x ∧ ((∃ k, k < P.length ∧ t = pkt 0 (k : Int) (told : Int) (P.getD k [])) ∨ t = pkt 1 0 (told : Int) [])
theorem PkOf.up {P Q : List (List UInt8)} {x y : Int} {t : List UInt8} (h : PkOf P x t) (hx : x ≤ y) : PkOf (P ++ Q) y t := by
  obtain ⟨told, h1, h2⟩ := h
  refine ⟨told, by omega, ?_⟩
  rcases h2 with ⟨k, hk, rfl⟩ | rfl
  · exact .inl ⟨k, by simp; omega, by rw [List.getD_eq_getElem?_getD, List.getD_eq_getElem?_getD, List.getElem?_append_left hk]⟩
  · exact .inr rfl
theorem PkOf.up' {P : List (List UInt8)} {x y : Int} {t : List UInt8} (h : PkOf P x t) (hx : x ≤ y) : PkOf P y t := by
  obtain ⟨told, h1, h2⟩ := h
  exact ⟨told, by omega, h2⟩
/-- From X to Y: the pieces P; those from b on are under way; e of them came, in order. -/
structure Dir (X Y : En) (P : List (List UInt8)) (b e : Nat) (sent came : List UInt8) (T : List (List UInt8)) : Prop where
  m0 : 1 ≤ X.most
  m1 : X.most ≤ 1024
  next : X.next = (P.length : Int)
  way : WayIs b X.way (P.drop b)
  bl : b ≤ P.length
  be : b ≤ e
  w16 : X.way.length ≤ 16
  ne : ∀ q ∈ P, q ≠ [] ∧ q.length ≤ 1024
  exp : Y.exp = (e : Int)
  el : e ≤ P.length
  sent : P.flatten ++ X.rest = sent
  came : came ++ Y.read = (P.take e).flatten
  as0 : Y.aside 0 = []
  asd : ∀ j, Y.aside j = [] ∨ (e + j < P.length ∧ Y.aside j = P.getD (e + j) [])
  pk : ∀ t ∈ T, PkOf P X.exp t
theorem Dir.begins {X Y P b e sent came T} (h : Dir X Y P b e sent came T) : came <+: sent := by
  have h1 : came ++ Y.read <+: sent := by
    rw [h.came, ← h.sent]
    refine List.IsPrefix.trans ?_ (List.prefix_append _ _)
    conv => rhs; rw [← List.take_append_drop e P, List.flatten_append]
    exact List.prefix_append _ _
  exact (List.prefix_append _ _).trans h1
theorem Dir.left {X X' Y P b e sent came T T'} (h : Dir X Y P b e sent came T) (hm : X'.most = X.most) (hn : X'.next = X.next) (hw : WayIs b X'.way (P.drop b)) (hr : X'.rest = X.rest) (ht : ∀ t ∈ T', PkOf P X'.exp t) :
    Dir X' Y P b e sent came T' :=
  ⟨by rw [hm]; exact h.m0, by rw [hm]; exact h.m1, by rw [hn]; exact h.next, hw, h.bl, h.be, by rw [hw.len, ← h.way.len]; exact h.w16, h.ne, h.exp, h.el, by rw [hr]; exact h.sent, h.came, h.as0, h.asd, ht⟩
theorem Dir.right {X Y Y' P b e sent came T} (h : Dir X Y P b e sent came T) (hx : Y'.exp = Y.exp) (ha : Y'.aside = Y.aside) (hr : Y'.read = Y.read) : Dir X Y' P b e sent came T :=
  ⟨h.m0, h.m1, h.next, h.way, h.bl, h.be, h.w16, h.ne, by rw [hx]; exact h.exp, h.el, h.sent, by rw [hr]; exact h.came, by rw [ha]; exact h.as0, by rw [ha]; exact h.asd, h.pk⟩
theorem Dir.sub {X Y P b e sent came T T'} (h : Dir X Y P b e sent came T) (ht : ∀ t ∈ T', t ∈ T) : Dir X Y P b e sent came T' :=
  ⟨h.m0, h.m1, h.next, h.way, h.bl, h.be, h.w16, h.ne, h.exp, h.el, h.sent, h.came, h.as0, h.asd, fun t hm => h.pk t (ht t hm)⟩
/-- One piece more. -/
theorem Dir.num1 {X Y P b e sent came T} (h : Dir X Y P b e sent came T) (hr : X.rest ≠ []) (hw : X.way.length < 16) : ∃ q, Dir X.num1 Y (P ++ [q]) b e sent came T := by
  have hm0 := h.m0
  have hm1 := h.m1
  have hrl : 0 < X.rest.length := List.length_pos_iff.2 hr
  obtain ⟨n, hn⟩ : ∃ n : Nat, X.mn = (n : Int) := ⟨X.mn.toNat, by unfold En.mn; split <;> omega⟩
  have hn1 : 1 ≤ n ∧ n ≤ 1024 ∧ n ≤ X.rest.length := by
    have : X.mn = if (X.rest.length : Int) < X.most then (X.rest.length : Int) else X.most := rfl
    rw [hn] at this
    clear hn
    split at this <;> omega
  have hnt : X.mn.toNat = n := by rw [hn]; rfl
  have hwl := h.way.len
  have hbl := h.bl
  rw [List.length_drop] at hwl
  refine ⟨X.rest.take n, ⟨h.m0, h.m1, ?_, ?_, ?_, h.be, ?_, ?_, h.exp, ?_, ?_, ?_, h.as0, ?_, fun t ht => (h.pk t ht).up (Int.le_refl _)⟩⟩
  · show X.next + 1 = _
    rw [h.next]; simp
  · rw [List.drop_append_of_le_length h.bl]
    refine h.way.snoc ?_ ?_
    · show X.next = _
      rw [h.next]; congr 1; omega
    · show X.rest.take X.mn.toNat = _
      rw [hnt]
  · simp; omega
  · show (X.way ++ [_]).length ≤ 16
    simp; omega
  · intro q hq
    rcases List.mem_append.1 hq with hq | hq
    · exact h.ne q hq
    · have : q = X.rest.take n := by simpa using hq
      subst this
      refine ⟨fun hc => ?_, by simp; omega⟩
      have := congrArg List.length hc
      rw [List.length_take, List.length_nil] at this
      omega
  · have := h.el; simp; omega
  · show (P ++ [X.rest.take n]).flatten ++ X.rest.drop X.mn.toNat = sent
    rw [hnt, List.flatten_append, List.append_assoc]
    simp
    exact h.sent
  · rw [List.take_append_of_le_length h.el]; exact h.came
  · intro j
    rcases h.asd j with h1 | ⟨h1, h2⟩
    · exact .inl h1
    · refine .inr ⟨by simp; omega, ?_⟩
      rw [h2, List.getD_eq_getElem?_getD, List.getD_eq_getElem?_getD, List.getElem?_append_left h1]
theorem Dir.numL {Y b e sent came T} : ∀ (k : Nat) {X P}, Dir X Y P b e sent came T → ∃ Q, Dir (numL k X) Y (P ++ Q) b e sent came T
  | 0, X, P, h => ⟨[], by rw [List.append_nil]; exact h⟩
  | k + 1, X, P, h => by
    unfold Lk.numL
    split
    · rename_i hc
      simp at hc
      obtain ⟨q, hq⟩ := h.num1 hc.1 (by omega)
      obtain ⟨Q, hQ⟩ := hq.numL k
      exact ⟨q :: Q, by rw [List.append_assoc] at hQ; exact hQ⟩
    · exact ⟨[], by rw [List.append_nil]; exact h⟩
theorem Dir.number {X Y P b e sent came T} (h : Dir X Y P b e sent came T) : ∃ Q, Dir X.number Y (P ++ Q) b e sent came T := h.numL 17
theorem Dir.send {X Y P b e sent came T} (h : Dir X Y P b e sent came T) (s : List UInt8) : ∃ Q, Dir (X.sendE s) Y (P ++ Q) b e (sent ++ s) came T := by
  have h1 : Dir { X with rest := X.rest ++ s } Y P b e (sent ++ s) came T :=
    ⟨h.m0, h.m1, h.next, h.way, h.bl, h.be, h.w16, h.ne, h.exp, h.el, by rw [← List.append_assoc, h.sent], h.came, h.as0, h.asd, h.pk⟩
  exact h1.number
theorem Dir.due {X Y P b e sent came T} (h : Dir X Y P b e sent came T) (hx : 0 ≤ X.exp) : Dir X.due Y P b e sent came (T ++ X.dueP) := by
  refine h.left rfl rfl (WayIs.map (f := fun p => { p with due := false }) (fun _ => rfl) (fun _ => rfl) h.way) rfl (fun t ht => ?_)
  rcases List.mem_append.1 ht with ht | ht
  · exact h.pk t ht
  · have hs : ∀ t ∈ dueStr X X.way, PkOf P X.exp t := by
      intro t ht
      obtain ⟨p, hp, rfl⟩ := List.mem_map.1 ht
      obtain ⟨i, h1, h2, h3⟩ := h.way.mem p (List.mem_filter.1 hp).1
      rw [List.length_drop] at h1
      obtain ⟨x, hx'⟩ := Int.eq_ofNat_of_zero_le hx
      refine ⟨x, by rw [hx']; exact Int.le_refl _, .inl ⟨b + i, by omega, ?_⟩⟩
      rw [h2, h3, hx', List.getD_eq_getElem?_getD, List.getD_eq_getElem?_getD, List.getElem?_drop]
    unfold En.dueP at ht
    split at ht
    · have ht := List.mem_singleton.1 ht
      obtain ⟨x, hx'⟩ := Int.eq_ofNat_of_zero_le hx
      exact ⟨x, by show (x : Int) ≤ X.exp; rw [hx']; exact Int.le_refl _, .inr (by rw [ht, hx'])⟩
    · exact hs t ht
theorem Dir.tick {X Y P b e sent came T} (h : Dir X Y P b e sent came T) : Dir X.tick Y P b e sent came T :=
  h.left rfl rfl (WayIs.map (f := fun p => { p with due := true }) (fun _ => rfl) (fun _ => rfl) h.way) rfl h.pk
theorem Dir.cut {X Y P b e sent came T} (h : Dir X Y P b e sent came T) : Dir X.cut Y P b e sent came T := by
  unfold En.cut
  split
  · exact h
  · exact h.tick.left rfl rfl h.tick.way rfl h.pk
theorem Dir.clear {X Y P b e sent came T} (h : Dir X Y P b e sent came T) : Dir X { Y with read := [] } P b e sent (came ++ Y.read) T :=
  ⟨h.m0, h.m1, h.next, h.way, h.bl, h.be, h.w16, h.ne, h.exp, h.el, h.sent, by rw [← h.came]; simp, h.as0, h.asd, h.pk⟩
theorem Dir.clearL {X Y P b e sent came T} (h : Dir X Y P b e sent came T) : Dir { X with read := [] } Y P b e sent came T := h.left rfl rfl h.way rfl h.pk
/-- Acknowledged. -/
theorem Dir.ackn {X Y P b e sent came T} (h : Dir X Y P b e sent came T) {told : Nat} (ht : told ≤ e) : Dir (X.ackn (told : Int)) Y P (max b told) e sent came T := by
  have hel := h.el
  have hb := h.bl
  have hw := h.way.ack (told := told) (by rw [List.length_drop]; omega)
  rw [List.drop_drop, show b + (told - b) = max b told by omega] at hw
  refine ⟨h.m0, h.m1, h.next, hw, by omega, by have := h.be; omega, ?_, h.ne, h.exp, h.el, h.sent, h.came, h.as0, h.asd, h.pk⟩
  exact Nat.le_trans (List.dropWhile_sublist _).length_le h.w16
/-- What was laid aside follows. -/
theorem Dir.shL {X : En} {P b sent came T} : ∀ (k : Nat) {Y : En} {e : Nat}, (Dir X { Y with aside := fun _ => [] } P b e sent came T) → (∀ j, Y.aside j = [] ∨ (e + j < P.length ∧ Y.aside j = P.getD (e + j) [])) → (∀ j, k ≤ j → Y.aside j = []) →
    ∃ e', e ≤ e' ∧ (Y.aside 0 ≠ [] → 0 < k → e + 1 ≤ e') ∧ Dir X (shL k Y) P b e' sent came T
  | 0, Y, e, h, ha, hk => ⟨e, Nat.le_refl _, fun _ h0 => absurd h0 (Nat.lt_irrefl _), ⟨h.m0, h.m1, h.next, h.way, h.bl, h.be, h.w16, h.ne, h.exp, h.el, h.sent, h.came, hk 0 (Nat.zero_le _), ha, h.pk⟩⟩
  | k + 1, Y, e, h, ha, hk => by
    unfold Lk.shL
    split
    · rename_i h0
      have h0' : Y.aside 0 ≠ [] := by simpa using h0
      obtain ⟨h1, h2⟩ : e + 0 < P.length ∧ Y.aside 0 = P.getD (e + 0) [] := (ha 0).resolve_left h0'
      rw [Nat.add_zero] at h1 h2
      have hd : Dir X { Y.shift with aside := fun _ => [] } P b (e + 1) sent came T := by
        refine ⟨h.m0, h.m1, h.next, h.way, h.bl, by have := h.be; omega, h.w16, h.ne, ?_, by omega, h.sent, ?_, rfl, fun _ => .inl rfl, h.pk⟩
        · show Y.exp + 1 = _
          have : Y.exp = (e : Int) := h.exp
          rw [this]; omega
        · show came ++ (Y.read ++ Y.aside 0) = _
          have hc : came ++ Y.read = _ := h.came
          rw [← List.append_assoc, hc, h2, List.take_add_one, List.getElem?_eq_getElem h1, List.flatten_append, List.getD_eq_getElem?_getD, List.getElem?_eq_getElem h1]
          simp
      obtain ⟨e', he, -, hD⟩ := Dir.shL k hd (fun j => by
        rcases ha (j + 1) with h3 | ⟨h3, h4⟩
        · exact .inl h3
        · exact .inr ⟨by omega, by rw [show e + 1 + j = e + (j + 1) by omega]; exact h4⟩) (fun j hj => hk (j + 1) (by omega))
      exact ⟨e', by omega, fun _ _ => he, hD⟩
    · rename_i h0
      have h0' : Y.aside 0 = [] := by simpa using h0
      exact ⟨e, Nat.le_refl _, fun h9 => absurd h0' h9, ⟨h.m0, h.m1, h.next, h.way, h.bl, h.be, h.w16, h.ne, h.exp, h.el, h.sent, h.came, h0', ha, h.pk⟩⟩
theorem by8_of {n : Nat} : (by8 (n : Int)).toNat = n % 256 := by
  have : IntKind.u8.wrap (n : Int) = ((n % 256 : Nat) : Int) := by
    simp only [IntKind.wrap, IntKind.signed, IntKind.bits, Bool.false_and]
    show (n : Int) % 256 = _
    omega
  unfold by8
  rw [this]
  show (UInt8.ofNat ((n % 256 : Nat) : Int).toNat).toNat = _
  rw [Int.toNat_natCast, UInt8.toNat_ofNat']
  omega
theorem by8_fdiv {n d : Nat} : (by8 ((n : Int).fdiv (d : Int))).toNat = n / d % 256 := by
  rw [Int.fdiv_eq_ediv_of_nonneg _ (Int.natCast_nonneg _), ← Int.natCast_ediv, by8_of]
theorem four_by8 {n : Nat} (h : n < 4294967296) : fourN [by8 ((n : Int).fdiv 16777216), by8 ((n : Int).fdiv 65536), by8 ((n : Int).fdiv 256), by8 (n : Int)] = n := by
  have h1 : (by8 ((n : Int).fdiv 16777216)).toNat = n / 16777216 % 256 := by8_fdiv (d := 16777216)
  have h2 : (by8 ((n : Int).fdiv 65536)).toNat = n / 65536 % 256 := by8_fdiv (d := 65536)
  have h3 : (by8 ((n : Int).fdiv 256)).toNat = n / 256 % 256 := by8_fdiv (d := 256)
  have h4 := by8_of (n := n)
  simp only [fourN, List.getD_cons_zero, List.getD_cons_succ]
  omega
/-- What a packet is read as. -/
structure Read (t : List UInt8) (k n a : Nat) (b : List UInt8) : Prop where
  len : t.length = 11 + b.length
  kd : kd t = (k : Int)
  nu : nu t = (n : Int)
  to : to t = (a : Int)
  bd : bd t = b
  ln : ln t = (b.length : Int)
theorem pktBytes_read {k n a : Nat} {b : List UInt8} (hk : k < 256) (hn : n < 4294967296) (ha : a < 4294967296) (hb : b.length ≤ 1024) : Read (pktBytes (k : Int) (n : Int) (a : Int) b) k n a b where
  len := by simp only [pktBytes, List.length_cons]; omega
  kd := by
    show ((by8 (k : Int)).toNat : Int) = _
    rw [by8_of]; omega
  nu := by
    show ((fourN [_, _, _, _] : Nat) : Int) = _
    rw [four_by8 hn]
  to := by
    show ((fourN [_, _, _, _] : Nat) : Int) = _
    rw [four_by8 ha]
  bd := rfl
  ln := by
    show ((by8 ((b.length : Int).fdiv 256)).toNat : Int) * 256 + ((by8 (b.length : Int)).toNat : Int) = _
    rw [by8_of, show ((b.length : Int).fdiv 256) = ((b.length : Int).fdiv ((256 : Nat) : Int)) from rfl, by8_fdiv]
    omega
theorem pkt0_read {n a : Nat} {b : List UInt8} (hn : n < 4294967296) (ha : a < 4294967296) (hb0 : b ≠ []) (hb : b.length ≤ 1024) : Read (pkt 0 (n : Int) (a : Int) b) 0 n a b := by
  have := pktBytes_read (k := 0) (b := b) (by decide) hn ha hb
  rw [pkt, if_neg (by simp; omega), if_pos (show ((0 : Int) == 0) = true from rfl), if_neg (by simp [hb0]; omega)]
  exact this
theorem pkt1_read {a : Nat} (ha : a < 4294967296) : Read (pkt 1 0 (a : Int) []) 1 0 a [] := by
  have := pktBytes_read (k := 1) (n := 0) (b := []) (by decide) (by decide) ha (by decide)
  rw [pkt, if_neg (by simp; omega), if_neg (by decide), if_pos (show ((1 : Int) == 1) = true from rfl), if_neg (by decide)]
  exact this
/-- A piece came: no error; both ways go on. -/
theorem Dir.got0 {X Y : En} {P Q : List (List UInt8)} {b e b' e' : Nat} {sent came sent' came' T T'} (h : Dir X Y P b e sent came T) (h' : Dir Y X Q b' e' sent' came' T') {told k : Nat} (hto : told ≤ e') (hkP : k < P.length) (ha16 : ∀ j, 16 ≤ j → Y.aside j = []) (hP : P.length < 100000) (hQ : Q.length < 100000) :
    gotN Y (pkt 0 (k : Int) (told : Int) (P.getD k [])) = 0 ∧ ∃ e2 Q2, e ≤ e2 ∧ (k ≤ e → k + 1 ≤ e2) ∧ Dir X (Y.gotE (pkt 0 (k : Int) (told : Int) (P.getD k []))) P b e2 sent came T ∧ Dir (Y.gotE (pkt 0 (k : Int) (told : Int) (P.getD k []))) X (Q ++ Q2) (max b' told) e' sent' came' T' := by
  have hel' := h'.el
  have hel := h.el
  have hbe := h.be
  have hwl := h.way.len
  have hw16 := h.w16
  have hbl := h.bl
  rw [List.length_drop] at hwl
  have hY : Y.exp = (e : Int) := h.exp
  have hYn : Y.next = (Q.length : Int) := h'.next
  have hYm := h'.m0
  have hak := h'.ackn (told := told) (by omega)
  have hq : P.getD k [] ∈ P := by
    rw [List.getD_eq_getElem?_getD, List.getElem?_eq_getElem hkP]
    exact List.getElem_mem _
  obtain ⟨ne, nl⟩ := h.ne _ hq
  have R := pkt0_read (n := k) (a := told) (by omega) (by omega) ne nl
  have hnl : 1 ≤ (P.getD k []).length := List.length_pos_iff.2 ne
  generalize pkt 0 (k : Int) (told : Int) (P.getD k []) = t at *
  generalize hb : P.getD k [] = c at *
  refine ⟨?_, ?_⟩
  · rw [gotN, if_neg (by simp; omega), if_neg (by rw [R.len]; simp; omega), if_neg (by rw [R.kd]; decide), if_neg (by rw [R.bd, R.ln]; simp), if_neg, if_neg]
    · rw [R.to, R.kd, R.nu, hYn, hY]; simp; omega
    · rw [R.bd, R.kd]; simp [ne]; omega
  · have hge : Y.gotE t = ((Y.ackn (told : Int)).took (k : Int) c).number := by
      rw [En.gotE, R.kd, R.to, R.nu, R.bd]; rfl
    rw [hge]
    obtain ⟨s1, s2, s3, s4⟩ := took_same (Y.ackn (told : Int)) (k : Int) c
    have hnum := numL_numd 17 ((Y.ackn (told : Int)).took (k : Int) c) (by rw [s2]; show 0 ≤ Y.most; omega) (by rw [s1]; exact hak.w16)
    obtain ⟨e2, he2, hk2, hD⟩ : ∃ e2, e ≤ e2 ∧ (k ≤ e → k + 1 ≤ e2) ∧ Dir X ((Y.ackn (told : Int)).took (k : Int) c) P b e2 sent came T := by
      have h0 : Dir X (Y.ackn (told : Int)) P b e sent came T := h.right rfl rfl rfl
      unfold En.took
      split
      · rename_i h1
        have h1a : (k : Int) < (Y.ackn (told : Int)).exp := by simpa using h1
        have h1b : (k : Int) < Y.exp := h1a
        exact ⟨e, Nat.le_refl _, fun _ => by omega, h0.right rfl rfl rfl⟩
      · rename_i h1
        have h1a : ¬ ((k : Int) < (Y.ackn (told : Int)).exp) := by simpa using h1
        have h1b : ¬ ((k : Int) < Y.exp) := h1a
        have h1' : e ≤ k := by omega
        have hke : ((k : Int) - (Y.ackn (told : Int)).exp).toNat = k - e := by
          show ((k : Int) - Y.exp).toNat = _
          omega
        split
        · rename_i h2
          rw [hke] at h2
          refine ⟨e, Nat.le_refl _, fun hkk => ?_, h0.right rfl rfl rfl⟩
          have : k - e = 0 := by omega
          rw [this] at h2
          have h3 : (Y.ackn (told : Int)).aside 0 = [] := h.as0
          rw [h3] at h2
          exact absurd h2 (by decide)
        · rename_i h2
          rw [hke]
          obtain ⟨e2, g1, g2, g3⟩ := Dir.shL 17 (Y := (Y.ackn (told : Int)).acked.lay (k - e) c) (X := X) (P := P) (b := b) (e := e) (sent := sent) (came := came) (T := T) ⟨h.m0, h.m1, h.next, h.way, h.bl, h.be, h.w16, h.ne, h.exp, h.el, h.sent, h.came, rfl, fun _ => .inl rfl, h.pk⟩ (fun j => by
            show (if j = k - e then c else Y.aside j) = [] ∨ e + j < P.length ∧ (if j = k - e then c else Y.aside j) = _
            split
            · rename_i hj
              subst hj
              exact .inr ⟨by omega, by rw [show e + (k - e) = k by omega]; exact hb.symm⟩
            · exact h.asd j) (fun j hj => by
            show (if j = k - e then c else Y.aside j) = []
            rw [if_neg (by omega)]
            exact ha16 j (by omega))
          refine ⟨e2, g1, fun hkk => ?_, g3⟩
          have hk0 : k = e := by omega
          have := g2 (by
            show (if 0 = k - e then c else Y.aside 0) ≠ []
            rw [if_pos (by omega)]
            exact ne) (by decide)
          omega
    have hD2 : Dir ((Y.ackn (told : Int)).took (k : Int) c) X Q (max b' told) e' sent' came' T' := by
      refine hak.left s2 s4 (by rw [s1]; exact hak.way) s3 (fun u hu => (hak.pk u hu).up' ?_)
      show Y.exp ≤ _
      rw [hY, hD.exp]; omega
    obtain ⟨Q2, hQ2⟩ := hD2.number
    exact ⟨e2, Q2, he2, hk2, hD.right hnum.exp hnum.aside hnum.read, hQ2⟩
/-- An acknowledgement came. -/
theorem Dir.got1 {X Y : En} {P Q : List (List UInt8)} {b e b' e' : Nat} {sent came sent' came' T T'} (h : Dir X Y P b e sent came T) (h' : Dir Y X Q b' e' sent' came' T') {told : Nat} (hto : told ≤ e') (hP : P.length < 100000) (hQ : Q.length < 100000) :
    gotN Y (pkt 1 0 (told : Int) []) = 0 ∧ ∃ Q2, Dir X (Y.gotE (pkt 1 0 (told : Int) [])) P b e sent came T ∧ Dir (Y.gotE (pkt 1 0 (told : Int) [])) X (Q ++ Q2) (max b' told) e' sent' came' T' := by
  have hel' := h'.el
  have hYn : Y.next = (Q.length : Int) := h'.next
  have hYm := h'.m0
  have hak := h'.ackn (told := told) (by omega)
  have R := pkt1_read (a := told) (by omega)
  generalize pkt 1 0 (told : Int) [] = t at *
  refine ⟨?_, ?_⟩
  · rw [gotN, if_neg (by simp; omega), if_neg (by rw [R.len]; simp), if_neg (by rw [R.kd]; decide), if_neg (by rw [R.bd, R.ln]; simp), if_neg, if_neg]
    · rw [R.to, R.kd, R.nu, hYn]; simp; omega
    · rw [R.bd, R.kd, R.nu]; simp
  · have hge : Y.gotE t = (Y.ackn (told : Int)).number := by
      rw [En.gotE, R.kd, R.to]; rfl
    rw [hge]
    have hnum := numL_numd 17 (Y.ackn (told : Int)) (by show 0 ≤ Y.most; omega) hak.w16
    obtain ⟨Q2, hQ2⟩ := hak.number
    exact ⟨Q2, (h.right (Y' := Y.ackn (told : Int)) rfl rfl rfl).right hnum.exp hnum.aside hnum.read, hQ2⟩
/-- A packet came: no error; both ways go on. -/
theorem Dir.got {X Y : En} {P Q : List (List UInt8)} {b e b' e' : Nat} {sent came sent' came' T T' t} (h : Dir X Y P b e sent came T) (h' : Dir Y X Q b' e' sent' came' T') (ht : t ∈ T) (ha16 : ∀ j, 16 ≤ j → Y.aside j = []) (hP : P.length < 100000) (hQ : Q.length < 100000) :
    gotN Y t = 0 ∧ ∃ e2 b2 Q2, e ≤ e2 ∧ Dir X (Y.gotE t) P b e2 sent came T ∧ Dir (Y.gotE t) X (Q ++ Q2) b2 e' sent' came' T' := by
  obtain ⟨told, hto, hk⟩ := h.pk t ht
  have hX : X.exp = (e' : Int) := h'.exp
  rcases hk with ⟨k, hkP, rfl⟩ | rfl
  · obtain ⟨g1, e2, Q2, g2, -, g3, g4⟩ := h.got0 h' (told := told) (by omega) hkP ha16 hP hQ
    exact ⟨g1, e2, _, Q2, g2, g3, g4⟩
  · obtain ⟨g1, Q2, g3, g4⟩ := h.got1 h' (told := told) (by omega) hP hQ
    exact ⟨g1, e, _, Q2, Nat.le_refl _, g3, g4⟩
end Go.Proofs.Lk
