/- A line: two ends, and packets under way between them; what a pick does. Plain. -/
import Derived.Test.YtjhkaanphpcepaaLkDir
set_option maxRecDepth 100000
set_option linter.unusedSimpArgs false
set_option linter.unusedVariables false
namespace Go.Proofs.Lk
open Go.Pv
structure Ln where
  A : En
  B : En
  T : List (List UInt8)
  K : List (List UInt8)
  S : List UInt8
  R : List UInt8
  C : List UInt8
  D : List UInt8
/-- Is it sent? -/
def sendB (e : En) (b : List UInt8) : Bool := !(e.most == 0) && !(decide ((65536 : Int) < ((e.rest.length + b.length + pcSum e.way : Nat) : Int)))
def text0 (n m : Nat) : List UInt8 := [UInt8.ofNat (97 + n % 26), UInt8.ofNat (65 + m % 26)]
def text7 (n : Nat) : List UInt8 := [UInt8.ofNat (48 + n % 10)]
def core0 (l : Ln) (n : Nat) : Ln := if sendB l.A (text0 n l.S.length) = true then { l with A := l.A.sendE (text0 n l.S.length), S := l.S ++ text0 n l.S.length } else l
def core1 (l : Ln) : Ln := { l with A := l.A.due, T := l.T ++ l.A.dueP }
def core2 (l : Ln) : Ln := { l with B := l.B.due, K := l.K ++ l.B.dueP }
def pick (l : List (List UInt8)) (n : Nat) : List UInt8 := l.getD (n % l.length) []
def left (l : List (List UInt8)) (n : Nat) : List (List UInt8) := if 0 < n % 3 then l.take (n % l.length) ++ l.drop (n % l.length + 1) else l
def core3 (l : Ln) (n : Nat) : Ln := { l with B := l.B.gotE (pick l.T n), T := left l.T n }
def core4 (l : Ln) (n : Nat) : Ln := { l with A := l.A.gotE (pick l.K n), K := left l.K n }
def core5 (l : Ln) (n : Nat) : Ln :=
  if n % 2 = 0 then { l with T := l.T.drop 1 } else { l with K := l.K.drop 1 }
def core6 (l : Ln) (n : Nat) : Ln :=
  if n % 4 = 0 then { l with A := l.A.cut, B := l.B.cut, T := [], K := [] } else { l with A := l.A.tick, B := l.B.tick }
def core7 (l : Ln) (n : Nat) : Ln := if sendB l.B (text7 n) = true then { l with B := l.B.sendE (text7 n), R := l.R ++ text7 n } else l
def core (l : Ln) (p : Nat) : Ln :=
  if p % 8 = 0 then core0 l (p / 8) else if p % 8 = 1 then core1 l else if p % 8 = 2 then core2 l
  else if p % 8 = 3 then (if l.T = [] then l else core3 l (p / 8)) else if p % 8 = 4 then (if l.K = [] then l else core4 l (p / 8))
  else if p % 8 = 5 then core5 l (p / 8) else if p % 8 = 6 then core6 l (p / 8) else core7 l (p / 8)
/-- What came is read. -/
def Ln.rd (l : Ln) : Ln := { l with A := { l.A with read := [] }, B := { l.B with read := [] }, C := l.C ++ l.B.read, D := l.D ++ l.A.read }
def Ln.step (l : Ln) (p : Nat) : Ln := (core l p).rd
/-- Numbered as far as there is room. -/
def Full (e : En) : Prop := e.way.length = 16 ∨ e.rest = []
theorem numL_room : ∀ (k : Nat) (e : En), 16 ≤ e.way.length + k → e.way.length ≤ 16 → Full (numL k e)
  | 0, e, h, hw => .inl (by show e.way.length = 16; omega)
  | k + 1, e, h, hw => by
    unfold numL
    split
    · rename_i hc
      simp at hc
      have hl : e.num1.way.length = e.way.length + 1 := by simp [En.num1]
      exact numL_room k e.num1 (by omega) (by omega)
    · rename_i hc
      simp at hc
      rcases Decidable.em (e.rest = []) with h1 | h1
      · exact .inr h1
      · have := hc h1
        exact .inl (by omega)
theorem number_full (e : En) (hw : e.way.length ≤ 16) : Full e.number := numL_room 17 e (by omega) hw
theorem send_full (e : En) (b : List UInt8) (hw : e.way.length ≤ 16) : Full (e.sendE b) := number_full _ hw
theorem got_full (e : En) (t : List UInt8) (hw : e.way.length ≤ 16) : Full (e.gotE t) := by
  have ha : (e.ackn (to t)).way.length ≤ 16 := Nat.le_trans (List.dropWhile_sublist _).length_le hw
  unfold En.gotE
  split
  · exact number_full _ (by rw [(took_same (e.ackn (to t)) (nu t) (bd t)).1]; exact ha)
  · exact number_full _ ha
theorem due_full {e : En} (h : Full e) : Full e.due := by
  rcases h with h | h
  · exact .inl (by show (dueL e.way).length = 16; rw [dueL_len]; exact h)
  · exact .inr h
theorem tick_full {e : En} (h : Full e) : Full e.tick := by
  rcases h with h | h
  · exact .inl (by show (tickL e.way).length = 16; rw [tickL_len]; exact h)
  · exact .inr h
theorem cut_full {e : En} (h : Full e) : Full e.cut := by
  unfold En.cut
  split
  · exact h
  · exact tick_full h
/-- What holds of a line, behind i picks. -/
structure LnOk (i : Nat) (l : Ln) : Prop where
  d : ∃ P b e, ∃ Q b' e', Dir l.A l.B P b e l.S l.C l.T ∧ Dir l.B l.A Q b' e' l.R l.D l.K
  a : l.A.Bd i
  b : l.B.Bd i
  t : l.T.length ≤ 17 * i
  k : l.K.length ≤ 17 * i
  tl : ∀ t ∈ l.T, t.length ≤ 3000
  kl : ∀ t ∈ l.K, t.length ≤ 3000
  s : l.S.length ≤ 2 * i
  r : l.R.length ≤ 2 * i
  c : l.C.length ≤ 60000 * i
  dd : l.D.length ≤ 60000 * i
  fa : Full l.A
  fb : Full l.B
theorem LnOk.rd {i : Nat} {l : Ln} (h : LnOk i l) (hi : l.A.read.length ≤ 60000) (hj : l.B.read.length ≤ 60000) (hc : l.C.length + 60000 ≤ 60000 * i) (hd : l.D.length + 60000 ≤ 60000 * i) : LnOk i l.rd := by
  obtain ⟨P, b, e, Q, b', e', h1, h2⟩ := h.d
  refine ⟨⟨P, b, e, Q, b', e', h1.clear.clearL, h2.clear.clearL⟩, h.a.clear, h.b.clear, h.t, h.k, h.tl, h.kl, h.s, h.r, ?_, ?_, h.fa, h.fb⟩
  · show (l.C ++ l.B.read).length ≤ _
    rw [List.length_append]; omega
  · show (l.D ++ l.A.read).length ≤ _
    rw [List.length_append]; omega
theorem pkt_len {P : List (List UInt8)} {x : Int} {t : List UInt8} (h : PkOf P x t) (hP : ∀ q ∈ P, q ≠ [] ∧ q.length ≤ 1024) : t.length ≤ 3000 := by
  have hl : ∀ k n a b, b.length ≤ 1024 → (pkt k n a b).length ≤ 3000 := by
    intro k n a b hb
    unfold pkt
    repeat' split
    all_goals first | (simp only [pktBytes, List.length_cons]; omega) | simp
  obtain ⟨told, -, h⟩ := h
  rcases h with ⟨k, hk, rfl⟩ | rfl
  · refine hl _ _ _ _ (hP _ ?_).2
    rw [List.getD_eq_getElem?_getD, List.getElem?_eq_getElem hk]
    exact List.getElem_mem _
  · exact hl _ _ _ _ (by simp)
theorem pick_mem {l : List (List UInt8)} {n : Nat} (h : l ≠ []) : pick l n ∈ l := by
  have hl : 0 < l.length := List.length_pos_iff.2 h
  rw [pick, List.getD_eq_getElem?_getD, List.getElem?_eq_getElem (Nat.mod_lt _ hl)]
  exact List.getElem_mem _
theorem left_sub {l : List (List UInt8)} {n : Nat} : ∀ t ∈ left l n, t ∈ l := by
  intro t ht
  unfold left at ht
  split at ht
  · rcases List.mem_append.1 ht with h | h
    · exact List.mem_of_mem_take h
    · exact List.mem_of_mem_drop h
  · exact ht
theorem left_len (l : List (List UInt8)) (n : Nat) : (left l n).length ≤ l.length := by
  unfold left
  split
  · simp only [List.length_append, List.length_take, List.length_drop]; omega
  · exact Nat.le_refl _
theorem dueP_len (e : En) (h : e.way.length ≤ 16) : e.dueP.length ≤ 16 := by
  have hl : (dueStr e e.way).length ≤ e.way.length := by rw [dueStr, List.length_map]; exact List.length_filter_le _ _
  unfold En.dueP
  split
  · simp
  · omega
theorem Dir.len {X Y P b e sent came T} {i : Nat} (h : Dir X Y P b e sent came T) (hb : X.Bd i) (hi : i ≤ 301) : P.length < 100000 := by
  have h1 := h.next
  have h2 := hb.n1
  omega
theorem got_read {i : Nat} {e : En} (h : e.Bd i) {p : List UInt8} (hp : p.length ≤ 3000) (hg : gotN e p = 0) (hr0 : e.read.length ≤ 9000) : (e.gotE p).read.length ≤ 60000 := by
  have hbl : (bd p).length ≤ 3000 := by rw [bd, List.length_drop]; omega
  have hakl : (e.ackn (to p)).way.length ≤ 16 := Nat.le_trans (List.dropWhile_sublist _).length_le h.w
  unfold En.gotE
  split
  · rename_i hk
    have hr : nu p ≤ e.exp + 15 := by
      unfold gotN at hg
      repeat' split at hg
      all_goals first | (exfalso; omega) | skip
      rename_i hx
      have hk' : (kd p == 0) = true := hk
      simp [hk'] at hx
      omega
    have s := took_shd (e.ackn (to p)) (nu p) (bd p) hr hbl h.a16 h.al
    obtain ⟨q1, q2, q3, q4⟩ := took_same (e.ackn (to p)) (nu p) (bd p)
    have i1 := numL_numd 17 ((e.ackn (to p)).took (nu p) (bd p)) (by rw [q2]; exact h.m0) (by rw [q1]; exact hakl)
    have x2 := s.read
    have y1 : (e.ackn (to p)).read = e.read := rfl
    rw [y1] at x2
    rw [show ((e.ackn (to p)).took (nu p) (bd p)).number.read = ((e.ackn (to p)).took (nu p) (bd p)).read from i1.read]
    omega
  · have i1 := numL_numd 17 (e.ackn (to p)) h.m0 hakl
    rw [show (e.ackn (to p)).number.read = e.read from i1.read]
    omega
set_option maxHeartbeats 1000000 in
theorem core_ok {i : Nat} {l : Ln} (h : LnOk i l) (hi : i ≤ 300) (p : Nat) (ha : l.A.read = []) (hb : l.B.read = []) :
    LnOk (i + 1) (core l p) ∧ (core l p).A.read.length ≤ 60000 ∧ (core l p).B.read.length ≤ 60000 ∧ (core l p).C = l.C ∧ (core l p).D = l.D ∧
      (p % 8 = 3 → l.T ≠ [] → gotN l.B (pick l.T (p / 8)) = 0) ∧ (p % 8 = 4 → l.K ≠ [] → gotN l.A (pick l.K (p / 8)) = 0) := by
  obtain ⟨P, b, e, Q, b', e', h1, h2⟩ := h.d
  have hPl := h1.len h.a (by omega)
  have hQl := h2.len h.b (by omega)
  have up : LnOk (i + 1) l := ⟨h.d, h.a.up (by omega), h.b.up (by omega), by have := h.t; omega, by have := h.k; omega, h.tl, h.kl, by have := h.s; omega, by have := h.r; omega, by have := h.c; omega, by have := h.dd; omega, h.fa, h.fb⟩
  have ra : l.A.read.length ≤ 60000 := by rw [ha]; simp
  have rb : l.B.read.length ≤ 60000 := by rw [hb]; simp
  have hax := h.a.e0
  have hbx := h.b.e0
  have haw := h.a.w
  have hbw := h.b.w
  have keep : LnOk (i + 1) l ∧ l.A.read.length ≤ 60000 ∧ l.B.read.length ≤ 60000 ∧ l.C = l.C ∧ l.D = l.D := ⟨up, ra, rb, rfl, rfl⟩
  unfold core
  split
  · -- sends
    rename_i hp
    refine ⟨?_, ?_, ?_, ?_, ?_, fun h => absurd h (by omega), fun h => absurd h (by omega)⟩ <;> unfold core0 <;> split
    · obtain ⟨N, hN⟩ := h1.send (text0 (p / 8) l.S.length)
      have hnum := numL_numd 17 { l.A with rest := l.A.rest ++ text0 (p / 8) l.S.length } h.a.m0 h.a.w
      refine ⟨⟨_, _, _, Q, b', e', hN, h2.right hnum.exp hnum.aside hnum.read⟩, h.a.send (by simp [text0]), up.b, up.t, up.k, up.tl, up.kl, ?_, up.r, up.c, up.dd, send_full _ _ haw, h.fb⟩
      show (l.S ++ text0 (p / 8) l.S.length).length ≤ _
      have := h.s
      rw [List.length_append]; simp [text0]; omega
    · exact up
    · have hnum := numL_numd 17 { l.A with rest := l.A.rest ++ text0 (p / 8) l.S.length } h.a.m0 h.a.w
      show (l.A.sendE _).read.length ≤ _
      rw [show (l.A.sendE (text0 (p / 8) l.S.length)).read = l.A.read from hnum.read]; exact ra
    · exact ra
    · exact rb
    · exact rb
    · rfl
    · rfl
    · rfl
    · rfl
  · split
    · rename_i hp0 hp
      refine ⟨⟨⟨P, b, e, Q, b', e', h1.due hax, h2.right rfl rfl rfl⟩, h.a.due.up (by omega), up.b, ?_, up.k, ?_, up.kl, up.s, up.r, up.c, up.dd, due_full h.fa, h.fb⟩, ra, rb, rfl, rfl, fun h => absurd h (by omega), fun h => absurd h (by omega)⟩
      · have := dueP_len l.A haw
        have := h.t
        show (l.T ++ l.A.dueP).length ≤ _
        rw [List.length_append]; omega
      · intro t ht
        exact pkt_len ((h1.due hax).pk t ht) h1.ne
    · split
      · rename_i hp0 hp1 hp
        refine ⟨⟨⟨P, b, e, Q, b', e', h1.right rfl rfl rfl, h2.due hbx⟩, up.a, h.b.due.up (by omega), up.t, ?_, up.tl, ?_, up.s, up.r, up.c, up.dd, h.fa, due_full h.fb⟩, ra, rb, rfl, rfl, fun h => absurd h (by omega), fun h => absurd h (by omega)⟩
        · have := dueP_len l.B hbw
          have := h.k
          show (l.K ++ l.B.dueP).length ≤ _
          rw [List.length_append]; omega
        · intro t ht
          exact pkt_len ((h2.due hbx).pk t ht) h2.ne
      · split
        · rename_i hp0 hp1 hp2 hp
          split
          · rename_i hT
            exact ⟨up, ra, rb, rfl, rfl, fun _ h => absurd hT h, fun h => absurd h (by omega)⟩
          · rename_i hT
            have hm := pick_mem (n := p / 8) hT
            obtain ⟨g1, e2, b2, Q2, g2, g3, g4⟩ := h1.got h2 hm h.b.a16 hPl hQl
            have hbd := h.b.got (h.tl _ hm) g1
            refine ⟨⟨⟨P, b, e2, Q ++ Q2, b2, e', g3.sub left_sub, g4⟩, up.a, hbd, Nat.le_trans (left_len _ _) up.t, up.k, fun t ht => h.tl t (left_sub t ht), up.kl, up.s, up.r, up.c, up.dd, h.fa, got_full _ _ hbw⟩, ra, ?_, rfl, rfl, fun _ _ => g1, fun h => absurd h (by omega)⟩
            exact got_read h.b (h.tl _ hm) g1 (by rw [hb]; simp)
        · split
          · rename_i hp0 hp1 hp2 hp3 hp
            split
            · rename_i hT
              exact ⟨up, ra, rb, rfl, rfl, fun h => absurd h (by omega), fun _ h => absurd hT h⟩
            · rename_i hT
              have hm := pick_mem (n := p / 8) hT
              obtain ⟨g1, e2, b2, P2, g2, g3, g4⟩ := h2.got h1 hm h.a.a16 hQl hPl
              have hbd := h.a.got (h.kl _ hm) g1
              refine ⟨⟨⟨P ++ P2, b2, e, Q, b', e2, g4, g3.sub left_sub⟩, hbd, up.b, up.t, Nat.le_trans (left_len _ _) up.k, up.tl, fun t ht => h.kl t (left_sub t ht), up.s, up.r, up.c, up.dd, got_full _ _ haw, h.fb⟩, ?_, rb, rfl, rfl, fun h => absurd h (by omega), fun _ _ => g1⟩
              exact got_read h.a (h.kl _ hm) g1 (by rw [ha]; simp)
          · split
            · refine ⟨?_, ?_, ?_, ?_, ?_, fun h => absurd h (by omega), fun h => absurd h (by omega)⟩ <;> unfold core5 <;> split
              · exact ⟨⟨P, b, e, Q, b', e', h1.sub (fun t ht => List.mem_of_mem_drop ht), h2⟩, up.a, up.b, by show (l.T.drop 1).length ≤ _; rw [List.length_drop]; have := up.t; omega, up.k, fun t ht => h.tl t (List.mem_of_mem_drop ht), up.kl, up.s, up.r, up.c, up.dd, h.fa, h.fb⟩
              · exact ⟨⟨P, b, e, Q, b', e', h1, h2.sub (fun t ht => List.mem_of_mem_drop ht)⟩, up.a, up.b, up.t, by show (l.K.drop 1).length ≤ _; rw [List.length_drop]; have := up.k; omega, up.tl, fun t ht => h.kl t (List.mem_of_mem_drop ht), up.s, up.r, up.c, up.dd, h.fa, h.fb⟩
              · exact ra
              · exact ra
              · exact rb
              · exact rb
              · rfl
              · rfl
              · rfl
              · rfl
            · split
              · have cr : ∀ x : En, x.cut.read = x.read := fun x => by unfold En.cut; split <;> rfl
                have ce : ∀ x : En, x.cut.exp = x.exp := fun x => by unfold En.cut; split <;> rfl
                have ca : ∀ x : En, x.cut.aside = x.aside := fun x => by unfold En.cut; split <;> rfl
                refine ⟨?_, ?_, ?_, ?_, ?_, fun h => absurd h (by omega), fun h => absurd h (by omega)⟩ <;> unfold core6 <;> split
                · exact ⟨⟨P, b, e, Q, b', e', (h1.cut.right (ce _) (ca _) (cr _)).sub (fun t ht => (by cases ht)), (h2.cut.right (ce _) (ca _) (cr _)).sub (fun t ht => (by cases ht))⟩, h.a.cut.up (by omega), h.b.cut.up (by omega), Nat.zero_le _, Nat.zero_le _, fun t ht => (by cases ht), fun t ht => (by cases ht), up.s, up.r, up.c, up.dd, cut_full h.fa, cut_full h.fb⟩
                · exact ⟨⟨P, b, e, Q, b', e', h1.tick.right rfl rfl rfl, h2.tick.right rfl rfl rfl⟩, h.a.tick.up (by omega), h.b.tick.up (by omega), up.t, up.k, up.tl, up.kl, up.s, up.r, up.c, up.dd, tick_full h.fa, tick_full h.fb⟩
                · show l.A.cut.read.length ≤ _; rw [cr]; exact ra
                · exact ra
                · show l.B.cut.read.length ≤ _; rw [cr]; exact rb
                · exact rb
                · rfl
                · rfl
                · rfl
                · rfl
              · refine ⟨?_, ?_, ?_, ?_, ?_, fun h => absurd h (by omega), fun h => absurd h (by omega)⟩ <;> unfold core7 <;> split
                · obtain ⟨N, hN⟩ := h2.send (text7 (p / 8))
                  have hnum := numL_numd 17 { l.B with rest := l.B.rest ++ text7 (p / 8) } h.b.m0 h.b.w
                  refine ⟨⟨P, b, e, _, _, _, h1.right hnum.exp hnum.aside hnum.read, hN⟩, up.a, h.b.send (by simp [text7]), up.t, up.k, up.tl, up.kl, up.s, ?_, up.c, up.dd, h.fa, send_full _ _ hbw⟩
                  show (l.R ++ text7 (p / 8)).length ≤ _
                  have := h.r
                  rw [List.length_append]; simp [text7]; omega
                · exact up
                · exact ra
                · exact ra
                · have hnum := numL_numd 17 { l.B with rest := l.B.rest ++ text7 (p / 8) } h.b.m0 h.b.w
                  show (l.B.sendE _).read.length ≤ _
                  rw [show (l.B.sendE (text7 (p / 8))).read = l.B.read from hnum.read]; exact rb
                · exact rb
                · rfl
                · rfl
                · rfl
                · rfl
/-- Behind a pick. -/
theorem step_ok {i : Nat} {l : Ln} (h : LnOk i l) (hi : i ≤ 300) (p : Nat) (ha : l.A.read = []) (hb : l.B.read = []) :
    LnOk (i + 1) (l.step p) ∧ (l.step p).A.read = [] ∧ (l.step p).B.read = [] := by
  obtain ⟨h1, h2, h3, h4, h5, -, -⟩ := core_ok h hi p ha hb
  have hc := h.c
  have hd := h.dd
  exact ⟨h1.rd h2 h3 (by rw [h4]; omega) (by rw [h5]; omega), rfl, rfl⟩
/-- At the beginning. -/
theorem new_ok (a b : Int) (ha : 1 ≤ a) (ha2 : a ≤ 5) (hb : 1 ≤ b) (hb2 : b ≤ 5) : LnOk 0 ⟨{ End0 with most := a }, { End0 with most := b }, [], [], [], [], [], []⟩ := by
  have bd : ∀ x : Int, 1 ≤ x → x ≤ 5 → ({ End0 with most := x } : En).Bd 0 := fun x h1 h2 =>
    ⟨by show 0 ≤ x; omega, by show x ≤ 1024; omega, Nat.zero_le _, (fun p hp => by cases hp), Int.le_refl _, by simp [End0], Nat.zero_le _, Int.le_refl _, by simp [End0], fun j _ => rfl, fun j => Nat.zero_le _, Nat.zero_le _⟩
  have dir : ∀ x y : Int, 1 ≤ x → x ≤ 5 → Dir { End0 with most := x } { End0 with most := y } [] 0 0 [] [] [] := fun x y h1 h2 =>
    ⟨h1, by show x ≤ 1024; omega, rfl, rfl, Nat.le_refl _, Nat.le_refl _, Nat.zero_le _, fun q hq => (by cases hq), rfl, Nat.le_refl _, rfl, rfl, rfl, fun _ => .inl rfl, fun t ht => (by cases ht)⟩
  exact ⟨⟨[], 0, 0, [], 0, 0, dir a b ha ha2, dir b a hb hb2⟩, bd a ha ha2, bd b hb hb2, Nat.le_refl _, Nat.le_refl _, fun t ht => (by cases ht), fun t ht => (by cases ht), Nat.le_refl _, Nat.le_refl _, Nat.le_refl _, Nat.le_refl _, .inr rfl, .inr rfl⟩
theorem LnOk.begins {i : Nat} {l : Ln} (h : LnOk i l) : l.C <+: l.S ∧ l.D <+: l.R := by
  obtain ⟨P, b, e, Q, b', e', h1, h2⟩ := h.d
  exact ⟨h1.begins, h2.begins⟩
end Go.Proofs.Lk
