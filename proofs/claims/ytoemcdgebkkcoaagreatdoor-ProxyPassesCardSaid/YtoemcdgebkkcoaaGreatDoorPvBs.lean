/- A strings.Builder's text: the library's function, told exactly. Nothing of any program. -/
import Derived.Test.YtoemcdgebkkcoaaGreatDoorPvBd
set_option linter.unusedSimpArgs false
set_option linter.unusedVariables false
set_option linter.unusedSectionVars false
namespace Go.Proofs
open Go.Shelf Go.RowKit
variable {P : Program} {ρ : Ren}
set_option maxHeartbeats 2000000 in
set_option maxRecDepth 100000 in
theorem Bd.String_full (L : Lays.n169 P ρ) (X : Builder.Extra P ρ) (b g cap : Nat) (p : Value) (cur : Array Value) (l : List UInt8) (w : World) (fr1 fr2 : Nat × Nat) (h0 : l ≠ [])
 (hbk : w.heap[b]? = some (.cells #[p, .slice (some ⟨g, 0, none⟩) l.length cap] (ρ.t 72) fr1)) (hg : w.heap[g]? = some (.cells cur (ρ.t 5) fr2)) (hc : l.length ≤ cap) (hcm : cap ≤ maxLen) (hcs : cap ≤ cur.size)
 (hcells : ∀ (j : Nat) (x : UInt8), l[j]? = some x → w.cell? ((⟨g, 0, none⟩ : Addr).add j) = some (.int .u8 x.toNat)) :
 Calls P (ρ.f 169) #[.pointer (some ⟨b, 0, none⟩)] w fun e w' => e = .returned (.string ⟨l.toArray⟩) ∧ w' = w.drew.freeze ⟨g, 0, none⟩ l.length := by
 have hl0 : l.length ≠ 0 := by simpa using h0
 have c1 : w.drew.cell? ⟨b, 1, none⟩ = some (.slice (some ⟨g, 0, none⟩) l.length cap) := by
  have : w.drew.heap[b]? = some (.cells #[p, .slice (some ⟨g, 0, none⟩) l.length cap] (ρ.t 72) fr1) := hbk
  rw [Lib.cell_of_heap this]; rfl
 have hSD : (Builtin.unsafeSliceData_ #[(ρ.t 37)] (ρ.t 127) #[.slice (some ⟨g, 0, none⟩) l.length cap]).run P w.drew = .ok (.pointer (some ⟨g, 0, none⟩)) w.drew :=
  Lib.run_unsafeSliceData_row _ _ _ _ _ _ (by omega)
 have hUS : (Builtin.unsafeString_ #[(ρ.t 127), (ρ.t 3)] (ρ.t 9) #[.pointer (some ⟨g, 0, none⟩), .int .i64 l.length]).run P w.drew = .ok (.string ⟨l.toArray⟩) (w.drew.freeze ⟨g, 0, none⟩ l.length) := by
  refine Lib.run_unsafeString_row w.drew (ρ.t 127) (ρ.t 3) (ρ.t 9) (ρ.t 5) L.t127 X.cellsByte g cur.size (by have hg' : w.drew.heap[g]? = some (.cells cur (ρ.t 5) fr2) := hg; simp [World.shape?, hg']) l h0 (by omega) (by unfold maxLen at hcm; omega) ?_
  intro j x hx
  exact hcells j x hx
 have mixed := L.mixed
 have t72 := L.t72; have a72 := L.a72; have z72 := L.z72; have v72 := L.v72; have u72 := run_underlying L.t72
 have t70 := L.t70; have a70 := L.a70; have z70 := L.z70; have v70 := L.v70; have u70 := run_underlying L.t70
 have t37 := L.t37; have a37 := L.a37; have z37 := L.z37; have v37 := L.v37; have u37 := run_underlying L.t37
 have t127 := L.t127; have a127 := L.a127; have z127 := L.z127; have v127 := L.v127; have u127 := run_underlying L.t127
 have t3 := L.t3; have a3 := L.a3; have z3 := L.z3; have v3 := L.v3; have u3 := run_underlying L.t3
 have t9 := L.t9; have a9 := L.a9; have z9 := L.z9; have v9 := L.v9; have u9 := run_underlying L.t9
 have t5 := X.t5; have a5 := X.a5; have z5 := X.z5; have v5 := X.v5; have u5 := run_underlying X.t5
 go_enter L.f169, Body.n169_ntmps ρ
 go_wp2
 go_region_o
 all_goals (go_wp2; go_ret; exact ⟨rfl, rfl⟩)
set_option maxHeartbeats 2000000 in
set_option maxRecDepth 100000 in
theorem Bd.String_none (L : Lays.n169 P ρ) (X : Builder.Extra P ρ) (b cap : Nat) (p : Value) (a q : Option Addr) (w : World) (fr1 : Nat × Nat)
 (hbk : w.heap[b]? = some (.cells #[p, .slice a 0 cap] (ρ.t 72) fr1))
 (hSD : (Builtin.unsafeSliceData_ #[(ρ.t 37)] (ρ.t 127) #[.slice a 0 cap]).run P w.drew = .ok (.pointer q) w.drew) :
 Calls P (ρ.f 169) #[.pointer (some ⟨b, 0, none⟩)] w fun e w' => e = .returned (.string ⟨#[]⟩) ∧ w' = w.drew := by
 have hUS : ∀ W, (Builtin.unsafeString_ #[(ρ.t 127), (ρ.t 3)] (ρ.t 9) #[.pointer q, .int .i64 0]).run P W = .ok (.string .empty) W := fun W => Any.unsafeString_none L X W q
 have c1 : w.drew.cell? ⟨b, 1, none⟩ = some (.slice a 0 cap) := by
  have : w.drew.heap[b]? = some (.cells #[p, .slice a 0 cap] (ρ.t 72) fr1) := hbk
  rw [Lib.cell_of_heap this]; rfl
 have mixed := L.mixed
 have t72 := L.t72; have a72 := L.a72; have z72 := L.z72; have v72 := L.v72; have u72 := run_underlying L.t72
 have t70 := L.t70; have a70 := L.a70; have z70 := L.z70; have v70 := L.v70; have u70 := run_underlying L.t70
 have t37 := L.t37; have a37 := L.a37; have z37 := L.z37; have v37 := L.v37; have u37 := run_underlying L.t37
 have t127 := L.t127; have a127 := L.a127; have z127 := L.z127; have v127 := L.v127; have u127 := run_underlying L.t127
 have t3 := L.t3; have a3 := L.a3; have z3 := L.z3; have v3 := L.v3; have u3 := run_underlying L.t3
 have t9 := L.t9; have a9 := L.a9; have z9 := L.z9; have v9 := L.v9; have u9 := run_underlying L.t9
 have t5 := X.t5; have a5 := X.a5; have z5 := X.z5; have v5 := X.v5; have u5 := run_underlying X.t5
 go_enter L.f169, Body.n169_ntmps ρ
 go_wp2
 go_region_o
 all_goals (go_wp2; go_ret; exact ⟨rfl, rfl⟩)
end Go.Proofs
namespace Go.Pv
open Go.Proofs Go.Shelf Go.RowKit
variable [GTab] {P : Program} {ρ : Ren}
def bs (l : List UInt8) : List PV := l.map fun x => .int .u8 (x.toNat : Int)
theorem bs_length (l : List UInt8) : (bs l).length = l.length := by simp [bs]
theorem bs_append (l m : List UInt8) : bs (l ++ m) = bs l ++ bs m := by simp [bs]
theorem bs_cells (l : List UInt8) : (bs l).flatMap PV.cells = bs l := by
 induction l with
 | nil => rfl
 | cons x l ih => rw [show bs (x :: l) = .int .u8 (x.toNat : Int) :: bs l from rfl, List.flatMap_cons, ih]; rfl
theorem bs_read {g : Gh} {S : PS} {w : World} (hI : InvW g S w) {b off n cap : Nat} {l : List UInt8} (r : PRel g.h (.slice (some ⟨b, off, none⟩) n cap) (.sl 1 (bs l))) :
 n = l.length ∧ n ≤ cap ∧ cap ≤ maxLen ∧ ∀ (j : Nat) (x : UInt8), l[j]? = some x → w.cell? ⟨b, off + j, none⟩ = some (.int .u8 x.toNat) := by
 generalize hes : bs l = es at r
 cases r with
 | slx =>
  have hl : l = [] := by
   cases l with
   | nil => rfl
   | cons => cases hes
  subst hl
  exact ⟨rfl, Nat.le_refl _, Nat.zero_le _, fun j x hx => by simp at hx⟩
 | sl _ _ _ _ _ _ vals hn hc hm hsz hh ho hp =>
  subst hes
  rw [bs_cells] at hh hp
  refine ⟨by rw [hn, bs_length], hc, hm, fun j x hx => ?_⟩
  have hj : j < (bs l).length := by rw [bs_length]; exact (List.getElem?_eq_some_iff.1 hx).1
  have e1 : (bs l)[j]? = some (.int .u8 (x.toNat : Int)) := by simp [bs, hx]
  have e2 := hp j _ e1
  have e3 : vals j = .int .u8 (x.toNat : Int) := by cases hv : vals j <;> rw [hv] at e2 <;> cases e2; rfl
  rw [← e3]
  exact hI.cell (hh j hj) (by rw [e3]; rfl)
theorem bld_fin {g : Gh} {w w' : World} {b : Nat} {T : TypeId} {c c' : PV} {nt : Nat} {u v : Value} {s : List UInt8} {fr : Nat × Nat} (hI : InvW g (st0 [[.nbp T 0, c]] nt) w) (hb : g.blk 0 = some b)
 (hh : w.heap[b]? = some (.cells #[u, v] T fr)) (hfr : FrOk fr 2) (hu : Rel g u (.nbp T 0)) (ho : u.oneCell' = true ∧ v.oneCell' = true) (hr : Rel g v c') (hno : ∀ o, g.h b o = none)
 (hcell : ∀ b o v, g.h b o = some v → wcell w' b o = some v) (hbox : w'.heap[b]? = w.heap[b]?) (htys : ∀ b T m, g.ty b = some (T, m) → ∃ vals fr, w'.heap[b]? = some (.cells vals T fr) ∧ vals.size = m)
 (hsize : w.heap.size ≤ w'.heap.size) (hjk : ∀ b m, g.h.j b = some m → w'.heap[b]? = w.heap[b]?) (hkeep : ∀ k, k < w.heap.size → BlkKeep (Own g (st0 [[.nbp T 0, c]] nt) k) w.heap[k]? w'.heap[k]?) (hos : w'.os = w.os) (htape : w'.tape = w.tape) (hout : w'.output = w.output) :
 ∃ x g', Ending.returned (.string ⟨⟨s⟩⟩) = .returned x ∧ InvW g' (st0 [[.nbp T 0, c']] 0) w' ∧ ExtW g (st0 [[.nbp T 0, c]] nt) w g' (st0 [[.nbp T 0, c']] 0) w' ∧ (∀ i, i < [[PV.nbp T 0, c]].length → g'.blk i = g.blk i) ∧
  (∀ i, [[PV.nbp T 0, c]].length ≤ i → i < [[PV.nbp T 0, c']].length → ∃ b, g'.blk i = some b ∧ w.heap.size ≤ b) ∧ Rel g' x (.str s) := by
 have ob : ∀ id ps, (st0 [[.nbp T 0, c']] 0).obj id = some ps → id = 0 ∧ ps = [.nbp T 0, c'] := by
  intro id ps h
  rw [st0_obj] at h
  match id, h with
  | 0, h => cases h; exact ⟨rfl, rfl⟩
  | id + 1, h => simp at h
 have ob' : ∀ id, (st0 [[.nbp T 0, c']] 0).obj id ≠ none → id = 0 := by
  intro id h
  cases hx : (st0 [[.nbp T 0, c']] 0).obj id with
  | none => exact absurd hx h
  | some ps => exact (ob id ps hx).1
 refine ⟨_, g, rfl, ⟨hcell, ?_, ?_, ?_, ?_, hI.jnk_of (fun _ _ h => h) hjk (fun c m o h => (hI.jnk c m h).2.1 o) (fun id c m _ h1 h2 => by
  have := ob' id h1
  subst this
  exact ⟨by rw [st0_obj]; simp, h2⟩) (fun k c m lo hi _ hk _ _ => by rw [st0_lv] at hk; simp at hk), htys, hI.gl⟩, ⟨HMap.le_refl _, fun _ _ h => h, fun _ _ _ h => .inl h, ?_, hsize, hkeep, hos, htape, hout⟩, fun _ _ => rfl, fun i h1 h2 => absurd h1 (Nat.not_le.2 h2), .pure _ _ (.str s)⟩
 ·intro id ps h
  obtain ⟨rfl, rfl⟩ := ob id ps h
  refine ⟨b, hb, .inl ⟨_, T, fr, hbox.trans hh, hfr, by simp, fun i x hx => ?_, fun i x p hx hp => ?_⟩, hno⟩
  ·match i, hx with
   | 0, hx => simp at hx; subst hx; exact ho.1
   | 1, hx => simp at hx; subst hx; exact ho.2
   | i + 2, hx => simp at hx
  ·match i, hx, hp with
   | 0, hx, hp => simp at hx hp; subst hx; subst hp; exact hu
   | 1, hx, hp => simp at hx hp; subst hx; subst hp; exact hr
   | i + 2, hx, hp => simp at hx
 ·intro id id' b h1 h2 _ _
  rw [ob' id h1, ob' id' h2]
 ·intro k hk; rw [st0_lv] at hk; simp at hk
 ·intro k k' b lo hi lo' hi' hk; rw [st0_lv] at hk; simp at hk
 ·intro bb o _ h
  rcases h with ⟨id, h1, h2⟩ | ⟨k, lo, hi, h1, _⟩ | hjn
  ·have := ob' id h1
   subst this
   exact .inl ⟨0, by rw [st0_obj]; simp, h2⟩
  ·rw [st0_lv] at h1; simp at h1
  ·exact .inr (.inr hjn)
theorem bld_string (L : Lays.n169 P ρ) (X : Builder.Extra P ρ) (l : List UInt8) : Fsp P (ρ.f 169) [[.nbp (ρ.t 72) 0, .bsl (ρ.t 5) (bs l) 0]] 1 [.box 0 0] [[.nbp (ρ.t 72) 0, .sl 1 (bs l)]] 0 (.str l) where
 len := Nat.le_refl _
 fn := ⟨_, L.f169, by kernel_rfl, by kernel_rfl⟩
 calls := by
  intro g w vs hI hgb hgt hsz hargs
  obtain ⟨v0, rfl, hv0⟩ := one_arg hsz hargs
  obtain ⟨b, hb, rfl⟩ := hv0.box_inv
  have ho : (st0 [[.nbp (ρ.t 72) 0, .bsl (ρ.t 5) (bs l) 0]] 1).obj 0 = some [.nbp (ρ.t 72) 0, .bsl (ρ.t 5) (bs l) 0] := by rw [st0_obj]; rfl
  obtain ⟨u, v, fr, hh, hfr, hu, hr, hone, hty, hno⟩ := bld_box hI ho hb
  obtain ⟨r1, r2, r3⟩ := hr.bsl_inv
  have hu1 : u.oneCell' = true := by rcases hu with rfl | rfl <;> rfl
  have hur : Rel g u (.nbp (ρ.t 72) 0) := .nbp _ _ _ _ hb hty hu
  have hdrew : l = [] → ∀ (a : Option Addr) (cap : Nat) (q : Option Addr), v = .slice a 0 cap → (Builtin.unsafeSliceData_ #[(ρ.t 37)] (ρ.t 127) #[.slice a 0 cap]).run P w.drew = .ok (.pointer q) w.drew →
   Calls P (ρ.f 169) #[.pointer (some ⟨b, 0, none⟩)] w (fun e w' => ∃ x g', e = .returned x ∧ InvW g' (st0 [[.nbp (ρ.t 72) 0, .sl 1 (bs l)]] 0) w' ∧ ExtW g (st0 [[.nbp (ρ.t 72) 0, .bsl (ρ.t 5) (bs l) 0]] 1) w g' (st0 [[.nbp (ρ.t 72) 0, .sl 1 (bs l)]] 0) w' ∧
    (∀ i, i < [[PV.nbp (ρ.t 72) 0, .bsl (ρ.t 5) (bs l) 0]].length → g'.blk i = g.blk i) ∧ (∀ i, [[PV.nbp (ρ.t 72) 0, .bsl (ρ.t 5) (bs l) 0]].length ≤ i → i < [[PV.nbp (ρ.t 72) 0, .sl 1 (bs l)]].length → ∃ b, g'.blk i = some b ∧ w.heap.size ≤ b) ∧ Rel g' x (.str l)) := by
   rintro rfl a cap q rfl hSD
   refine (Bd.String_none L X b cap u a q w fr hh hSD).mono ?_
   rintro e w' ⟨rfl, rfl⟩
   exact bld_fin (w' := w.drew) hI hb hh hfr hur ⟨hu1, hone⟩ (.pure _ _ r1) hno (fun b o v h => hI.hw b o v h) rfl (fun b T m h => hI.tys b T m h) (Nat.le_refl _) (fun _ _ _ => rfl) (fun k _ => .refl _ _) rfl rfl rfl
  obtain ⟨a, cap, hv, hcap, hmax, _, hnone, hsome⟩ := r1.sl_view
  rw [bs_length] at hv hcap
  cases a with
  | none =>
   have hl : l = [] := by
    have := (hnone rfl).1
    cases l with
    | nil => rfl
    | cons => cases this
   obtain ⟨_, rfl⟩ := hnone rfl
   subst hl
   exact hdrew rfl none 0 none hv rfl
  | some a =>
   obtain ⟨hspot, hc0, hoff, m, hgt'⟩ := r3 a _ _ hv
   obtain ⟨gb, off, spot⟩ := a
   simp only at hspot hoff hgt'
   subst hspot
   subst hoff
   by_cases hl : l = []
   ·subst hl
    exact hdrew rfl _ cap _ hv (Lib.run_unsafeSliceData_row _ _ _ _ _ _ hc0)
   ·have hsp : spare v 1 = some (gb, l.length, cap) := by rw [hv]; simp [spare, hc0]
    have htok := r2 gb l.length cap hsp (by omega)
    obtain ⟨b', lo', hi', t1, t2⟩ := hI.toks 0 (by rw [st0_lv]; rfl)
    rw [htok] at t1; cases t1
    obtain ⟨⟨cur, T, fr3, t3, tf, t4, t5⟩, t6, t7⟩ := t2 (by omega)
    obtain ⟨vals, fr', q1, q2⟩ := hI.tys gb _ m hgt'
    rw [t3] at q1; cases q1
    have hne : gb ≠ b := fun e => t7 0 (by rw [st0_obj]; simp) (by rw [hb, e])
    rw [hv] at hh r1 hone
    have hrd := bs_read hI r1
    refine (Bd.String_full L X b gb cap u cur l w fr fr3 hl hh t3 hcap hmax t4 (fun j x hx => by
     have := hrd.2.2.2 j x hx
     rw [Addr.add_lit, Nat.zero_add]
     rw [Nat.zero_add] at this
     exact this)).mono ?_
    rintro e w' ⟨rfl, rfl⟩
    have hl0 : l.length ≠ 0 := by simpa using hl
    have hfz : ∀ k, k ≠ gb → (w.drew.freeze ⟨gb, 0, none⟩ l.length).heap[k]? = w.heap[k]? := by
     intro k hk
     have hd : w.drew.heap = w.heap := rfl
     simp [World.freeze, hl0, hd, Array.getElem?_modify, Ne.symm hk]
    have hfz2 : ∃ fr, (w.drew.freeze ⟨gb, 0, none⟩ l.length).heap[gb]? = some (.cells cur (ρ.t 5) fr) := by
     have h3 : w.drew.heap[gb]? = some (.cells cur (ρ.t 5) fr3) := t3
     simp [World.freeze, hl0, Array.getElem?_modify, h3]
    obtain ⟨fz, hfz2⟩ := hfz2
    refine bld_fin (w' := w.drew.freeze ⟨gb, 0, none⟩ l.length) hI hb hh hfr hur ⟨hu1, hone⟩ (.pure _ _ r1) hno ?_ (hfz b (Ne.symm hne)) ?_ ?_ (fun c m h => hfz c (fun e => by subst e; exact hI.jnk_tok (by rw [st0_lv]; rfl) htok (Nat.pos_of_ne_zero hc0) h)) ?_ ?_ ?_ ?_
    ·intro bb o x hx
     have := hI.hw bb o x hx
     by_cases e : bb = gb
     ·subst e
      rw [wcell_cells t3] at this
      rw [wcell_cells hfz2]
      exact this
     ·rw [wcell_of_block (hfz bb e)]
      exact this
    ·intro bb T' m' h
     obtain ⟨vs, fr', h1, h2⟩ := hI.tys bb T' m' h
     by_cases e : bb = gb
     ·subst e
      rw [t3] at h1; cases h1
      exact ⟨_, _, hfz2, h2⟩
     ·exact ⟨vs, fr', by rw [hfz bb e]; exact h1, h2⟩
    ·have hd : w.drew.heap = w.heap := rfl
     simp [World.freeze, hl0, hd]
    ·intro k hk
     by_cases e : k = gb
     ·subst e
      rw [t3, hfz2]
      exact .inr (.inl ⟨cur, cur, _, _, fz, rfl, rfl, rfl, fun _ _ => rfl, .inr ⟨cap, .inr (.inl ⟨0, l.length, cap, by rw [st0_lv]; rfl, htok, Nat.pos_of_ne_zero hc0, hcap, Nat.le_refl _⟩)⟩⟩)
     ·rw [hfz k e]; exact .refl _ _
    ·unfold World.freeze; split <;> rfl
    ·unfold World.freeze; split <;> rfl
    ·unfold World.freeze; split <;> rfl
end Go.Pv
