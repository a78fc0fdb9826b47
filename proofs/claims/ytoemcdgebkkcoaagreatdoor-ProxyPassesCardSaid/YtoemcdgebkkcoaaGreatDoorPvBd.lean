/- Abstract values: a strings.Builder's first check, and its text. Nothing of any program. -/
import Derived.Test.YtoemcdgebkkcoaaGreatDoorPvZ
import Derived.Shelf.Strings.Builder1
set_option linter.unusedSimpArgs false
set_option linter.unusedVariables false
set_option linter.unusedSectionVars false
namespace Go.Pv
open Go.Proofs Go.Shelf Go.RowKit
variable [GTab] {P : Program} {ρ : Ren}
theorem bld_box {g : Gh} {S : PS} {w : World} (hI : InvW g S w) {id b : Nat} {T : TypeId} {c : PV} (ho : S.obj id = some [.nbp T id, c]) (hb : g.blk id = some b) :
 ∃ (u v : Value) (fr : Nat × Nat), w.heap[b]? = some (.cells #[u, v] T fr) ∧ FrOk fr 2 ∧ (u = .pointer none ∨ u = .pointer (some ⟨b, 0, none⟩)) ∧ Rel g v c ∧ v.oneCell' = true ∧ g.ty b = some (T, 2) ∧ ∀ o, g.h b o = none := by
 have hrow : IsRow g w.heap[b]? [.nbp T id, c] ∧ ∀ o, g.h b o = none := by
  obtain ⟨b', h1, h2, h3⟩ := hI.objs id _ ho
  rw [hb] at h1; cases h1
  rcases h2 with h2 | ⟨_, _, _, h, _⟩ | ⟨cur, es, p0, p1, h, e1, e2, _⟩
  ·exact ⟨h2, h3⟩
  ·rcases h with h | h <;> cases h
  ·cases h; rcases e1 with h | h <;> cases h
 obtain ⟨⟨vals, T', fr, h2, hf, h3, h4, h5⟩, h6⟩ := hrow
 have hn : 2 ≤ vals.size := by simpa using h3
 have e0 : vals[0]? = some (vals[0]'(by omega)) := by simp
 obtain ⟨b2, k1, k2, k3⟩ := (h5 0 _ _ e0 rfl).nbp_inv
 rw [hb] at k1; cases k1
 obtain ⟨vals', fr', q1, q2⟩ := hI.tys b T 2 k2
 rw [h2] at q1; cases q1
 have e1 : vals[1]? = some (vals[1]'(by omega)) := by simp
 have ev : vals = #[vals[0]'(by omega), vals[1]'(by omega)] := by
  apply Array.ext
  ·simpa using q2
  ·intro i h1 h2
   match i with
   | 0 => rfl
   | 1 => rfl
   | i + 2 => simp at h2; omega
 exact ⟨vals[0]'(by omega), vals[1]'(by omega), fr, by rw [← ev]; exact h2, by rw [← q2]; exact hf, k3, h5 1 _ _ e1 rfl, h4 1 _ e1, k2, h6⟩
theorem one_arg {g : Gh} {vs : Array Value} {p : PV} (hsz : vs.size = 1) (ha : ∀ (i : Nat) (v : Value) (q : PV), vs[i]? = some v → [p][i]? = some q → Rel g v q) : ∃ v, vs = #[v] ∧ Rel g v p := by
 have hlt : 0 < vs.size := by omega
 have hv : vs[0]? = some vs[0] := by simp [hlt]
 refine ⟨vs[0], ?_, ha 0 _ _ hv rfl⟩
 apply Array.ext
 ·simpa using hsz
 ·intro i h1 h2
  have : i = 0 := by simp at h2; omega
  subst this; rfl
theorem bld_check {f : FuncId} {T : TypeId} (hfn : ∃ fn, P.funcs[f]? = some fn ∧ fn.body.isSome = true ∧ (fn.name == "runtime.NumGoroutine") = false)
 (hfresh : ∀ (b : Nat) (w : World), w.cell? ⟨b, 0, none⟩ = some (.pointer none) → w.shape? b = some (T, 2) → w.frozen? ⟨b, 0, none⟩ = false →
   Calls P f #[.pointer (some ⟨b, 0, none⟩)] w fun e w' => e = .returned (.tuple #[]) ∧ w' = w.setCell ⟨b, 0, none⟩ (.pointer (some ⟨b, 0, none⟩)))
 (hused : ∀ (b : Nat) (w : World), w.cell? ⟨b, 0, none⟩ = some (.pointer (some ⟨b, 0, none⟩)) → Calls P f #[.pointer (some ⟨b, 0, none⟩)] w fun e w' => e = .returned (.tuple #[]) ∧ w' = w)
 {c : PV} {nt : Nat} : Fsp P f [[.nbp T 0, c]] nt [.box 0 0] [[.nbp T 0, c]] nt (.tup []) where
 len := Nat.le_refl _
 fn := hfn
 calls := by
  intro g w vs hI hgb hgt hsz hargs
  obtain ⟨v0, rfl, hv0⟩ := one_arg hsz hargs
  obtain ⟨b, hb, rfl⟩ := hv0.box_inv
  have ho : (st0 [[.nbp T 0, c]] nt).obj 0 = some [.nbp T 0, c] := by rw [st0_obj]; rfl
  obtain ⟨u, v, fr, hh, hfr, hu, hr, hone, hty, hno⟩ := bld_box hI ho hb
  rcases hu with rfl | rfl
  ·refine (hfresh b w (by rw [Lib.cell_of_heap hh]; rfl) (by simp [World.shape?, hh]) (FrOk.frozen hh hfr (by simp))).mono ?_
   rintro e w' ⟨rfl, rfl⟩
   have hrow : Rowed w (w.setCell ⟨b, 0, none⟩ (.pointer (some ⟨b, 0, none⟩))) b #[.pointer none, v] #[.pointer (some ⟨b, 0, none⟩), v] T fr :=
    by rw [setCell_eq_setRow w b 0 _ _ fr _ hh]; exact Rowed.setRow w hh
   obtain ⟨k1, k2⟩ := storeBox hI ho hb hrow hfr (ps' := [.nbp T 0, c]) (by simp) rfl (fun i x hx => by
    match i, hx with
    | 0, hx => simp at hx; subst hx; rfl
    | 1, hx => simp at hx; subst hx; exact hone
    | i + 2, hx => simp at hx) (fun i x p hx hp => by
    match i, hx, hp with
    | 0, hx, hp => simp at hx hp; subst hx; subst hp; exact .nbp _ _ _ _ hb hty (.inr rfl)
    | 1, hx, hp => simp at hx hp; subst hx; subst hp; exact hr
    | i + 2, hx, hp => simp at hx) (δ := { p := .any, wr := [(0, some [.nbp T 0, c])], ok := True }) rfl rfl
   have e1 : ∀ i, ((st0 [[.nbp T 0, c]] nt).app { p := .any, wr := [(0, some [.nbp T 0, c])], ok := True }).obj i = (st0 [[.nbp T 0, c]] nt).obj i := by
    intro i
    show lkp none ((0, some [.nbp T 0, c]) :: (st0 [[.nbp T 0, c]] nt).objs) i = _
    rw [lkp_cons]
    split
    ·rename_i e; subst e; rw [ho]
    ·rfl
   have e2 : ∀ k, ((st0 [[.nbp T 0, c]] nt).app { p := .any, wr := [(0, some [.nbp T 0, c])], ok := True }).lv k = (st0 [[.nbp T 0, c]] nt).lv k := fun k => rfl
   refine ⟨_, g, rfl, k1.of_eq e1 e2, ⟨k2.le.h, k2.le.ty, k2.new, fun bb o hb' h => k2.own bb o hb' (Own.of_eq (fun i => (e1 i).symm) (fun k => (e2 k).symm) h), k2.size, k2.keep, k2.os, k2.tape, k2.output⟩, fun _ _ => rfl,
    fun i h1 h2 => absurd h1 (Nat.not_le.2 h2), .tup _ _ rfl (fun i v p hv => by simp at hv)⟩
  ·refine (hused b w (by rw [Lib.cell_of_heap hh]; rfl)).mono ?_
   rintro e w' ⟨rfl, rfl⟩
   exact ⟨_, g, rfl, hI, ExtW.refl _ _ _, fun _ _ => rfl, fun i h1 h2 => absurd h1 (Nat.not_le.2 h2), .tup _ _ rfl (fun i v p hv => by simp at hv)⟩
end Go.Pv
