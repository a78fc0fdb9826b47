/- Abstract values: contracts of the kit's as ours. Nothing of any program. -/
import Derived.Test.YtoemcdgebkkcoaaGreatDoorPvU
set_option linter.unusedSimpArgs false
set_option linter.unusedVariables false
set_option linter.unusedSectionVars false
namespace Go.Pv
open Go.RowKit (Below)
variable [GTab]
theorem Fsp.of_below {P : Program} {f : FuncId} {args : List PV} {r : PV} (hfn : ∃ fn, P.funcs[f]? = some fn ∧ fn.body.isSome = true ∧ (fn.name == "runtime.NumGoroutine") = false)
 (h : ∀ (g : Gh) (w : World) (vs : Array Value), InvW g (st0 [] 0) w → vs.size = args.length → (∀ (i : Nat) (v : Value) (p : PV), vs[i]? = some v → args[i]? = some p → Rel g v p) →
   Calls P f vs w (fun e w' => ∃ v, e = .returned v ∧ PRel g.h v r ∧ Below w.heap.size w w')) : Fsp P f [] 0 args [] 0 r where
 len := Nat.le_refl _
 fn := hfn
 calls := by
  intro g w vs hI hgb hgt hsz hargs
  refine (h g w vs hI hsz hargs).mono ?_
  rintro e w' ⟨v, rfl, hv, hb⟩
  refine ⟨v, g, rfl, ⟨?_, ?_, ?_, ?_, ?_, hI.jnk_of (fun _ _ h => h) (fun b m h => hb.block b (hI.jnk_lt h)) (fun c m o h => (hI.jnk c m h).2.1 o) (fun _ _ _ _ h1 h2 => ⟨h1, h2⟩) (fun _ _ _ _ _ _ h1 h2 _ => ⟨h1, h2⟩), fun b T m h => by obtain ⟨vs, fr, h1, h2⟩ := hI.tys b T m h; exact ⟨vs, fr, by rw [hb.block b (lt_of_heap h1)]; exact h1, h2⟩, hI.gl⟩, ⟨HMap.le_refl _, fun _ _ h => h, fun _ _ _ h => .inl h, fun _ _ _ h => h, hb.size, fun b hlt => .inl (hb.block b hlt), hb.os, hb.tape, hb.output⟩, fun _ _ => rfl, fun i h1 h2 => absurd h2 (Nat.not_lt_zero i), .pure _ _ hv⟩
  ·intro b o v h
   rw [wcell_of_block (hb.block b (hI.h_lt h))]
   exact hI.hw b o v h
  ·intro id ps h; rw [st0_obj] at h; simp at h
  ·intro id id' b h1; rw [st0_obj] at h1; simp at h1
  ·intro k h; rw [st0_lv] at h; simp at h
  ·intro k k' b lo hi lo' hi' h; rw [st0_lv] at h; simp at h
theorem Fsp.same_str {P : Program} {f : FuncId} (hfn : ∃ fn, P.funcs[f]? = some fn ∧ fn.body.isSome = true ∧ (fn.name == "runtime.NumGoroutine") = false)
 (h : ∀ (s : ByteArray) (w : World), s.size ≤ 281474976710656 → Calls P f #[.string s] w (fun e w' => e = .returned (.string s) ∧ Below w.heap.size w w')) {s : List UInt8} (hs : s.length ≤ 281474976710656) :
 Fsp P f [] 0 [.str s] [] 0 (.str s) :=
 Fsp.of_below hfn fun g w vs _ hsz hargs => by
  have hlt : 0 < vs.size := by rw [hsz]; exact Nat.one_pos
  have hv : vs[0]? = some vs[0] := by simp [hlt]
  have h0 := (hargs 0 _ _ hv rfl).str_inv
  have : vs = #[.string ⟨⟨s⟩⟩] := by
   apply Array.ext
   ·exact hsz
   ·intro i h1 h2
    have : i = 0 := by simp at h2; omega
    subst this; exact h0
  rw [this]
  refine (h ⟨⟨s⟩⟩ w (by rw [size_mk]; exact hs)).mono ?_
  rintro e w' ⟨rfl, hb⟩
  exact ⟨_, rfl, .str s, hb⟩
def strCl (k : Nat) : Cl := fun f bs nt args =>
 match Nat.beq f k, bs, nt, args with
 | true, [], 0, [.str s] => match Nat.ble s.length 281474976710656 with | true => some ([], 0, .str s) | false => none
 | _, _, _, _ => none
theorem strCl_ok {P : Program} {k : Nat} (hfn : ∃ fn, P.funcs[k]? = some fn ∧ fn.body.isSome = true ∧ (fn.name == "runtime.NumGoroutine") = false)
 (h : ∀ (s : ByteArray) (w : World), s.size ≤ 281474976710656 → Calls P k #[.string s] w (fun e w' => e = .returned (.string s) ∧ Below w.heap.size w w')) : (strCl k).Ok P := by
 intro f bs nt args bs' nt' r e
 unfold strCl at e
 split at e
 ·rename_i s hk
  split at e
  ·rename_i hl
   cases e
   rw [Nat.beq_eq] at hk
   subst hk
   exact Fsp.same_str hfn h (by simpa using hl)
  ·cases e
 ·cases e
end Go.Pv
