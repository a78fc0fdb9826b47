/- Abstract values: from a contract of ours to a row of the statements. Nothing of any program. -/
import Derived.Test.YtbjeagcnakdmnaaPvV
import Derived.ProofKit
set_option linter.unusedSimpArgs false
set_option linter.unusedVariables false
set_option linter.unusedSectionVars false
namespace Go.Pv
open Go.RowKit Go.ChangeShapes
variable [GTab]

/-- All cells of a world. -/
def allH (w : World) : HMap := { c := fun b o => one? (w.cell? ⟨b, o, none⟩), j := fun _ => none }
theorem allH_wcell {w : World} {b o : Nat} {v : Value} (h : allH w b o = some v) : wcell w b o = some v := by
  have h' := one?_of h
  have h1 := h'.1
  unfold World.cell? at h1
  split at h1
  · rename_i c T fr e
    rw [wcell_cells e]
    exact one?_some h1 h'.2
  · cases h1

/-- What a law's function returns, and that of what was there nothing has turned. -/
theorem Fsp.law {P : Program} {f : FuncId} {args : List PV} (hS : Fsp P f [] 0 args [] 0 (.bool true)) {w : World} (hgl : ∀ k ps, gat GTab.tab k = some ps → PRel (allH w) (.pointer (some ⟨k, 0, none⟩)) (.loc ps)) {vs : Array Value} (hsz : vs.size = args.length)
    (hargs : ∀ (i : Nat) (v : Value) (p : PV), vs[i]? = some v → args[i]? = some p → PRel (allH w) v p) :
    Calls P f vs w (fun e w' => e = .returned (.bool true) ∧ Below w.heap.size w w') := by
  let g : Gh := { h := allH w, blk := fun _ => none, tok := fun _ => none, ty := fun _ => none }
  have hI : InvW g (st0 [] 0) w := by
    refine ⟨fun b o v h => allH_wcell h, ?_, ?_, ?_, ?_, fun b m h => (by cases h), fun b T m h => (by cases h), hgl⟩
    · intro id ps h; rw [st0_obj] at h; simp at h
    · intro id id' b h1; rw [st0_obj] at h1; simp at h1
    · intro k h; rw [st0_lv] at h; simp at h
    · intro k k' b lo hi lo' hi' h; rw [st0_lv] at h; simp at h
  have hno : ∀ b o, ¬ Own g (st0 [] 0) b o := by
    intro b o h
    rcases h with ⟨id, h1, _⟩ | ⟨k, _, _, h1, _⟩ | hj
    · rw [st0_obj] at h1; simp at h1
    · rw [st0_lv] at h1; simp at h1
    · exact hj rfl
  refine (hS.calls g w vs hI (fun _ _ => rfl) (fun _ _ => rfl) hsz (fun i v p hv hp => .pure _ _ (hargs i v p hv hp))).mono ?_
  rintro e w' ⟨v, g', rfl, _, hE, _, _, hr⟩
  exact ⟨by rw [hr.bool_inv], hE.os, hE.tape, hE.output.eq, hE.size, fun k hk => (hE.keep k hk).eq (hno k)⟩

section
variable {H : Type} {enc : TypeId × Value → H} {P : Program}

/-- The arguments read as they did. -/
theorem trodAll_below (hl : laidOutB P = true) {W W' : World} (hb : Below W.heap.size W W') : ∀ {ts : List TypeId} {vs : List Value} {ds : List (DataW H)} {ps : List MemPlace},
    (ts.all fun t => P.readableRec t && Nat.blt t P.types.size) = true → DataW.TrodAll enc P W 0 (fun _ => true) true ts vs ds ps → (∀ x ∈ ps, x.block < W.heap.size) →
    DataW.TrodAll enc P W' 0 (fun b => decide (b < W.heap.size)) true ts vs ds ps
  | [], vs, ds, ps, _, h, _ => by
    obtain ⟨rfl, rfl, rfl⟩ := trodAll_nil h
    exact rfl
  | t :: ts, vs, ds, ps, hr, h, hlt => by
    obtain ⟨v, vs1, d, ds1, a, b, rfl, rfl, rfl, h1, h2⟩ := trodAll_cons h
    simp only [List.all_cons, Bool.and_eq_true, Nat.blt_eq] at hr
    exact ⟨a, b, Below.trod hl hr.1.1 hr.1.2 h1 hb (fun x hx => hlt x (List.mem_append_left _ hx)), trodAll_below hl hb hr.2 h2 (fun x hx => hlt x (List.mem_append_right _ hx)), rfl⟩

/-- 'It returned true; the arguments read as they did', shut. -/
theorem post_true {f : Func} {s : ChangeSpec} {apart : Bool} {W W' : World} {args : Array Value} {ds gs : List (DataW H)} {before : List MemPlace} {t : TypeId}
    (hW : DataW.Whole enc P f.params.toList s.vars apart W args.toList ds gs before) (hvs : s.vars = []) (hrt : f.resultTypes = #[t]) (ht : P.underlying t = some .bool)
    (hs : (s.fn H ds).results = [.lit (.bool true)]) (ha : (s.fn H ds).args = ds) (hv : (s.fn H ds).vars = [])
    (hl : laidOutB P = true) (hr : (f.params.toList.all fun t => P.readableRec t && Nat.blt t P.types.size) = true) (hb : Below W.heap.size W W') :
    s.post enc P f apart true false false W args (.bool true) W' := by
  have hlt := fun x hx => hW.lt x hx
  have hW0 := hW
  obtain ⟨p, q, hA, hV, rfl, hz, hn⟩ := hW
  rw [hvs] at hV
  have hg : gs = [] ∧ q = [] := by
    cases gs with
    | nil => exact ⟨rfl, hV⟩
    | cons _ _ => exact hV.elim
  obtain ⟨rfl, rfl⟩ := hg
  refine ⟨ds, [], _, [], p, [], hW0, ?_, ?_, ?_, hb.frame _, fun h => by cases h⟩
  · rw [List.append_nil, hs, hrt]
    exact ⟨[], [], shut_bool ht true, rfl, rfl⟩
  · rw [List.append_nil, ha]
    exact trodAll_below hl hb hr hA (fun x hx => by simpa using hlt x (List.mem_append_left _ hx))
  · rw [List.append_nil, hv, hvs]; rfl
end

end Go.Pv
