/- Abstract values: a region that draws its order, and what it keeps. Nothing of any program. -/
import Derived.Test.YtoemcdgebkkcoaaGreatDoorPvRf
set_option linter.unusedSimpArgs false
set_option linter.unusedVariables false
set_option linter.unusedSectionVars false
namespace Go.Pv
variable [GTab]
section
variable {P : Program} {m : Nat} {Q : Post} {S : PS}
theorem reg_any2 {ops : Array Oper} {L : List Lk} {S' : PS} (hC : Chain P S.nxt ops.toList ops.toList 0 S L S')
    (h : regDone true ops S.nxt Q S' (L.map fun x => Tr.of x.δ)) (g : Gh) (a : Act) (w : World) (hI : Inv g S a.tmps w) (hd : Df w a.defers) (hF : ∀ j, S.nxt ≤ j → Fresh g j) (hp : ∀ i, i < m → g.blk i ≠ none) : wpAny P .any ops (fun e a' w' => cpost m g S w a.defers Q e a' w' ∧ a'.defers = a.defers) ops.size (Array.replicate ops.size false) a { w with drawn := w.drawn + 1 } := by
  obtain ⟨hok, hQ⟩ := h
  have hpin : ∀ {g' S₂ w₂}, Ext g S w g' S₂ w₂ → ∀ i, i < m → g'.blk i = g.blk i := by
    intro g' S₂ w₂ hE i hi
    cases hb : g.blk i with
    | none => exact absurd hb (hp i hi)
    | some b => exact hE.le.blk i b hb
  have fin : ∀ (a' : Act) g' w', Inv g' S' a'.tmps w' → Ext g S w g' S' w' → (∀ j, S.nxt + 4 * ops.toList.length ≤ j → Fresh g' j) → a'.defers = a.defers → cpost m g S w a.defers Q .normal a' w' ∧ a'.defers = a.defers := by
    intro a' g' w' hI' hE hF' hd'
    have hd2 : Df2 w a.defers w' a'.defers := by rw [hd']; exact hd.keep hI.w hE.toW
    have hs := S'.same_nxt (S.nxt + 4 * ops.toList.length)
    exact ⟨⟨g', _, hQ, ⟨InvW.same hs hI'.w, hI'.env, hI'.size⟩, hd2, hF', ⟨(Ext.same hE (fun _ => rfl) hs).toW, hpin hE⟩⟩, hd'⟩
  have hok' := hok rfl
  rw [Bool.and_eq_true] at hok'
  have hsz : ops.size = ops.toList.length := by simp
  have hwI : Inv g S a.tmps { w with drawn := w.drawn + 1 } := ⟨InvW.heap_eq (w := w) rfl hI.w, hI.env, hI.size⟩
  have hrep : ∀ i, i < ops.toList.length → (Array.replicate ops.toList.length false).getD i true = false := by
    intro i hi
    rw [Array.getD_eq_getD_getElem?, Array.getElem?_replicate, if_pos hi]; rfl
  have hwE : Ext g S w g S { w with drawn := w.drawn + 1 } := ⟨Gh.le_refl _, fun _ _ _ h => .inl h, fun _ _ _ h => h, Nat.le_refl _, fun _ _ => .refl _ _, rfl, rfl, rfl⟩
  rw [hsz]
  refine run_any (P := P) (nid0 := S.nxt) (ops := ops) rfl hC hok'.1 hok'.2 (g₀ := g) (w₀ := w) (df := a.defers) fin ops.toList.length (Array.replicate ops.toList.length false) S g a _ (by simp) ?_ ?_ ?_ hwI rfl ?_ ?_ hwE rfl
  · intro l
    refine .inr ⟨fun i hi he => ?_, ?_⟩
    · have := he.2; rw [hrep i hi] at this; cases this
    · show S.at' l = (stAt S' L 0).at' l; rw [hC.link.1]
  · intro i j hij hj hl
    rw [hrep j hj] at hl; cases hl
  · exact Nat.le_trans List.countP_le_length (by simp)
  · intro i hi _ j h1 _; exact hF j (by omega)
  · intro j hj; exact hF j (by omega)


theorem Oper.wp_next {P : Program} {o : Oper} {a : Act} {w : World} {next next' : Act → World → Prop} {Q Q' : Exit → Act → World → Prop} (hn : ∀ (ds : List Deferred) (v : Value) (w : World), next ({ a with defers := ds }.put o.dst v) w → next' ({ a with defers := ds }.put o.dst v) w)
    (hp : ∀ ch w, Q (.panic ch) a w → Q' (.panic ch) a w) (ho : LetsOut Q → LetsOut Q') (h : o.wp P a w next Q) : o.wp P a w next' Q' := by
  unfold Oper.wp at h ⊢
  revert h
  generalize (execOp a.eval o).run P w = r
  intro h
  unfold Oper.upon at h ⊢
  split at h
  · exact hn a.defers _ _ h
  · exact hn a.defers _ _ h
  · exact hn _ _ _ h
  · refine h.mono fun e w' he => ?_
    split at he
    · exact hn a.defers _ _ he
    · exact hp _ _ he
    · exact ho he
  · exact fun c cs => let ⟨v, w1, h1, h2⟩ := h c cs; ⟨v, w1, hn a.defers _ _ h1, h2⟩
  · exact hp _ _ h
  · exact h.elim
/-- What no operation of a region writes stays. -/
def Kept (T : List Nat) (t t' : Array Value) : Prop := t'.size = t.size ∧ ∀ i ∈ T, t'.getD i undef = t.getD i undef
theorem Kept.put {T : List Nat} {t : Array Value} {a : Act} (h : Kept T t a.tmps) {o : Option Tmp} (ho : ∀ i ∈ T, o ≠ some i) (ds : List Deferred) (v : Value) : Kept T t ({ a with defers := ds }.put o v).tmps := by
  cases o with
  | none => exact h
  | some d =>
    refine ⟨by simp [Act.put]; exact h.1, fun i hi => ?_⟩
    rw [← h.2 i hi]
    have hne : d ≠ i := fun e => ho i hi (by rw [e])
    simp [Act.put, Array.getElem?_setIfInBounds_ne hne]
end
end Go.Pv
