/- Abstract values: code within a round of a range over a function. Nothing of any program. -/
import Derived.Test.YtbjeagcnakdmnaaPvR
import Derived.TacticsIn
set_option linter.unusedSimpArgs false
set_option linter.unusedVariables false
set_option linter.unusedSectionVars false
namespace Go.Pv
variable [GTab]

theorem Oper.wp_round {P : Program} {o : Oper} {a : Act} {w : World} {next next' : Act → World → Prop} {Q : Exit → Act → World → Prop} {l n : Nat} (hd : ∀ c, o.op ≠ .defer c) (hn : ∀ a w, next a w → next' a w) (h : o.wp P a w next Q) :
    o.wpIn (Fence.wide.inRound l) n P a w next' Q := by
  refine ⟨fun _ _ => trivial, ?_⟩
  rw [show (Fence.wide.inRound l).round = some l from rfl, Oper.semAt_some l _ _ hd]
  unfold Oper.wp at h
  revert h
  generalize (execOp a.eval o).run P w = r
  intro h
  unfold Oper.upon at h
  split at h
  · exact hn _ _ h
  · exact hn _ _ h
  · exact hn _ _ h
  · refine ⟨(fun h => by cases h), ?_⟩
    refine CallsIn.inRound l (callsIn_wide.2 (h.mono fun e w' he => ?_))
    split at he
    · exact hn _ _ he
    · exact he
    · exact he
  · refine ⟨(fun h => by cases h), ?_⟩
    rename_i row args w'
    intro c cs _
    obtain ⟨v, w1, h1, h2⟩ := h c cs
    refine ⟨v, w1, hn _ _ h1, ?_⟩
    rw [fenced_inRound]
    exact stepsIn_wide.2 h2
  · exact h
  · exact h.elim

theorem wpOps_round {P : Program} {ops : Array Oper} {Q : Exit → Act → World → Prop} {l n : Nat} (hd : ∀ o ∈ ops, ∀ c, o.op ≠ .defer c) (hno : ¬ LetsOut Q) : ∀ (order : List Nat) (a : Act) (w : World), wpOps P ops Q order a w → wpOpsIn (Fence.wide.inRound l) n P ops Q order a w
  | [], a, w, h => h
  | i :: rest, a, w, h => by
    unfold wpOps at h
    unfold wpOpsIn
    cases ho : ops[i]? with
    | none => rw [ho] at h; exact wpOps_round hd hno rest a w h
    | some o =>
      rw [ho] at h
      simp only at h ⊢
      split at h
      · rename_i hw
        rw [if_pos hw]
        rcases h with h | ⟨-, h⟩
        · exact Oper.wp_round (hd o (Array.mem_of_getElem? ho)) (fun a w h => wpOps_round hd hno rest a w h) h
        · exact absurd h hno
      · rename_i hw
        rw [if_neg hw]
        exact ⟨fun _ _ => trivial, wpOps_round hd hno rest _ w h⟩

def noDefer (o : Oper) : Bool := match o.op with | .defer _ => false | _ => true
theorem noDefer_ok {o : Oper} (h : noDefer o = true) : ∀ c, o.op ≠ .defer c := by
  intro c e
  unfold noDefer at h
  rw [e] at h
  cases h
/-- Code that a round may hold: no loop, no scope. -/
def rdOk : Code → Bool
  | .skip | .exit _ | .ret => true
  | .seq x y | .cond _ x y => rdOk x && rdOk y
  | .block _ x => rdOk x
  | .region _ ops _ => ops.toList.all noDefer && !isNx ops.toList
  | _ => false

section
variable {P : Program} {m : Nat}
def PWPR (P : Program) (m : Nat) (l n : Nat) (c : Code) (Q : Post) (S : PS) : Prop :=
  ∀ (g : Gh) (a : Act) (w : World), Inv g S a.tmps w → Df w a.defers → (∀ j, S.nxt ≤ j → Fresh g j) → (∀ i, i < m → g.blk i ≠ none) → c.wpIn (Fence.wide.inRound l) n P (cpost m g S w a.defers Q) a w

theorem VC_round (hm : P.follows .mixedOrders = true) {l n : Nat} : ∀ {c : Code} {Q : Post} {S : PS}, rdOk c = true → (∀ S', ¬ Q .outgrown S') → VC P m c Q S → PWPR P m l n c Q S
  | .skip, Q, S, _, _, h => fun g a w hI hd hF _ => wpIn_skip ⟨g, S, h, hI, .refl hd, hF, ExtP.refl _ _ _ _⟩
  | .exit i, Q, S, _, _, h => fun g a w hI hd hF _ => wpIn_exit ⟨g, S, h, hI, .refl hd, hF, ExtP.refl _ _ _ _⟩
  | .ret, Q, S, _, _, h => fun g a w hI hd hF _ => wpIn_ret ⟨g, S, h, hI, .refl hd, hF, ExtP.refl _ _ _ _⟩
  | .seq x y, Q, S, hc, ho, h => by
    simp only [rdOk, Bool.and_eq_true] at hc
    intro g a w hI hd hF hp
    have hx := VC_round hm (l := l) (n := n) (c := x) (Q := seqK (VC P m y) Q) (S := S) hc.1 (fun S' h => ho S' h) h
    refine wpIn_seq (wpIn_mono (hx g a w hI hd hF hp) ?_)
    rintro e a' w' ⟨g', S', h1, h2, h3, h4, h5⟩
    cases e with
    | normal =>
      have hy := VC_round hm (l := l) (n := n) (c := y) (Q := Q) (S := S') hc.2 ho h1
      exact wpIn_mono (hy g' a' w' h2 h3.1 h4 (fun i hi => by rw [h5.pin i hi]; exact hp i hi)) (fun e a₂ w₂ x => cpost_trans h5 h3 x)
    | _ => exact ⟨g', S', h1, h2, h3, h4, h5⟩
  | .cond c x y, Q, S, hc, ho, h => by
    simp only [rdOk, Bool.and_eq_true] at hc
    obtain ⟨b, hb, ht, hf⟩ := h
    intro g a w hI hd hF hp
    have he : a.eval c = .bool b := by
      have := ev_rel (a := a) hI.w.gl hI.env c
      rw [hb] at this
      exact this.bool_inv
    cases b with
    | true => exact wpIn_cond_true he (VC_round hm (c := x) hc.1 ho (ht rfl) g a w hI hd hF hp)
    | false => exact wpIn_cond_false he (VC_round hm (c := y) hc.2 ho (hf rfl) g a w hI hd hF hp)
  | .block i x, Q, S, hc, ho, h => by
    intro g a w hI hd hF hp
    have hx := VC_round hm (l := l) (n := n) (c := x) (Q := blkK i Q) (S := S) hc (fun S' h => ho S' h) h
    refine wpIn_block (wpIn_mono (hx g a w hI hd hF hp) ?_)
    rintro e a' w' ⟨g', S', h1, h2⟩
    cases e with
    | exit j =>
      simp only [Exit.inBlock, blkK] at h1 ⊢
      split
      · rename_i e; rw [if_pos e] at h1; exact ⟨g', S', h1, h2⟩
      · rename_i e; rw [if_neg e] at h1; exact ⟨g', S', h1, h2⟩
    | _ => exact ⟨g', S', h1, h2⟩
  | .region id ops draw, Q, S, hc, ho, h => by
    simp only [rdOk, Bool.and_eq_true, Bool.not_eq_true'] at hc
    have h : regV P ops.toList draw Q S (regE P S.nxt ops.toList ops.toList 0 S (regDone draw ops S.nxt Q) []) := h
    rw [regV, hc.2] at h
    simp only at h
    have hd' : ∀ o ∈ ops, ∀ c, o.op ≠ .defer c := fun o hm' => noDefer_ok (List.all_eq_true.1 hc.1 o (by simpa using hm'))
    intro g a w hI hd hF hp
    have hlet : ¬ LetsOut (cpost m g S w a.defers Q) := by
      rintro ⟨a', w', g', S', h1, -⟩
      exact ho S' h1
    obtain ⟨L, S', hC, hK⟩ := regE_chain h
    rw [List.nil_append] at hK
    cases draw with
    | false => exact wpIn_region (wpOps_round hd' hlet _ _ _ (reg_ops hC hK g a w hI hd hF hp))
    | true =>
      refine wpIn_region_draw fun t => wpOps_round hd' hlet _ _ _ ?_
      simp only [Region.schedule, hm, Bool.true_or, if_true]
      exact wpAny_sound ops.size t _ a _ (reg_any hC hK g a w hI hd hF hp)
  | .loop _, _, _, hc, _, _ => by cases hc
  | .scope _, _, _, hc, _, _ => by cases hc
  | .label _, _, _, hc, _, _ => by cases hc
  | .goto _, _, _, hc, _, _ => by cases hc
  | .rangeFunc .., _, _, hc, _, _ => by cases hc
  | .refuse _, _, _, hc, _, _ => by cases hc
end
end Go.Pv

/- Abstract values: a range over a function. Nothing of any program. -/
set_option linter.unusedSimpArgs false
set_option linter.unusedVariables false
set_option linter.unusedSectionVars false
namespace Go.Pv
variable [GTab]

/-- The cells of a map of cells lie in a world. -/
def Holds (h : HMap) (w : World) : Prop := ∀ b o v, h b o = some v → wcell w b o = some v
open Classical in
theorem ExtP.grown {m : Nat} {g : Gh} {S : PS} {w₀ : World} {g' : Gh} {S' : PS} {w w' : World} {row : Option Nat} (hg : w.grownBy w' row) (hr : ∀ r, row = some r → w₀.heap.size ≤ r) (hdr : w.drawn ≤ w'.drawn) (hE : ExtP m g S w₀ g' S' w) : ExtP m g S w₀ g' S' w' :=
  ⟨{ le := hE.e.le, ty := hE.e.ty, new := hE.e.new, own := hE.e.own, size := Nat.le_trans hE.e.size hg.size, os := hg.os.trans hE.e.os, tape := hg.tape.trans hE.e.tape, output := OutEq.trans ⟨hg.output, hdr⟩ hE.e.output,
     keep := fun b hb => by
      rw [hg.block b (Nat.lt_of_lt_of_le hb hE.e.size) (fun e => by have := hr b e.symm; omega)]
      exact hE.e.keep b hb }, hE.pin⟩
/-- A value that stays what it is, while the first k boxes lie where they lie. -/
def keepPV (k : Nat) (p : PV) : Prop := ∀ (g g' : Gh) (v : Value), g.h.le g'.h → (∀ i, i < k → g'.blk i = g.blk i) → (∀ b T, g.ty b = some T → g'.ty b = some T) → Rel g v p → Rel g' v p
theorem keepPV.box {k i off : Nat} (h : i < k) : keepPV k (.box i off) := fun g g' v hh hb ht r => by
  have hty := fun b h => r.box_ty (b := b) h
  obtain ⟨b, h1, rfl⟩ := r.box_inv
  refine .box i off b ((hb i h).trans h1) (fun e => ?_)
  obtain ⟨T, e2⟩ := Option.ne_none_iff_exists'.1 (hty b h1)
  rw [ht b T e2] at e; cases e
theorem keepPV.slb {k i off n sz : Nat} (h : i < k) : keepPV k (.slb i off n sz) := fun g g' v hh hb ht r => by
  have hty := fun b h => r.slb_ty (b := b) h
  obtain ⟨b, cap, h1, rfl, h2, h3⟩ := r.slb_inv
  refine .slb i off n sz cap b ((hb i h).trans h1) (fun e => ?_) h2 h3
  obtain ⟨T, e2⟩ := Option.ne_none_iff_exists'.1 (hty b h1)
  rw [ht b T e2] at e; cases e
theorem keepPV.slg {k i n sz : Nat} (h : i < k) : keepPV k (.slg i n sz) := fun g g' v hh hb ht r => by
  obtain ⟨b, cap, T, m, h1, rfl, h2, h3, h4, h5⟩ := r.slg_inv
  exact .slg i n sz cap b T m ((hb i h).trans h1) (ht b _ h4) h2 h3 h5
theorem keepPV.int {k : Nat} {q : IntKind} {n : Int} : keepPV k (.int q n) := fun g g' v _ _ _ r => by rw [r.int_inv]; exact .pure _ _ (.int q n)
theorem keepPV.bool {k : Nat} {b : Bool} : keepPV k (.bool b) := fun g g' v _ _ _ r => by rw [r.bool_inv]; exact .pure _ _ (.bool b)
theorem keepPV.str {k : Nat} {s : List UInt8} : keepPV k (.str s) := fun g g' v _ _ _ r => by rw [r.str_inv]; exact .pure _ _ (.str s)
theorem keepPV.nilsl {k : Nat} : keepPV k .nilsl := fun g g' v _ _ _ r => by rw [r.nilsl_inv]; exact .pure _ _ .nilsl
theorem keepPV.any {k : Nat} : keepPV k .any := fun g g' v _ _ _ r => .pure _ _ (.any v)
theorem keepPV.sl {k sz : Nat} {es : List PV} : keepPV k (.sl sz es) := fun g g' v hh _ _ r => .pure _ _ (r.sl_inv.mono hh)

theorem ExtP.same_l {m : Nat} {g : Gh} {S T : PS} {w : World} {g' : Gh} {S' : PS} {w' : World} (ho : ∀ i, S.obj i = T.obj i) (hl : ∀ k, S.lv k = T.lv k) (h : ExtP m g S w g' S' w') : ExtP m g T w g' S' w' :=
  ⟨⟨h.e.le, h.e.ty, fun b o v e => (h.e.new b o v e).imp id (Or.imp id (Own.of_eq ho hl)), fun b o hb e => Own.of_eq ho hl (h.e.own b o hb e), h.e.size, fun b hb => (h.e.keep b hb).mono (fun o e => Own.of_eq ho hl e), h.e.os, h.e.tape, h.e.output⟩, h.pin⟩
theorem ExtP.same_r {m : Nat} {g : Gh} {S : PS} {w : World} {g' : Gh} {S' T' : PS} {w' : World} (ho : ∀ i, S'.obj i = T'.obj i) (hl : ∀ k, S'.lv k = T'.lv k) (h : ExtP m g S w g' S' w') : ExtP m g S w g' T' w' :=
  ⟨⟨h.e.le, h.e.ty, h.e.new, fun b o hb e => h.e.own b o hb (Own.of_eq (fun i => (ho i).symm) (fun k => (hl k).symm) e), h.e.size, h.e.keep, h.e.os, h.e.tape, h.e.output⟩, h.pin⟩

end Go.Pv

/- Abstract values: a region that draws its order, and what it keeps. Nothing of any program. -/
set_option linter.unusedSimpArgs false
set_option linter.unusedVariables false
set_option linter.unusedSectionVars false
namespace Go.Pv
variable [GTab]
section
variable {P : Program} {m : Nat} {Q : Post} {S : PS}
theorem reg_any2 {ops : Array Oper} {L : List Lk} {S' : PS} (hC : Chain P S.nxt ops.toList ops.toList 0 S L S')
    (h : regDone true ops S.nxt Q S' (L.map fun x => Tr.of x.δ)) (g : Gh) (a : Act) (w : World) (hI : Inv g S a.tmps w) (hd : Df w a.defers) (hF : ∀ j, S.nxt ≤ j → Fresh g j) (hp : ∀ i, i < m → g.blk i ≠ none) : wpAny P .any ops (fun e a' w' => cpost m g S w a.defers Q e a' w' ∧ a'.defers = a.defers) ops.size (Array.replicate ops.size false) a { w with drawn := w.drawn + 1 } := by
  obtain ⟨hok, hQ⟩ := h
  have hpin : ∀ {g' S₂ w₂}, Ext g S w g' S₂ w₂ → ∀ i, i < m → g'.blk i = g.blk i := by
    intro g' S₂ w₂ hE i hi
    cases hb : g.blk i with
    | none => exact absurd hb (hp i hi)
    | some b => exact hE.le.blk i b hb
  have fin : ∀ (a' : Act) g' w', Inv g' S' a'.tmps w' → Ext g S w g' S' w' → (∀ j, S.nxt + 4 * ops.toList.length ≤ j → Fresh g' j) → a'.defers = a.defers → cpost m g S w a.defers Q .normal a' w' ∧ a'.defers = a.defers := by
    intro a' g' w' hI' hE hF' hd'
    have hd2 : Df2 w a.defers w' a'.defers := by rw [hd']; exact hd.keep hI.w hE.toW
    have hs := S'.same_nxt (S.nxt + 4 * ops.toList.length)
    exact ⟨⟨g', _, hQ, ⟨InvW.same hs hI'.w, hI'.env, hI'.size⟩, hd2, hF', ⟨(Ext.same hE (fun _ => rfl) hs).toW, hpin hE⟩⟩, hd'⟩
  have hok' := hok rfl
  rw [Bool.and_eq_true] at hok'
  have hsz : ops.size = ops.toList.length := by simp
  have hwI : Inv g S a.tmps { w with drawn := w.drawn + 1 } := ⟨InvW.heap_eq (w := w) rfl hI.w, hI.env, hI.size⟩
  have hrep : ∀ i, i < ops.toList.length → (Array.replicate ops.toList.length false).getD i true = false := by
    intro i hi
    rw [Array.getD_eq_getD_getElem?, Array.getElem?_replicate, if_pos hi]; rfl
  have hwE : Ext g S w g S { w with drawn := w.drawn + 1 } := ⟨Gh.le_refl _, fun _ _ _ h => .inl h, fun _ _ _ h => h, Nat.le_refl _, fun _ _ => .refl _ _, rfl, rfl, .dr1⟩
  rw [hsz]
  refine run_any (P := P) (nid0 := S.nxt) (ops := ops) rfl hC hok'.1 hok'.2 (g₀ := g) (w₀ := w) (df := a.defers) fin ops.toList.length (Array.replicate ops.toList.length false) S g a _ (by simp) ?_ ?_ ?_ hwI rfl ?_ ?_ hwE rfl
  · intro l
    refine .inr ⟨fun i hi he => ?_, ?_⟩
    · have := he.2; rw [hrep i hi] at this; cases this
    · show S.at' l = (stAt S' L 0).at' l; rw [hC.link.1]
  · intro i j hij hj hl
    rw [hrep j hj] at hl; cases hl
  · exact Nat.le_trans List.countP_le_length (by simp)
  · intro i hi _ j h1 _; exact hF j (by omega)
  · intro j hj; exact hF j (by omega)


theorem Oper.wp_next {P : Program} {o : Oper} {a : Act} {w : World} {next next' : Act → World → Prop} {Q Q' : Exit → Act → World → Prop} (hn : ∀ (ds : List Deferred) (v : Value) (w : World), next ({ a with defers := ds }.put o.dst v) w → next' ({ a with defers := ds }.put o.dst v) w)
    (hp : ∀ ch w, Q (.panic ch) a w → Q' (.panic ch) a w) (ho : LetsOut Q → LetsOut Q') (h : o.wp P a w next Q) : o.wp P a w next' Q' := by
  unfold Oper.wp at h ⊢
  revert h
  generalize (execOp a.eval o).run P w = r
  intro h
  unfold Oper.upon at h ⊢
  split at h
  · exact hn a.defers _ _ h
  · exact hn a.defers _ _ h
  · exact hn _ _ _ h
  · refine h.mono fun e w' he => ?_
    split at he
    · exact hn a.defers _ _ he
    · exact hp _ _ he
    · exact ho he
  · exact fun c cs => let ⟨v, w1, h1, h2⟩ := h c cs; ⟨v, w1, hn a.defers _ _ h1, h2⟩
  · exact hp _ _ h
  · exact h.elim
end
end Go.Pv
