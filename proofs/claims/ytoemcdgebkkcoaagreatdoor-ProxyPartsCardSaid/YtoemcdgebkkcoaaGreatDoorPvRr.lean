/- Abstract values: code within a round of a range over a function. Nothing of any program. -/
import Derived.Test.YtoemcdgebkkcoaaGreatDoorPvR
import Derived.TacticsIn
set_option linter.unusedSimpArgs false
set_option linter.unusedVariables false
set_option linter.unusedSectionVars false
namespace Go.Pv
variable [GTab]

theorem Oper.wp_round {P : Program} {o : Oper} {a : Act} {w : World} {next next' : Act → World → Prop} {Q : Exit → Act → World → Prop} {l n : Nat} (hd : ∀ c, o.op ≠ .defer c) (hn : ∀ a w, next a w → next' a w) (h : o.wp P a w next Q) :
    o.wpIn (Fence.wide.inRound l) n P a w next' Q := by
  refine ⟨fun _ _ => trivial, ?_⟩
  rw [show (Fence.wide.inRound l).round = some l from rfl, Oper.semAt_some l _ _ hd]
  unfold Oper.wp at h
  revert h
  generalize (execOp a.eval o).run P w = r
  intro h
  unfold Oper.upon at h
  split at h
  · exact hn _ _ h
  · exact hn _ _ h
  · exact hn _ _ h
  · refine ⟨(fun h => by cases h), ?_⟩
    refine CallsIn.inRound l (callsIn_wide.2 (h.mono fun e w' he => ?_))
    split at he
    · exact hn _ _ he
    · exact he
    · exact he
  · refine ⟨(fun h => by cases h), ?_⟩
    rename_i row args w'
    intro c cs _
    obtain ⟨v, w1, h1, h2⟩ := h c cs
    refine ⟨v, w1, hn _ _ h1, ?_⟩
    rw [fenced_inRound]
    exact stepsIn_wide.2 h2
  · exact h
  · exact h.elim

theorem wpOps_round {P : Program} {ops : Array Oper} {Q : Exit → Act → World → Prop} {l n : Nat} (hd : ∀ o ∈ ops, ∀ c, o.op ≠ .defer c) (hno : ¬ LetsOut Q) : ∀ (order : List Nat) (a : Act) (w : World), wpOps P ops Q order a w → wpOpsIn (Fence.wide.inRound l) n P ops Q order a w
  | [], a, w, h => h
  | i :: rest, a, w, h => by
    unfold wpOps at h
    unfold wpOpsIn
    cases ho : ops[i]? with
    | none => rw [ho] at h; exact wpOps_round hd hno rest a w h
    | some o =>
      rw [ho] at h
      simp only at h ⊢
      split at h
      · rename_i hw
        rw [if_pos hw]
        rcases h with h | ⟨-, h⟩
        · exact Oper.wp_round (hd o (Array.mem_of_getElem? ho)) (fun a w h => wpOps_round hd hno rest a w h) h
        · exact absurd h hno
      · rename_i hw
        rw [if_neg hw]
        exact ⟨fun _ _ => trivial, wpOps_round hd hno rest _ w h⟩

def noDefer (o : Oper) : Bool := match o.op with | .defer _ => false | _ => true
theorem noDefer_ok {o : Oper} (h : noDefer o = true) : ∀ c, o.op ≠ .defer c := by
  intro c e
  unfold noDefer at h
  rw [e] at h
  cases h
/-- Code that a round may hold: no loop, no scope. -/
def rdOk : Code → Bool
  | .skip | .exit _ | .ret => true
  | .seq x y | .cond _ x y => rdOk x && rdOk y
  | .block _ x => rdOk x
  | .region _ ops _ => ops.toList.all noDefer && !isNx ops.toList
  | _ => false

section
variable {P : Program} {m : Nat}
def PWPR (P : Program) (m : Nat) (l n : Nat) (c : Code) (Q : Post) (S : PS) : Prop :=
  ∀ (g : Gh) (a : Act) (w : World), Inv g S a.tmps w → Df w a.defers → (∀ j, S.nxt ≤ j → Fresh g j) → (∀ i, i < m → g.blk i ≠ none) → c.wpIn (Fence.wide.inRound l) n P (cpost m g S w a.defers Q) a w

theorem VC_round (hm : P.follows .mixedOrders = true) {l n : Nat} : ∀ {c : Code} {Q : Post} {S : PS}, rdOk c = true → (∀ S', ¬ Q .outgrown S') → VC P m c Q S → PWPR P m l n c Q S
  | .skip, Q, S, _, _, h => fun g a w hI hd hF _ => wpIn_skip ⟨g, S, h, hI, .refl hd, hF, ExtP.refl _ _ _ _⟩
  | .exit i, Q, S, _, _, h => fun g a w hI hd hF _ => wpIn_exit ⟨g, S, h, hI, .refl hd, hF, ExtP.refl _ _ _ _⟩
  | .ret, Q, S, _, _, h => fun g a w hI hd hF _ => wpIn_ret ⟨g, S, h, hI, .refl hd, hF, ExtP.refl _ _ _ _⟩
  | .seq x y, Q, S, hc, ho, h => by
    simp only [rdOk, Bool.and_eq_true] at hc
    intro g a w hI hd hF hp
    have hx := VC_round hm (l := l) (n := n) (c := x) (Q := seqK (VC P m y) Q) (S := S) hc.1 (fun S' h => ho S' h) h
    refine wpIn_seq (wpIn_mono (hx g a w hI hd hF hp) ?_)
    rintro e a' w' ⟨g', S', h1, h2, h3, h4, h5⟩
    cases e with
    | normal =>
      have hy := VC_round hm (l := l) (n := n) (c := y) (Q := Q) (S := S') hc.2 ho h1
      exact wpIn_mono (hy g' a' w' h2 h3.1 h4 (fun i hi => by rw [h5.pin i hi]; exact hp i hi)) (fun e a₂ w₂ x => cpost_trans h5 h3 x)
    | _ => exact ⟨g', S', h1, h2, h3, h4, h5⟩
  | .cond c x y, Q, S, hc, ho, h => by
    simp only [rdOk, Bool.and_eq_true] at hc
    obtain ⟨b, hb, ht, hf⟩ := h
    intro g a w hI hd hF hp
    have he : a.eval c = .bool b := by
      have := ev_rel (a := a) hI.w.gl hI.env c
      rw [hb] at this
      exact this.bool_inv
    cases b with
    | true => exact wpIn_cond_true he (VC_round hm (c := x) hc.1 ho (ht rfl) g a w hI hd hF hp)
    | false => exact wpIn_cond_false he (VC_round hm (c := y) hc.2 ho (hf rfl) g a w hI hd hF hp)
  | .block i x, Q, S, hc, ho, h => by
    intro g a w hI hd hF hp
    have hx := VC_round hm (l := l) (n := n) (c := x) (Q := blkK i Q) (S := S) hc (fun S' h => ho S' h) h
    refine wpIn_block (wpIn_mono (hx g a w hI hd hF hp) ?_)
    rintro e a' w' ⟨g', S', h1, h2⟩
    cases e with
    | exit j =>
      simp only [Exit.inBlock, blkK] at h1 ⊢
      split
      · rename_i e; rw [if_pos e] at h1; exact ⟨g', S', h1, h2⟩
      · rename_i e; rw [if_neg e] at h1; exact ⟨g', S', h1, h2⟩
    | _ => exact ⟨g', S', h1, h2⟩
  | .region id ops draw, Q, S, hc, ho, h => by
    simp only [rdOk, Bool.and_eq_true, Bool.not_eq_true'] at hc
    have h : regV P ops.toList draw Q S (regE P S.nxt ops.toList ops.toList 0 S (regDone draw ops S.nxt Q) []) := h
    rw [regV, hc.2] at h
    simp only at h
    have hd' : ∀ o ∈ ops, ∀ c, o.op ≠ .defer c := fun o hm' => noDefer_ok (List.all_eq_true.1 hc.1 o (by simpa using hm'))
    intro g a w hI hd hF hp
    have hlet : ¬ LetsOut (cpost m g S w a.defers Q) := by
      rintro ⟨a', w', g', S', h1, -⟩
      exact ho S' h1
    obtain ⟨L, S', hC, hK⟩ := regE_chain h
    rw [List.nil_append] at hK
    cases draw with
    | false => exact wpIn_region (wpOps_round hd' hlet _ _ _ (reg_ops hC hK g a w hI hd hF hp))
    | true =>
      refine wpIn_region_draw fun t => wpOps_round hd' hlet _ _ _ ?_
      simp only [Region.schedule, hm, Bool.true_or, if_true]
      exact wpAny_sound ops.size t _ a _ (reg_any hC hK g a w hI hd hF hp)
  | .loop _, _, _, hc, _, _ => by cases hc
  | .scope _, _, _, hc, _, _ => by cases hc
  | .label _, _, _, hc, _, _ => by cases hc
  | .goto _, _, _, hc, _, _ => by cases hc
  | .rangeFunc .., _, _, hc, _, _ => by cases hc
  | .refuse _, _, _, hc, _, _ => by cases hc
end
end Go.Pv
