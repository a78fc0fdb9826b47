/- Abstract values: a range over a function. Nothing of any program. -/
import Derived.Test.YtoemcdgebkkcoaaGreatDoorPvRr
set_option linter.unusedSimpArgs false
set_option linter.unusedVariables false
set_option linter.unusedSectionVars false
namespace Go.Pv
variable [GTab]

/-- The cells of a map of cells lie in a world. -/
def Holds (h : HMap) (w : World) : Prop := ∀ b o v, h b o = some v → wcell w b o = some v
def KpH (h : HMap) (w w' : World) : Prop := Holds h w → Holds h w'

/-- No map in it. -/
inductive NoMp : PV → Prop
  | any : NoMp .any
  | bool (b) : NoMp (.bool b)
  | int (k n) : NoMp (.int k n)
  | str (s) : NoMp (.str s)
  | nilsl : NoMp .nilsl
  | sl (sz es) (h : ∀ p ∈ es.flatMap PV.cells, NoMp p) : NoMp (.sl sz es)
  | slt (sz es k) (h : ∀ p ∈ es.flatMap PV.cells, NoMp p) : NoMp (.slt sz es k)
  | sln (sz es) (h : ∀ p ∈ es.flatMap PV.cells, NoMp p) : NoMp (.sln sz es)
  | sl0 (sz) : NoMp (.sl0 sz)
  | nilptr : NoMp .nilptr
  | loc (ps) (h : ∀ p ∈ ps, NoMp p) : NoMp (.loc ps)
  | box (i off) : NoMp (.box i off)
  | slb (i off n sz) : NoMp (.slb i off n sz)
  | agg (ps) (h : ∀ p ∈ ps, NoMp p) : NoMp (.agg ps)
/-- .. none but those that lie below n. -/
def Clean (n : Nat) (h : HMap) : Prop := ∀ b o v, h b o = some v → n ≤ b → v.oneCell' = true
open Classical in
noncomputable def HMap.erase (n : Nat) (h : HMap) : HMap := { c := fun b o => match h b o with | some v => if n ≤ b ∧ v.oneCell' = false then none else some v | none => none, j := h.j }
theorem HMap.erase_one {n : Nat} {h : HMap} {b o : Nat} {v : Value} (e : h b o = some v) (h1 : v.oneCell' = true) : h.erase n b o = some v := by
  simp [HMap.erase, e, h1]
theorem HMap.erase_none {n : Nat} {h : HMap} {b o : Nat} (e : h b o = none) : h.erase n b o = none := by
  simp [HMap.erase, e]
theorem HMap.erase_of {n : Nat} {h : HMap} {b o : Nat} {v : Value} (e : h.erase n b o = some v) : h b o = some v ∧ (n ≤ b → v.oneCell' = true) := by
  have e : (match h b o with | some v => if n ≤ b ∧ v.oneCell' = false then none else some v | none => none) = some v := e
  split at e
  · rename_i u hu
    split at e
    · cases e
    · rename_i hc
      cases e
      refine ⟨hu, fun hb => ?_⟩
      cases hx : v.oneCell' with
      | true => rfl
      | false => exact absurd ⟨hb, hx⟩ hc
  · cases e
theorem HMap.le_erase {n : Nat} {h h' : HMap} (hc : Clean n h) (hle : h.le h') : h.le (h'.erase n) := by
  refine ⟨fun b o v e => ?_, fun b m e => hle.j b m e⟩
  have e' := hle.c b o v e
  by_cases hb : n ≤ b
  · exact HMap.erase_one e' (hc b o v e hb)
  · simp [HMap.erase, e', hb]
theorem HMap.erase_clean (n : Nat) (h : HMap) : Clean n (h.erase n) := fun b o v e hb => (HMap.erase_of e).2 hb
theorem PRel.erase {n : Nat} {h : HMap} {v : Value} {p : PV} (r : PRel h v p) (hn : NoMp p) : PRel (h.erase n) v p := by
  induction r with
  | any v => exact .any v
  | bool b => exact .bool b
  | int k n => exact .int k n
  | str s => exact .str s
  | nilsl => exact .nilsl
  | slnil sz => exact .slnil sz
  | slx a sz => exact .slx a sz
  | sl b off n cap sz es vals hn' hc hm hsz hh ho hp ih =>
    cases hn with
    | sl _ _ hq => exact .sl b off n cap sz es vals hn' hc hm hsz (fun i hi => HMap.erase_one (hh i hi) (ho i hi)) ho (fun i p hi => ih i p hi (hq p (List.mem_of_getElem? hi)))
  | sln b off n cap sz es hr ih =>
    cases hn with
    | sln _ _ hq => exact .sln b off n cap sz es (ih (.sl _ _ hq))
  | slnx a sz => exact .slnx a sz
  | sl0 b off sz => exact .sl0 b off sz
  | nilptr => exact .nilptr
  | loc b off ps vals hh ho hp ih =>
    cases hn with
    | loc _ hq => exact .loc b off ps vals (fun i hi => HMap.erase_one (hh i hi) (ho i hi)) ho (fun i p hi => ih i p hi (hq p (List.mem_of_getElem? hi)))
  | agg vs ps hn' ho hp ih =>
    cases hn with
    | agg _ hq => exact .agg vs ps hn' ho (fun i v p hv hi => ih i v p hv hi (hq p (List.mem_of_getElem? hi)))
  | tup => cases hn
  | fn => cases hn
  | nilfn => cases hn
  | nilif => cases hn
  | nilm => cases hn
  | mpure => cases hn
  | ifc => cases hn
  | sljn => cases hn
  | sljx => cases hn
  | slj => cases hn
theorem Rel.erase {n : Nat} {g : Gh} {v : Value} {p : PV} (r : Rel g v p) (hn : NoMp p) : Rel { g with h := g.h.erase n } v p := by
  induction r with
  | pure v p h => exact .pure v p (h.erase hn)
  | slt v sz es k h ht =>
    cases hn with
    | slt _ _ _ hq => exact .slt v sz es k (h.erase (.sl _ _ hq)) ht
  | box id off b h ht => exact .box id off b h ht
  | slb id off n sz cap b h ht hc hm => exact .slb id off n sz cap b h ht hc hm
  | agg vs ps hn' ho hp ih =>
    cases hn with
    | agg _ hq => exact .agg vs ps hn' ho (fun i v p hv hi => ih i v p hv hi (hq p (List.mem_of_getElem? hi)))
  | tup => cases hn
  | fn => cases hn
  | mref => cases hn
  | iref => cases hn
  | yld => cases hn
  | given => cases hn
  | nbp => cases hn
  | bsl => cases hn
/-- A state whose boxes are rows, of no maps. -/
def isMp : List PV → Bool
  | [.mobj _] => true
  | [.any] => true
  | [.any, .any] => true
  | _ => false
def PS.rows (S : PS) : Prop := ∀ i ps, S.obj i = some ps → isMp ps = false ∧ ∀ p ∈ ps, NoMp p
theorem IsMap.isMp {h : HMap} {x : Option Obj} {ps : List PV} (r : IsMap h x ps) : isMp ps = true := by
  obtain ⟨es, ents, c, h | h, _⟩ := r <;> rw [h] <;> rfl
theorem PS.rows.row {S : PS} (hS : S.rows) {g : Gh} {i : Nat} {ps : List PV} {x : Option Obj} (h : S.obj i = some ps) (ho : ObjAt g x ps) : IsRow g x ps := by
  rcases ho with h1 | h1 | h1
  · exact h1
  · have := h1.isMp
    rw [(hS i ps h).1] at this; cases this
  · obtain ⟨cur, es, p0, p1, rfl, h2, h3, -⟩ := h1
    have hs := hS i _ h
    rcases h2 with rfl | rfl
    · cases hs.2 (.tup cur) (by simp)
    · rcases h3 with rfl | rfl
      · cases hs.2 (.mobj es) (by simp)
      · cases hs.1
theorem InvW.erase {n : Nat} {g : Gh} {S : PS} {w : World} (hS : S.rows) (hg : ∀ k ps, gat GTab.tab k = some ps → PRel (g.h.erase n) (.pointer (some ⟨k, 0, none⟩)) (.loc ps)) (hI : InvW g S w) : InvW { g with h := g.h.erase n } S w where
  gl := hg
  hw := fun b o v e => hI.hw b o v (HMap.erase_of e).1
  objs := fun id ps e => by
    obtain ⟨b, h1, h2, h3⟩ := hI.objs id ps e
    refine ⟨b, h1, .inl ?_, fun o => ?_⟩
    · obtain ⟨vals, T, fr, a, b', c, d, e'⟩ := hS.row e h2
      exact ⟨vals, T, fr, a, b', c, d, fun i v p hv hp => (e' i v p hv hp).erase ((hS id ps e).2 p (List.mem_of_getElem? hp))⟩
    · show HMap.erase n g.h b o = none
      exact HMap.erase_none (h3 o)
  inj := hI.inj
  toks := fun k e => by
    obtain ⟨b, lo, hi, h1, h2⟩ := hI.toks k e
    refine ⟨b, lo, hi, h1, fun hl => ?_⟩
    obtain ⟨h3, h4, h5⟩ := h2 hl
    refine ⟨h3, fun o a1 a2 => ?_, h5⟩
    show HMap.erase n g.h b o = none
    exact HMap.erase_none (h4 o a1 a2)
  tokd := hI.tokd
  jnk := fun b m e => by
    obtain ⟨h1, h2, h3, h4⟩ := hI.jnk b m e
    exact ⟨h1, fun o => HMap.erase_none (h2 o), h3, h4⟩
  tys := hI.tys

theorem cells_grown {w w' : World} {row : Option Nat} (hg : w.grownBy w' row) (hr : ∀ r, row = some r → ∃ o : Obj, w.heap[r]? = some o ∧ o.isCells = false) {k : Nat} {vals : Array Value} {T : TypeId} {fr : Nat × Nat} (hk : w.heap[k]? = some (.cells vals T fr)) :
    w'.heap[k]? = some (.cells vals T fr) := by
  rw [hg.block k (Array.getElem?_eq_some_iff.1 hk).1 (fun e => by
    obtain ⟨o, h1, h2⟩ := hr k e.symm
    rw [hk] at h1; cases h1; cases h2)]
  exact hk
theorem wcell_grown {w w' : World} {row : Option Nat} {n : Nat} (hg : w.grownBy w' row) (hr : ∀ r, row = some r → n ≤ r ∧ ∃ o : Obj, w.heap[r]? = some o ∧ o.isCells = false) {b o : Nat} {v : Value} (h : wcell w b o = some v) (h1 : n ≤ b → v.oneCell' = true) : wcell w' b o = some v := by
  by_cases hb : n ≤ b
  · have hc := wcell_cell h (h1 hb)
    unfold World.cell? at hc
    split at hc
    · rename_i c T fr e
      rw [wcell_cells (cells_grown hg (fun r e => (hr r e).2) e)]
      exact one?_some hc (h1 hb)
    · cases hc
  · rw [wcell_of_block (hg.block b (wcell_lt h) (fun e => by have := (hr b e.symm).1; omega))]
    exact h
theorem InvW.grown {g : Gh} {S : PS} {w w' : World} {row : Option Nat} {n : Nat} (hS : S.rows) (hc : Clean n g.h) (hg : w.grownBy w' row) (hr : ∀ r, row = some r → n ≤ r ∧ ∃ o : Obj, w.heap[r]? = some o ∧ o.isCells = false) (hI : InvW g S w) : InvW g S w' where
  gl := hI.gl
  hw := fun b o v e => wcell_grown hg hr (hI.hw b o v e) (hc b o v e)
  objs := fun id ps e => by
    obtain ⟨b, h1, h2, h3⟩ := hI.objs id ps e
    obtain ⟨vals, T, fr, a, r⟩ := hS.row e h2
    exact ⟨b, h1, .inl ⟨vals, T, fr, cells_grown hg (fun r e => (hr r e).2) a, r⟩, h3⟩
  inj := hI.inj
  toks := fun k e => by
    obtain ⟨b, lo, hi, h1, h2⟩ := hI.toks k e
    exact ⟨b, lo, hi, h1, fun hl => by
      obtain ⟨⟨vals, T, fr, q1, q2⟩, q3⟩ := h2 hl
      exact ⟨⟨vals, T, fr, cells_grown hg (fun r e => (hr r e).2) q1, q2⟩, q3⟩⟩
  tokd := hI.tokd
  jnk := fun b m e => by
    obtain ⟨⟨vals, T, fr, q1, q2⟩, h2⟩ := hI.jnk b m e
    exact ⟨⟨vals, T, fr, cells_grown hg (fun r e => (hr r e).2) q1, q2⟩, h2⟩
  tys := fun b T m e => by
    obtain ⟨vals, fr, q1, q2⟩ := hI.tys b T m e
    exact ⟨vals, fr, cells_grown hg (fun r e => (hr r e).2) q1, q2⟩
theorem ExtP.grown {m : Nat} {g : Gh} {S : PS} {w₀ : World} {g' : Gh} {S' : PS} {w w' : World} {row : Option Nat} (hg : w.grownBy w' row) (hr : ∀ r, row = some r → w₀.heap.size ≤ r) (hE : ExtP m g S w₀ g' S' w) : ExtP m g S w₀ g' S' w' :=
  ⟨{ le := hE.e.le, ty := hE.e.ty, new := hE.e.new, own := hE.e.own, size := Nat.le_trans hE.e.size hg.size, os := hg.os.trans hE.e.os, tape := hg.tape.trans hE.e.tape, output := hg.output.trans hE.e.output,
     keep := fun b hb => by
      rw [hg.block b (Nat.lt_of_lt_of_le hb hE.e.size) (fun e => by have := hr b e.symm; omega)]
      exact hE.e.keep b hb }, hE.pin⟩
/-- What is no cells lies as it lay. -/
theorem ExtW.others {g : Gh} {S : PS} {w : World} {g' : Gh} {S' : PS} {w' : World} (hS : S.rows) (hI : InvW g S w) (hE : ExtW g S w g' S' w') : KeepsOthers w w' :=
  ⟨hE.size, fun k o hk ho => by
    have hlt : k < w.heap.size := (Array.getElem?_eq_some_iff.1 hk).1
    rcases hE.keep k hlt with h | ⟨v, v', T, fr, fr', h1, _⟩ | h
    · rw [h]; exact hk
    · rw [hk] at h1; cases h1; cases ho
    · rcases h 0 with ⟨id, h1, h2⟩ | ⟨t, lo, hi, h1, h2, h3, h4⟩ | hj
      · cases hx : S.obj id with
        | none => exact absurd hx h1
        | some ps =>
          obtain ⟨b, q1, q2, _⟩ := hI.objs id ps hx
          rw [h2] at q1; cases q1
          obtain ⟨vals, T, fr, q2, _⟩ := hS.row hx q2
          rw [hk] at q2; cases q2; cases ho
      · obtain ⟨b, lo', hi', q1, q2⟩ := hI.toks t h1
        rw [h2] at q1; cases q1
        obtain ⟨⟨vals, T, fr, q3, _⟩, _⟩ := q2 h3
        rw [hk] at q3; cases q3; cases ho
      · obtain ⟨m, hm⟩ := Option.ne_none_iff_exists'.1 hj
        obtain ⟨⟨vals, T, fr, q3, _⟩, _⟩ := hI.jnk k m hm
        rw [hk] at q3; cases q3; cases ho⟩
/-- A value that stays what it is, while the first k boxes lie where they lie. -/
def keepPV (k : Nat) (p : PV) : Prop := ∀ (g g' : Gh) (v : Value), g.h.le g'.h → (∀ i, i < k → g'.blk i = g.blk i) → (∀ b, g.ty b ≠ none → g'.ty b ≠ none) → Rel g v p → Rel g' v p
theorem keepPV.box {k i off : Nat} (h : i < k) : keepPV k (.box i off) := fun g g' v hh hb ht r => by
  have hty := fun b h => r.box_ty (b := b) h
  obtain ⟨b, h1, rfl⟩ := r.box_inv
  exact .box i off b ((hb i h).trans h1) (ht b (hty b h1))
theorem keepPV.int {k : Nat} {q : IntKind} {n : Int} : keepPV k (.int q n) := fun g g' v _ _ _ r => by rw [r.int_inv]; exact .pure _ _ (.int q n)
theorem keepPV.bool {k : Nat} {b : Bool} : keepPV k (.bool b) := fun g g' v _ _ _ r => by rw [r.bool_inv]; exact .pure _ _ (.bool b)
theorem keepPV.str {k : Nat} {s : List UInt8} : keepPV k (.str s) := fun g g' v _ _ _ r => by rw [r.str_inv]; exact .pure _ _ (.str s)
theorem keepPV.nilsl {k : Nat} : keepPV k .nilsl := fun g g' v _ _ _ r => by rw [r.nilsl_inv]; exact .pure _ _ .nilsl
theorem keepPV.any {k : Nat} : keepPV k .any := fun g g' v _ _ _ r => .pure _ _ (.any v)
theorem keepPV.sl {k sz : Nat} {es : List PV} : keepPV k (.sl sz es) := fun g g' v hh _ _ r => .pure _ _ (r.sl_inv.mono hh)

theorem ExtP.same_l {m : Nat} {g : Gh} {S T : PS} {w : World} {g' : Gh} {S' : PS} {w' : World} (ho : ∀ i, S.obj i = T.obj i) (hl : ∀ k, S.lv k = T.lv k) (h : ExtP m g S w g' S' w') : ExtP m g T w g' S' w' :=
  ⟨⟨h.e.le, h.e.ty, fun b o v e => (h.e.new b o v e).imp id (Or.imp id (Own.of_eq ho hl)), fun b o hb e => Own.of_eq ho hl (h.e.own b o hb e), h.e.size, fun b hb => (h.e.keep b hb).mono (fun o e => Own.of_eq ho hl e), h.e.os, h.e.tape, h.e.output⟩, h.pin⟩
theorem ExtP.same_r {m : Nat} {g : Gh} {S : PS} {w : World} {g' : Gh} {S' T' : PS} {w' : World} (ho : ∀ i, S'.obj i = T'.obj i) (hl : ∀ k, S'.lv k = T'.lv k) (h : ExtP m g S w g' S' w') : ExtP m g S w g' T' w' :=
  ⟨⟨h.e.le, h.e.ty, h.e.new, fun b o hb e => h.e.own b o hb (Own.of_eq (fun i => (ho i).symm) (fun k => (hl k).symm) e), h.e.size, h.e.keep, h.e.os, h.e.tape, h.e.output⟩, h.pin⟩

section
variable {P : Program} {m : Nat}
/-- Behind a round. -/
def rfK {α : Type} (k e0 : Nat) (T U : List α → PS) (G B : List α → Prop) (pre : List α) : Post
  | .normal, S => G pre ∧ Wk k S { T pre with env := [] }
  | .exit i, S => i = e0 ∧ B pre ∧ Wk k S { U pre with env := [] }
  | _, _ => False

theorem PWP.rangeFunc (hm : P.follows .mixedOrders = true) {α : Type} {k e0 : Nat} {gop : Operand} {ps : Array Tmp} {assign body : Code} {Q : Post} {gf : Nat} {caps : List PV} {E : List (Nat × PV)}
    (T U : List α → PS) (G B : List α → Prop) (full : List α) (encs : α → Array Value) (F : α → Array Value → Array Value) (X : α → List (Nat × PV)) (N : Nat)
    (hmk : m ≤ k) (hTE : ∀ pre, (T pre).env = E) (hUE : ∀ pre, (U pre).env = E) (hTn : ∀ pre, (T pre).n = (T []).n) (hUn : ∀ pre, (U pre).n = (T []).n) (hE : ∀ t, keepPV k (lkp .any E t))
    (hTo : ∀ pre i, i < k → (T pre).obj i ≠ none) (hTr : ∀ pre, (T pre).rows) (hUr : ∀ pre, (U pre).rows)
    (hg : (T []).ev gop = .fn gf caps) (hpc : ∀ p ∈ caps, ∀ (g : Gh) (v : Value), Rel g v p → PRel g.h v p) (eg : ∀ args w, (callFunc gf args).run P w = .ok (.enter gf args) w)
    (hps : ∀ x, (encs x).size = ps.size) (hF : ∀ (x : α) (t : Array Value), (T []).n ≤ t.size → (T []).n ≤ (F x t).size)
    (hX : ∀ (x : α) (g : Gh) (t : Array Value), (T []).n ≤ t.size → (∀ i, Rel g (t.getD i undef) (lkp .any E i)) → ∀ i, Rel g ((F x t).getD i undef) (lkp .any (X x ++ E) i))
    (hassign : ∀ (t : Array Value) (l : Nat) (x : α) (W : World) (K : Act → World → Prop), (T []).n ≤ t.size → K { tmps := F x t, defers := [] } W →
      assign.wpIn (Fence.wide.inRound l) 1 P (Exit.then K (fun _ _ _ => False)) { tmps := (ps.zip (encs x)).foldl (fun t (p, v) => t.setIfInBounds p v) t, defers := [] } W)
    (hseq : ∀ (h : HMap) (w : World) (lb : Array Value), Holds h w → (∀ k ps, gat GTab.tab k = some ps → PRel h (.pointer (some ⟨k, 0, none⟩)) (.loc ps)) → lb.size = caps.length → (∀ (i : Nat) (v : Value) (p : PV), lb[i]? = some v → caps[i]? = some p → PRel h v p) →
      SeqStopsK Fence.wide 2 P gf lb encs (KpH h) (fun xs => xs = full) (fun pre => pre <+: full) N w)
    (h0 : G []) (hrd : rdOk body = true) (hbody : ∀ pre x, G pre → pre.length < N → VC P k body (rfK k e0 T U G B (pre ++ [x])) { T pre with env := X x ++ E })
    (hQ1 : G full → Q .normal (T full)) (hQ2 : ∀ pre, pre <+: full → B pre → Q (.exit e0) (U pre)) : PWP P m (.rangeFunc gop ps assign body) Q (T []) := by
  intro g a w hI hd hFr hp
  have hgo : ∃ lb, a.eval gop = .func (.func gf) #[] lb ∧ lb.size = caps.length ∧ ∀ (i : Nat) (v : Value) (p : PV), lb[i]? = some v → caps[i]? = some p → PRel g.h v p := by
    have := ev_rel (a := a) hI.w.gl hI.env gop
    rw [hg] at this
    obtain ⟨vs, h1, h2, h3⟩ := this.fn_inv
    exact ⟨vs, h1, h2, fun i v p hv hp => hpc p (List.mem_of_getElem? hp) g v (h3 i v p hv hp)⟩
  obtain ⟨lb, hlb, hls, hlr⟩ := hgo
  have hpk : ∀ {g' : Gh} {pre : List α} {w' : World}, InvW g' (T pre) w' → ∀ i, i < k → g'.blk i ≠ none := by
    intro g' pre w' hI' i hi
    cases hx : (T pre).obj i with
    | none => exact absurd hx (hTo pre i hi)
    | some ps => obtain ⟨b, h1, _⟩ := hI'.objs i ps hx; rw [h1]; simp
  have henvT : ∀ {pre g' t}, (∀ i, Rel g' (t.getD i undef) ((T pre).get i)) ↔ (∀ i, Rel g' (Array.getD t i undef) (lkp .any E i)) := by
    intro pre g' t
    simp only [PS.get, hTE pre]
  let I : List α → World → Prop := fun pre W => G pre ∧ ∃ g1, Clean w.heap.size g1.h ∧ Inv g1 (T pre) a.tmps W ∧ (∀ j, (T pre).nxt ≤ j → Fresh g1 j) ∧ ExtP k g (T []) w g1 (T pre) W
  let Ix : Code → List α → World → Prop := fun c pre W => c = .exit e0 ∧ B pre ∧ ∃ g1, Clean w.heap.size g1.h ∧ Inv g1 (U pre) a.tmps W ∧ (∀ j, (U pre).nxt ≤ j → Fresh g1 j) ∧ ExtP k g (T []) w g1 (U pre) W
  have hdown : ∀ {g1 S1 W}, ExtP k g (T []) w g1 S1 W → ExtP m g (T []) w g1 S1 W := fun h => ⟨h.e, fun i hi => h.pin i (Nat.lt_of_lt_of_le hi hmk)⟩
  have mark : ∀ {g1 S1 W D}, ExtP k g (T []) w g1 S1 W → w.heap.size ≤ D → W.heap[D]? = some (.deferred (some [])) → Df2 w a.defers W ({ target := .collected D, args := #[] } :: a.defers) := by
    intro g1 S1 W D hE1 hD hW
    have hk := hd.keep hI.w hE1.e
    refine ⟨⟨List.nodup_cons.2 ⟨fun h => ?_, hk.1.1⟩, fun d h => ?_⟩, fun d h => ?_⟩
    · obtain ⟨D', h1, h2⟩ := hd.2 _ h
      cases h1
      have := (Array.getElem?_eq_some_iff.1 h2).1
      omega
    · rcases List.mem_cons.1 h with rfl | h
      · exact ⟨D, rfl, hW⟩
      · exact hk.1.2 d h
    · rcases List.mem_cons.1 h with rfl | h
      · exact .inr ⟨D, hD, rfl⟩
      · exact .inl h
  have envBack : ∀ {g1 g2 : Gh}, (∀ i, Rel g1 (a.tmps.getD i undef) (lkp .any E i)) → g1.h.le g2.h → (∀ i, i < k → g2.blk i = g1.blk i) → (∀ b, g1.ty b ≠ none → g2.ty b ≠ none) → ∀ i, Rel g2 (a.tmps.getD i undef) (lkp .any E i) :=
    fun h hh hb ht i => hE i _ _ _ hh hb ht (h i)
  have hclean : Clean w.heap.size g.h := fun b o v e hb => by have := hI.w.h_lt e; omega
  refine wpIn_wide (n := 3) |>.1 (wpIn_rangeFunc_ownG (α := α) rfl (by omega) hlb trivial eg (hseq g.h w lb hI.w.hw hI.w.gl hls hlr) (fun h1 h2 h => h2 (h1 h)) ?_ (Go.RowKit.Below.refl _ w) hps I Ix ?_ ?_ ?_ (fun x => { tmps := F x a.tmps, defers := [] }) ?_ ?_ ?_ ?_)
  · intro W l o o' hl hlo hc hw hH b off v e
    exact wcell_grown (grownBy_putObj' W l o') (fun r e => by cases e; exact ⟨hl, o, hlo, hc⟩) (hH b off v e) (hclean b off v e)
  · rintro pre W W' row ⟨hG, g1, hcl, h1, h2, h3⟩ hgr hrow
    exact ⟨hG, g1, hcl, ⟨h1.w.grown (hTr pre) hcl hgr hrow, h1.env, h1.size⟩, h2, h3.grown hgr (fun r e => (hrow r e).1)⟩
  · rintro c pre W W' row ⟨hc, hB, g1, hcl, h1, h2, h3⟩ hgr hrow
    exact ⟨hc, hB, g1, hcl, ⟨h1.w.grown (hUr pre) hcl hgr hrow, h1.env, h1.size⟩, h2, h3.grown hgr (fun r e => (hrow r e).1)⟩
  · exact ⟨h0, g, hclean, hI, hFr, ExtP.refl _ _ _ _⟩
  · intro l x W K hK
    exact hassign a.tmps l x W K hI.size hK
  · rintro l pre x W ⟨hG, g1, hcl, h1, h2, h3⟩ hlen
    have hV := VC_round hm (l := l) (n := 1) (c := body) hrd (fun S' h => h) (hbody pre x hG hlen)
    have he1 : ∀ i, Rel g1 (a.tmps.getD i undef) (lkp .any E i) := henvT.1 h1.env
    have hIx : Inv g1 { T pre with env := X x ++ E } (F x a.tmps) W := ⟨InvW.of_eq (S := T pre) (fun _ => rfl) (fun _ => rfl) h1.w, hX x g1 a.tmps hI.size he1, by show (T pre).n ≤ _; rw [hTn]; exact hF x _ hI.size⟩
    refine wpIn_mono (hV g1 { tmps := F x a.tmps, defers := [] } W hIx ⟨by simp, by simp⟩ h2 (hpk h1.w)) ?_
    rintro e a' W' ⟨g2, S2, hq, hI2, hd2, hF2, hE2⟩
    have hoth : KeepsFrom w.heap.size W W' := (ExtW.others (S := { T pre with env := X x ++ E }) (hTr pre) hIx.w hE2.e).from _
    have hE2' : ExtP k g1 (T pre) W g2 S2 W' := ExtP.same_l (S := { T pre with env := X x ++ E }) (fun _ => rfl) (fun _ => rfl) hE2
    have go : ∀ {V : PS}, V.rows → V.env = E → V.n = (T []).n → Wk k S2 { V with env := [] } → ∃ g3, Clean w.heap.size g3.h ∧ Inv g3 V a.tmps W' ∧ (∀ j, V.nxt ≤ j → Fresh g3 j) ∧ ExtP k g (T []) w g3 V W' := by
      intro V hVr hVE hVn hw
      obtain ⟨g3, k1, k2, k3⟩ := hw g2 a'.tmps W' hI2 hF2 (fun i hi => by rw [hE2.pin i hi]; exact hpk h1.w i hi)
      have hx := h3.trans (hE2'.trans k3)
      have hle1 : g1.h.le (g3.h.erase w.heap.size) := HMap.le_erase hcl (HMap.le_trans hE2'.e.le k3.e.le)
      have hle0 : g.h.le (g3.h.erase w.heap.size) := HMap.le_erase hclean hx.e.le
      refine ⟨{ g3 with h := g3.h.erase w.heap.size }, HMap.erase_clean _ _, ⟨InvW.erase hVr (fun k ps h => (hI.w.gl k ps h).mono hle0) (InvW.of_eq (S := { V with env := [] }) (fun _ => rfl) (fun _ => rfl) k1.w), fun i => ?_, by rw [hVn]; exact hI.size⟩, k2, ?_⟩
      · rw [PS.get, hVE]
        exact envBack (g2 := { g3 with h := g3.h.erase w.heap.size }) he1 hle1 (fun i hi => (k3.pin i hi).trans (hE2'.pin i hi)) (fun b hb => by
          cases e : g1.ty b with
          | none => exact absurd e hb
          | some T => rw [show Gh.ty { g3 with h := g3.h.erase w.heap.size } b = some T from k3.e.ty b T (hE2'.e.ty b T e)]; simp) i
      · have hy := ExtP.same_r (T' := V) (S' := { V with env := [] }) (fun _ => rfl) (fun _ => rfl) hx
        exact ⟨⟨hle0, hy.e.ty, fun b o v e => hy.e.new b o v (HMap.erase_of e).1, hy.e.own, hy.e.size, hy.e.keep, hy.e.os, hy.e.tape, hy.e.output⟩, hy.pin⟩
    cases e with
    | normal =>
      obtain ⟨hG', hw⟩ := hq
      obtain ⟨g3, q0, q1, q2, q3⟩ := go (hTr _) (hTE _) (hTn _) hw
      exact ⟨hoth, fun _ b o v e => q1.w.hw b o v (q3.e.le.c b o v e), hG', g3, q0, q1, q2, q3⟩
    | exit i =>
      obtain ⟨rfl, hB, hw⟩ := hq
      obtain ⟨g3, q0, q1, q2, q3⟩ := go (hUr _) (hUE _) (hUn _) hw
      exact ⟨hoth, rfl, hB, g3, q0, q1, q2, q3⟩
    | _ => exact hq.elim
  · rintro D xs W hD rfl ⟨hG, g1, _, h1, h2, h3⟩ hW
    exact ⟨g1, _, hQ1 hG, h1, mark h3 hD hW, h2, hdown h3⟩
  · rintro D c pre W hD hpre ⟨rfl, hB, g1, _, h1, h2, h3⟩ hW
    exact wpIn_exit ⟨g1, _, hQ2 pre hpre hB, h1, mark h3 hD hW, h2, hdown h3⟩
end
end Go.Pv
