/- Abstract values: the operations that make or write blocks. Nothing of any program. -/
import Derived.Test.YtbjeagcnakdmnaaPvE
import Derived.Laws.BytesString
set_option linter.unusedSimpArgs false
set_option linter.unusedVariables false
set_option linter.unusedSectionVars false
namespace Go.Pv
variable [GTab]

section
variable {P : Program} {nid : Nat} {o : Oper} {ins : Operand → PV} {S : PS}

theorem LTrip.of_run {δ : Dl} (h : ∀ (g : Gh) (S' : PS) (ρ : Operand → Value) (w : World), InvW g S' w → (∀ x ∈ o.op.operands, Rel g (ρ x) (ins x)) → (∀ i ∈ δ.rdB, S'.obj i = S.obj i) →
      (∀ k ∈ δ.rdT, S'.lv k = S.lv k) → Fresh g nid →
      ∃ v g' w', ((execOp ρ o).run P w = .ok (.value v) w' ∨ ((execOp ρ o).run P w = .ok .skip w' ∧ v = undef)) ∧ InvW g' (S'.app δ) w' ∧ Ext g S' w g' (S'.app δ) w' ∧
        (∀ j, j ≠ nid → Fresh g j → Fresh g' j) ∧ Rel g' v δ.p) : LTrip P nid o ins S δ := by
  intro g S' a w next Q hI ho hb ht hf hn
  obtain ⟨v, g', w', hr, h1, h2, h3, h4⟩ := h g S' a.eval w hI ho hb ht (hf nid (Nat.le_refl _) (by omega))
  replace h3 : ∀ j, j < nid ∨ nid + 4 ≤ j → Fresh g j → Fresh g' j := fun j hj => h3 j (by omega)
  unfold Oper.wp
  rcases hr with hr | ⟨hr, rfl⟩
  · rw [hr]; exact hn v g' w' h1 h2 h3 h4
  · rw [hr]; exact hn _ g' w' h1 h2 h3 h4

/-- A token that owns nothing. -/
theorem emptyTok' {g S w} (hI : InvW g S w) {nid : Nat} (hf : g.tok nid = none) {δ : Dl} (hwr : δ.wr = []) (htk : ∃ old, δ.tk = (nid, true) :: old ∧ ∀ x ∈ old, x.2 = false) :
    let g' : Gh := { g with tok := fun i => if i = nid then some (0, 0, 0) else g.tok i }
    InvW g' (S.app δ) w ∧ Ext g S w g' (S.app δ) w ∧ (∀ j, j ≠ nid → Fresh g j → Fresh g' j) := by
  intro g'
  obtain ⟨old, htk, hold⟩ := htk
  have htok : ∀ i, g'.tok i = if i = nid then some (0, 0, 0) else g.tok i := fun _ => rfl
  have hle : g.le g' := ⟨HMap.le_refl _, fun _ _ h => h, fun i r h => by rw [htok, if_neg (fun e => by subst e; rw [hf] at h; cases h)]; exact h, fun _ _ h => h⟩
  have hobj : ∀ id, (S.app δ).obj id = S.obj id := by intro id; simp [PS.obj, PS.app, hwr]
  have hlold : ∀ k, lkp false (old ++ S.live) k = true → S.lv k = true := by
    intro k
    clear htk
    induction old with
    | nil => exact fun h => h
    | cons x xs ih =>
      intro h
      obtain ⟨a, b⟩ := x
      simp only [List.cons_append, lkp_cons] at h
      have hb : b = false := hold (a, b) (List.mem_cons_self ..)
      subst hb
      split at h
      · cases h
      · exact ih (fun x hx => hold x (List.mem_cons_of_mem _ hx)) h
  have hlv : ∀ k, (S.app δ).lv k = true → k = nid ∨ (k ≠ nid ∧ S.lv k = true) := by
    intro k h
    simp only [PS.lv, PS.app, htk, List.cons_append, lkp_cons] at h
    split at h
    · rename_i e; exact .inl e.symm
    · rename_i e; exact .inr ⟨Ne.symm e, hlold k h⟩
  refine ⟨⟨hI.hw, ?_, ?_, ?_, ?_, hI.jnk_of (fun _ _ h => h) (fun _ _ _ => rfl) (fun c m o h => (hI.jnk c m h).2.1 o) (fun id c m _ hid hb => ⟨by rw [← hobj]; exact hid, hb⟩) (fun j c m lo2 hi2 hjc hj htj hl2 => by
      rw [htok] at htj
      rcases hlv j hj with e | ⟨e1, hj'⟩
      · rw [if_pos e] at htj; cases htj; omega
      · rw [if_neg e1] at htj; exact ⟨hj', htj⟩), hI.tys, hI.glm hle.h⟩, ⟨hle, fun _ _ _ h => .inl h, ?_, Nat.le_refl _, fun _ _ => .refl _ _, rfl, rfl, .rf⟩, ?_⟩
  · intro id qs hq
    rw [hobj] at hq
    obtain ⟨b, h1, h2, h6⟩ := hI.objs id qs hq
    exact ⟨b, h1, h2.mono hle, h6⟩
  · intro id id' b h1 h2 h3 h4
    rw [hobj] at h1 h2
    exact hI.inj id id' b h1 h2 h3 h4
  · intro k hk
    rcases hlv k hk with e | ⟨e, hk'⟩
    · exact ⟨0, 0, 0, by rw [htok, if_pos e], fun h => by omega⟩
    · obtain ⟨b, lo, hi, h1, h2⟩ := hI.toks k hk'
      refine ⟨b, lo, hi, by rw [htok, if_neg e]; exact h1, fun hl => ?_⟩
      obtain ⟨h3, h5, h6⟩ := h2 hl
      exact ⟨h3, h5, fun id hid => h6 id (by rw [hobj] at hid; exact hid)⟩
  · intro k k' b lo hi lo' hi' h1 h2 hne h3 h4
    rw [htok] at h3 h4
    rcases hlv k h1 with e | ⟨e, hk⟩ <;> rcases hlv k' h2 with e' | ⟨e', hk'⟩
    · omega
    · rw [if_pos e] at h3; cases h3; exact .inl rfl
    · rw [if_pos e'] at h4; cases h4; exact .inr rfl
    · rw [if_neg e] at h3; rw [if_neg e'] at h4
      exact hI.tokd k k' b lo hi lo' hi' hk hk' hne h3 h4
  · intro b o hb h
    rcases h with ⟨id, h1, h2⟩ | ⟨k, lo, hi, h1, h2, h3, h4⟩ | hjn
    · rw [hobj] at h1; exact .inl ⟨id, h1, h2⟩
    · rw [htok] at h2
      rcases hlv k h1 with e | ⟨e, hk⟩
      · rw [if_pos e] at h2; cases h2; omega
      · rw [if_neg e] at h2; exact .inr (.inl ⟨k, lo, hi, hk, h2, h3, h4⟩)
    · exact .inr (.inr hjn)
  · intro j hj h; exact ⟨h.1, by rw [htok, if_neg hj]; exact h.2⟩

theorem emptyTok {g S w} (hI : InvW g S w) {nid : Nat} (hf : Fresh g nid) {δ : Dl} (hwr : δ.wr = []) (htk : ∃ old, δ.tk = (nid, true) :: old ∧ ∀ x ∈ old, x.2 = false) :
    let g' : Gh := { g with tok := fun i => if i = nid then some (0, 0, 0) else g.tok i }
    InvW g' (S.app δ) w ∧ Ext g S w g' (S.app δ) w ∧ (∀ j, j ≠ nid → Fresh g j → Fresh g' j) := emptyTok' hI hf.2 hwr htk

/-! ### Zero values -/
def zc (P : Program) (t : TypeId) : Option (List PV) :=
  match (P.info? t).bind (·.zero) with
  | some z => if z.cells.toList.all (fun c => c.oneCell') then some (z.cells.toList.map ofC1) else none
  | none => none

theorem zc_spec {t : TypeId} {zs : List PV} (h : zc P t = some zs) : ∃ i z, P.info? t = some i ∧ i.zero = some z ∧ z.cells.size = zs.length ∧
    (∀ (i : Nat) (v : Value), z.cells[i]? = some v → v.oneCell' = true) ∧ ∀ hm (i : Nat) (v : Value) (p : PV), z.cells[i]? = some v → zs[i]? = some p → PRel hm v p := by
  unfold zc at h
  cases hi : P.info? t with
  | none => simp [hi] at h
  | some i =>
    cases hz : i.zero with
    | none => simp [hi, hz] at h
    | some z =>
      simp only [hi, Option.bind_some, hz] at h
      split at h
      · rename_i hf
        cases h
        refine ⟨i, z, rfl, hz, by simp, ?_, ?_⟩
        · intro j v hv
          exact List.all_eq_true.1 hf v (List.mem_of_getElem? (by simpa using hv))
        · intro hm j v p hv hp
          rw [← Array.getElem?_toList] at hv
          rw [List.getElem?_map, hv] at hp
          cases hp
          exact ofC1_rel hm v
      · cases h

theorem alloc_ok {t : TypeId} {zs : List PV} (h : o.op = .alloc t) (hz : zc P t = some zs) {ok : Prop} :
    LTrip P nid o ins S { p := .box nid 0, wr := [(nid, some zs)], ok := ok } := by
  refine .of_run fun g S' ρ w hI hr _ _ hf => ?_
  obtain ⟨i, z, hi, hz, hn, ho, hp⟩ := zc_spec hz
  obtain ⟨h1, h2, h3, h4⟩ := newBox hI hf (Pushed.alloc w (.cells z.cells t (0, 0))) (Nat.le_of_eq hn.symm) ho (fun i v p a b => .pure _ _ (hp _ i v p a b))
    (δ := { p := .box nid 0, wr := [(nid, some zs)], ok := ok }) rfl rfl
  refine ⟨_, _, _, .inl ?_, h1, h2, h3, h4 0⟩
  simp [execOp, h, Instr.alloc, zeroValue, typeInfo, hi, hz, newVar, Go.newRow]

/-- The value of one cell. -/
def PV.one : PV → Bool
  | .any | .agg _ | .tup _ | .given _ _ | .mobj _ => false
  | _ => true
theorem Rel.one {g : Gh} {v : Value} {p : PV} (r : Rel g v p) (h : p.one = true) : v.oneCell' = true ∧ v.cells = #[v] := by
  cases p <;> simp [PV.one] at h
  · rw [r.bool_inv]; exact ⟨rfl, rfl⟩
  · rw [r.int_inv]; exact ⟨rfl, rfl⟩
  · rw [r.str_inv]; exact ⟨rfl, rfl⟩
  · rw [r.nilsl_inv]; exact ⟨rfl, rfl⟩
  · obtain ⟨a, cap, hv, _⟩ := r.sl_inv.sl_view; rw [hv]; exact ⟨rfl, rfl⟩
  · obtain ⟨a, cap, hv, _⟩ := r.slt_inv.1.sl_view; rw [hv]; exact ⟨rfl, rfl⟩
  · obtain ⟨a, cap, hv, _⟩ := r.sln_inv.1.sl_view; rw [hv]; exact ⟨rfl, rfl⟩
  · obtain ⟨b, off, hv⟩ := r.sl0_inv; rw [hv]; exact ⟨rfl, rfl⟩
  · rw [r.nilptr_inv]; exact ⟨rfl, rfl⟩
  · have := r.loc_inv; cases this; exact ⟨rfl, rfl⟩
  · obtain ⟨b, _, hv⟩ := r.box_inv; rw [hv]; exact ⟨rfl, rfl⟩
  · obtain ⟨b, _, _, hv, _⟩ := r.slb_inv; rw [hv]; exact ⟨rfl, rfl⟩
  · obtain ⟨b, _, _, _, _, hv, _⟩ := r.slg_inv; rw [hv]; exact ⟨rfl, rfl⟩
  · obtain ⟨vs, hv, _⟩ := r.fn_inv; rw [hv]; exact ⟨rfl, rfl⟩
  · rw [r.nilfn_inv]; exact ⟨rfl, rfl⟩
  · rw [r.nilif_inv]; exact ⟨rfl, rfl⟩
  · rw [r.nilm_inv]; exact ⟨rfl, rfl⟩
  · obtain ⟨u, hv, _⟩ := r.ifc_inv; rw [hv]; exact ⟨rfl, rfl⟩
  · obtain ⟨b, _, hv⟩ := r.mref_inv; rw [hv]; exact ⟨rfl, rfl⟩
  · obtain ⟨b, _, hv⟩ := r.iref_inv; rw [hv]; exact ⟨rfl, rfl⟩
  · obtain ⟨b, _, hv⟩ := r.yld_inv; rw [hv]; exact ⟨rfl, rfl⟩
  · obtain ⟨a, cap, hv, _⟩ := r.slj_inv.slj_view; rw [hv]; exact ⟨rfl, rfl⟩
  · have := r.mpure_inv; cases this; exact ⟨rfl, rfl⟩
  · obtain ⟨b, _, _, hv | hv⟩ := r.nbp_inv <;> rw [hv] <;> exact ⟨rfl, rfl⟩
  · obtain ⟨a, cap, hv, _⟩ := r.bsl_inv.1.sl_view; rw [hv]; exact ⟨rfl, rfl⟩

/-- Its cells are known. -/
def PV.shaped : PV → Bool
  | .agg _ => true
  | p => p.one

theorem Rel.cells {g : Gh} {v : Value} {p : PV} (r : Rel g v p) (h : p.shaped = true) : v.cells.size = p.cells.length ∧
    (∀ (i : Nat) (u : Value), v.cells[i]? = some u → u.oneCell' = true) ∧ ∀ (i : Nat) (u : Value) (q : PV), v.cells[i]? = some u → p.cells[i]? = some q → Rel g u q := by
  by_cases ho : p.one = true
  · obtain ⟨h1, h2⟩ := r.one ho
    have hc : p.cells = [p] := by cases p <;> simp [PV.one] at ho <;> rfl
    rw [h2, hc]
    refine ⟨rfl, ?_, ?_⟩
    · intro i u hu; cases i <;> simp at hu; subst hu; exact h1
    · intro i u q hu hq; cases i <;> simp at hu hq; subst hu; subst hq; exact r
  · cases p <;> simp [PV.shaped, PV.one] at h ho
    obtain ⟨vs, hv, hn, h1, h2⟩ := r.agg_inv
    subst hv
    exact ⟨hn, h1, h2⟩

theorem box_ok {t : TypeId} {x : Operand} {p : PV} (h : o.op = .box t x) (hx : ins x = p) (hp : p.shaped = true) {ok : Prop} :
    LTrip P nid o ins S { p := .box nid 0, wr := [(nid, some p.cells)], ok := ok } := by
  refine .of_run fun g S' ρ w hI hr _ _ hf => ?_
  have e1 := hr x (by simp [h, Op.operands])
  rw [hx] at e1
  obtain ⟨q1, q2, q3⟩ := e1.cells hp
  obtain ⟨h1, h2, h3, h4⟩ := newBox hI hf (Pushed.alloc w (.cells (ρ x).cells t (0, 0))) (Nat.le_of_eq q1.symm) q2 q3 (δ := { p := .box nid 0, wr := [(nid, some p.cells)], ok := ok }) rfl rfl
  refine ⟨_, _, _, .inl ?_, h1, h2, h3, h4 0⟩
  simp [execOp, h, Instr.box, newVar, Go.newRow]

/-! ### Stores -/
def setC (ps : List PV) (off : Nat) (qs : List PV) : List PV := ps.take off ++ qs ++ ps.drop (off + qs.length)

theorem setC_length {ps : List PV} {off : Nat} {qs : List PV} (h : off + qs.length ≤ ps.length) : (setC ps off qs).length = ps.length := by simp [setC]; omega
theorem setC_get {ps : List PV} {off : Nat} {qs : List PV} (h : off + qs.length ≤ ps.length) (i : Nat) :
    (setC ps off qs)[i]? = if off ≤ i ∧ i < off + qs.length then qs[i - off]? else ps[i]? := by
  unfold setC
  by_cases h1 : i < off
  · rw [List.append_assoc, List.getElem?_append_left (by simp; omega), List.getElem?_take, if_pos h1, if_neg (by omega)]
  · rw [List.append_assoc, List.getElem?_append_right (by simp; omega)]
    have hl : (ps.take off).length = off := by simp; omega
    rw [hl]
    by_cases h2 : i < off + qs.length
    · rw [List.getElem?_append_left (by omega), if_pos ⟨by omega, h2⟩]
    · rw [List.getElem?_append_right (by omega), if_neg (by omega), List.getElem?_drop]
      rw [show off + qs.length + (i - off - qs.length) = i by omega]

theorem store_ok {t : TypeId} {x y : Operand} {id off : Nat} {ps : List PV} {p : PV} (h : o.op = .store t x y) (hx : ins x = .box id off) (hy : ins y = p) (hob : S.obj id = some ps)
    (hp : p.shaped = true) (hs : tsz P t = p.cells.length) (h0 : 0 < p.cells.length) (hl : off + p.cells.length ≤ ps.length) {ok : Prop} :
    LTrip P nid o ins S { p := .any, wr := [(id, some (setC ps off p.cells))], rdB := [id], ok := ok } := by
  refine .of_run fun g S' ρ w hI hr hb _ _ => ?_
  have e1 := hr x (by simp [h, Op.operands])
  have e2 := hr y (by simp [h, Op.operands])
  rw [hx] at e1; rw [hy] at e2
  obtain ⟨b, hb1, hv⟩ := e1.box_inv
  obtain ⟨q1, q2, q3⟩ := e2.cells hp
  have hob' : S'.obj id = some ps := (hb id (by simp)).trans hob
  obtain ⟨vals, T, fr, h2, hfr, h3, h4, h5, h6⟩ := hI.row hob' hb1 (e1.box_ty hb1)
  have hq1 : (ρ y).cells.toList.length = p.cells.length := by simpa using q1
  have hfit : off + (ρ y).cells.toList.length ≤ vals.size := by rw [hq1]; exact Nat.le_trans hl h3
  have hrow := Rowed.setRow w (new := splice vals off (ρ y).cells.toList) h2
  have hst := run_storeCells_fr (P := P) b off T fr (ρ y).cells.toList 0 vals w h2 hfr (by rw [Nat.add_zero]; exact hfit)
    (fun v hv => by obtain ⟨i, hi⟩ := List.mem_iff_getElem?.1 hv; exact q2 i v (by simpa using hi))
  have hrel := storeBox hI hob' hb1 hrow hfr (ps' := setC ps off p.cells) (by rw [splice_size hfit, setC_length hl]; exact h3) (splice_size hfit)
    (fun i v hv => by
      rw [splice_get hfit] at hv
      split at hv
      · exact q2 _ v (by simpa using hv)
      · exact h4 i v hv)
    (fun i v q hv hq => by
      rw [splice_get hfit, hq1] at hv
      rw [setC_get hl] at hq
      split at hv
      · rename_i e; rw [if_pos e] at hq; exact q3 _ v q (by simpa using hv) hq
      · rename_i e; rw [if_neg e] at hq; exact h5 i v q hv hq)
    (δ := { p := .any, wr := [(id, some (setC ps off p.cells))], rdB := [id], ok := ok }) rfl rfl
  refine ⟨undef, g, _, .inr ⟨?_, rfl⟩, hrel.1, hrel.2, fun _ _ h => h, .pure _ _ (.any _)⟩
  obtain ⟨m, hm⟩ : ∃ m, tsz P t = m + 1 := ⟨tsz P t - 1, by omega⟩
  have hsz : (ρ y).cells.size = m + 1 := by rw [q1, ← hs, hm]
  simp only [Nat.add_zero] at hst
  simp [execOp, h, hv, Instr.storeAt, Instr.sureAddr, storeVar, run_sizeOf w hm, hsz, hst, splice]

end
end Go.Pv
