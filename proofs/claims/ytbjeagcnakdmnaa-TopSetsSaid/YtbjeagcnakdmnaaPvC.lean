/- Abstract values: the operations on memory. Nothing of any program. -/
import Derived.Test.YtbjeagcnakdmnaaPvB
import Derived.Laws.CopyRow
set_option linter.unusedSimpArgs false
set_option linter.unusedVariables false
set_option linter.unusedSectionVars false
namespace Go.Pv
variable [GTab]

section
variable {P : Program}
theorem tk_sl {t e} (h : tk P t = .sl e) : P.underlying t = some (.slice e) := by unfold tk at h; split at h <;> simp_all
theorem tk_arr {t n e} (h : tk P t = .arr n e) : P.underlying t = some (.array n e) := by unfold tk at h; split at h <;> simp_all
theorem tk_str {t} (h : tk P t = .str) : P.underlying t = some .string := by unfold tk at h; split at h <;> simp_all
theorem tk_int {t k} (h : tk P t = .int k) : P.underlying t = some (.int k) := by unfold tk at h; split at h <;> simp_all
theorem tk_map {t k e} (h : tk P t = .map k e) : P.underlying t = some (.map k e) := by unfold tk at h; split at h <;> simp_all
theorem tk_bool {t} (h : tk P t = .bool) : P.underlying t = some .bool := by unfold tk at h; split at h <;> simp_all
theorem tk_some {t} (h : tk P t ≠ .other) : ∃ d, P.underlying t = some d := by
  unfold tk at h; split at h <;> first | exact ⟨_, ‹_›⟩ | simp_all
theorem tsz_info {t n} (h : tsz P t = n + 1) : ∃ i, P.info? t = some i ∧ i.size = n + 1 := by
  unfold tsz at h; cases hi : P.info? t <;> simp_all

theorem run_isAgg (w : World) {t : TypeId} (h : tk P t ≠ .other) : (isAgg t).run P w = .ok (tk P t).isAgg w := by
  obtain ⟨d, hd⟩ := tk_some h
  unfold isAgg
  rw [Sem.run_bind, run_underlying hd w]
  unfold tk at h ⊢
  rw [hd] at h ⊢
  cases d <;> simp_all [TK.isAgg]

theorem run_sizeOf (w : World) {t n : Nat} (h : tsz P t = n + 1) : (sizeOf t).run P w = .ok (n + 1) w := by
  obtain ⟨i, hi, hs⟩ := tsz_info h
  simp [sizeOf, typeInfo, hi, hs]
end

/-- Cells that can be read. -/
def CellsAt (g : Gh) (w : World) (b off : Nat) (ps : List PV) : Prop :=
  ∀ (i : Nat) (p : PV), ps[i]? = some p → ∃ v, w.cell? ⟨b, off + i, none⟩ = some v ∧ v.oneCell' = true ∧ Rel g v p

theorem CellsAt.drop {g w b off ps} (h : CellsAt g w b off ps) (n : Nat) : CellsAt g w b (off + n) (ps.drop n) := by
  intro i p hi
  rw [List.getElem?_drop] at hi
  obtain ⟨v, h1, h2⟩ := h _ _ hi
  exact ⟨v, by rw [Nat.add_assoc]; exact h1, h2⟩

theorem InvW.boxCells {g S w} (hI : InvW g S w) {id ps b} (ho : S.obj id = some ps) (hb : g.blk id = some b) (ht : g.ty b ≠ none) : CellsAt g w b 0 ps := by
  obtain ⟨vals, T, fr, h2, _, h3, h4, h5, _⟩ := hI.row ho hb ht
  intro i p hp
  have hi : i < vals.size := Nat.lt_of_lt_of_le (List.getElem?_eq_some_iff.1 hp).1 h3
  have hv : vals[i]? = some vals[i] := by simp [hi]
  exact ⟨vals[i], by simp [World.cell?, h2, hv], h4 _ _ hv, h5 _ _ _ hv hp⟩

theorem InvW.locCells {g S w} (hI : InvW g S w) {v ps} (h : PRel g.h v (.loc ps)) : ∃ b off, v = .pointer (some ⟨b, off, none⟩) ∧ CellsAt g w b off ps := by
  cases h with
  | loc b off ps vals hh ho hp =>
    refine ⟨b, off, rfl, fun i p hi => ?_⟩
    have hl := (List.getElem?_eq_some_iff.1 hi).1
    exact ⟨vals i, hI.cell (hh i hl) (ho i hl), ho i hl, .pure _ _ (hp i p hi)⟩

/-- What is loaded at a type. -/
def ldPV (P : Program) (t : TypeId) (ps : List PV) : PV := if (tk P t).isAgg then .agg (ps.take (tsz P t)) else ps.getD 0 .any
def ldOk (P : Program) (t : TypeId) (ps : List PV) : Prop := tk P t ≠ .other ∧ 0 < tsz P t ∧ tsz P t ≤ ps.length

theorem run_load_of {P : Program} {g w b off ps} (h : CellsAt g w b off ps) {t : TypeId} (hk : ldOk P t ps) :
    ∃ v, (loadVar t ⟨b, off, none⟩).run P w = .ok v w ∧ Rel g v (ldPV P t ps) := by
  obtain ⟨hk, h0, hl⟩ := hk
  obtain ⟨n, hn⟩ : ∃ n, tsz P t = n + 1 := ⟨tsz P t - 1, by omega⟩
  unfold ldPV
  by_cases ha : (tk P t).isAgg = true
  · have hex : ∀ i, i < tsz P t → ∃ v, w.cell? ⟨b, off + i, none⟩ = some v ∧ v.oneCell' = true ∧ ∀ p, ps[i]? = some p → Rel g v p := by
      intro i hi
      have hp : ps[i]? = some (ps[i]'(by omega)) := by simp [show i < ps.length by omega]
      obtain ⟨v, h1, h2, h3⟩ := h i _ hp
      exact ⟨v, h1, h2, fun p hp' => by rw [hp] at hp'; cases hp'; exact h3⟩
    obtain ⟨f, hf⟩ : ∃ f : Nat → Value, ∀ i, i < tsz P t → w.cell? ⟨b, off + i, none⟩ = some (f i) ∧ (f i).oneCell' = true ∧ ∀ p, ps[i]? = some p → Rel g (f i) p := by
      refine ⟨fun i => if hi : i < tsz P t then (hex i hi).choose else undef, fun i hi => ?_⟩
      simp only [hi, dif_pos]
      exact (hex i hi).choose_spec
    refine ⟨.agg ((List.range (tsz P t)).map f).toArray, ?_, ?_⟩
    · have hl := run_loadCells (P := P) w ⟨b, off, none⟩ (tsz P t) f (fun j hj => by rw [Addr.add_lit]; exact (hf j hj).1)
      simp only [loadVar, Sem.run_bind, run_isAgg w hk, ha, Result.andThen_ok, if_true, run_sizeOf w hn]
      rw [← hn, hl]
      simp
    · rw [if_pos ha]
      refine .agg _ _ (by simp; omega) ?_ ?_
      · intro i v hv
        simp only [List.getElem?_toArray, List.getElem?_map] at hv
        by_cases hi : i < tsz P t
        · simp [List.getElem?_range, hi] at hv; subst hv; exact (hf i hi).2.1
        · simp [List.getElem?_range, hi] at hv
      · intro i v p hv hp
        simp only [List.getElem?_toArray, List.getElem?_map] at hv
        by_cases hi : i < tsz P t
        · simp [List.getElem?_range, hi] at hv; subst hv
          rw [List.getElem?_take, if_pos hi] at hp
          exact (hf i hi).2.2 p hp
        · simp [List.getElem?_range, hi] at hv
  · have hp : ps[0]? = some (ps.getD 0 .any) := by
      rw [List.getD_eq_getElem?_getD]
      cases hx : ps[0]? with
      | none => rw [List.getElem?_eq_none_iff] at hx; omega
      | some x => rfl
    obtain ⟨v, h1, h2, h3⟩ := h 0 _ hp
    refine ⟨v, ?_, by rw [if_neg ha]; exact h3⟩
    simp only [Nat.add_zero] at h1
    simp [loadVar, Sem.run_bind, run_isAgg w hk, ha, h1]

section
variable {P : Program} {nid : Nat} {o : Oper} {ins : Operand → PV} {S : PS} {ok : Prop}

theorem load_box {t : TypeId} {x : Operand} {id off : Nat} {ps : List PV} (h : o.op = .load t x) (hx : ins x = .box id off) (ho : S.obj id = some ps) (hk : ldOk P t (ps.drop off)) :
    LTrip P nid o ins S { p := ldPV P t (ps.drop off), rdB := [id], ok := ok } := by
  refine .still fun g S' ρ w hI hr hb => ?_
  have h1 := hr x (by simp [h, Op.operands])
  rw [hx] at h1
  obtain ⟨b, hb1, hv⟩ := h1.box_inv
  have ho' : S'.obj id = some ps := (hb id (by simp)).trans ho
  have hc := (hI.boxCells ho' hb1 (h1.box_ty hb1)).drop off
  rw [Nat.zero_add] at hc
  obtain ⟨v, h2, h3⟩ := run_load_of hc hk
  exact ⟨v, by simp [execOp, h, hv, Instr.loadAt, Instr.sureAddr, h2], h3⟩

theorem load_loc {t : TypeId} {x : Operand} {ps : List PV} (h : o.op = .load t x) (hx : ins x = .loc ps) (hk : ldOk P t ps) :
    LTrip P nid o ins S { p := ldPV P t ps, ok := ok } := by
  refine .still fun g S' ρ w hI hr hb => ?_
  have h1 := hr x (by simp [h, Op.operands])
  rw [hx] at h1
  obtain ⟨b, off, hv, hc⟩ := hI.locCells h1.loc_inv
  obtain ⟨v, h2, h3⟩ := run_load_of hc hk
  exact ⟨v, by simp [execOp, h, hv, Instr.loadAt, Instr.sureAddr, h2], h3⟩

theorem fld_some {t i fo ft : Nat} (h : fld P t i = some (fo, ft)) : ∃ fs f, P.underlying t = some (.struct fs) ∧ fs[i]? = some f ∧ f.offset = fo ∧ f.type = ft := by
  unfold fld at h
  split at h
  · rename_i fs hu
    cases hf : fs[i]? with
    | none => simp [hf] at h
    | some f => simp [hf] at h; exact ⟨fs, f, hu, hf, h.1, h.2⟩
  · simp at h

theorem run_fieldAt (w : World) {t i fo ft b off : Nat} (h : fld P t i = some (fo, ft)) (hz : 0 < tsz P ft) :
    (Instr.fieldAt t (.pointer (some ⟨b, off, none⟩)) i).run P w = .ok (.pointer (some ⟨b, off + fo, none⟩)) w := by
  obtain ⟨fs, f, hu, hf, rfl, rfl⟩ := fld_some h
  obtain ⟨n, hn⟩ : ∃ n, tsz P f.type = n + 1 := ⟨tsz P f.type - 1, by omega⟩
  simp [Instr.fieldAt, run_underlying hu, hf, Instr.sureAddr, fieldPlace, run_sizeOf w hn, Addr.add_lit]

theorem fieldAddr_box {t i fo ft : Nat} {x : Operand} {id off : Nat} (h : o.op = .fieldAddr t x i) (hx : ins x = .box id off) (hf : fld P t i = some (fo, ft)) (hz : 0 < tsz P ft) :
    LTrip P nid o ins S { p := .box id (off + fo), ok := ok } := by
  refine .still fun g S' ρ w hI hr hb => ?_
  have h1 := hr x (by simp [h, Op.operands])
  rw [hx] at h1
  obtain ⟨b, hb1, hv⟩ := h1.box_inv
  exact ⟨_, by simp [execOp, h, hv, run_fieldAt w hf hz], .box id (off + fo) b hb1 (h1.box_ty hb1)⟩

theorem PRel.loc_drop {h : HMap} {b off ps} (r : PRel h (.pointer (some ⟨b, off, none⟩)) (.loc ps)) (n : Nat) : PRel h (.pointer (some ⟨b, off + n, none⟩)) (.loc (ps.drop n)) := by
  cases r with
  | loc b off ps vals hh ho hp =>
    refine .loc b (off + n) (ps.drop n) (fun i => vals (n + i)) ?_ ?_ ?_
    · intro i hi; simp at hi; rw [Nat.add_assoc]; exact hh (n + i) (by omega)
    · intro i hi; simp at hi; exact ho (n + i) (by omega)
    · intro i p hi; rw [List.getElem?_drop] at hi; exact hp _ _ hi

theorem fieldAddr_loc {t i fo ft : Nat} {x : Operand} {ps : List PV} (h : o.op = .fieldAddr t x i) (hx : ins x = .loc ps) (hf : fld P t i = some (fo, ft)) (hz : 0 < tsz P ft) :
    LTrip P nid o ins S { p := .loc (ps.drop fo), ok := ok } := by
  refine .still fun g S' ρ w hI hr hb => ?_
  have h1 := hr x (by simp [h, Op.operands])
  rw [hx] at h1
  obtain ⟨b, off, hv, hc⟩ := hI.locCells h1.loc_inv
  have h2 := h1.loc_inv
  rw [hv] at h2
  exact ⟨_, by simp [execOp, h, hv, run_fieldAt w hf hz], .pure _ _ (h2.loc_drop fo)⟩

/-! ### An element's address -/
theorem indexAddr_arr {t n e : Nat} {x y : Operand} {id off : Nat} {k : IntKind} {i : Int} (h : o.op = .indexAddr t x y) (hx : ins x = .box id off) (hy : ins y = .int k i)
    (ht : tk P t = .arr n e) (hz : 0 < tsz P e) (h0 : 0 ≤ i) (h1 : i < n) : LTrip P nid o ins S { p := .box id (off + i.toNat * tsz P e), ok := ok } := by
  refine .still fun g S' ρ w hI hr hb => ?_
  have e1 := hr x (by simp [h, Op.operands])
  have e2 := hr y (by simp [h, Op.operands])
  rw [hx] at e1; rw [hy] at e2
  obtain ⟨b, hb1, hv⟩ := e1.box_inv
  have hi := e2.int_inv
  obtain ⟨m, hm⟩ : ∃ m, tsz P e = m + 1 := ⟨tsz P e - 1, by omega⟩
  refine ⟨.pointer (some ⟨b, off + i.toNat * tsz P e, none⟩), ?_, .box id _ b hb1 (e1.box_ty hb1)⟩
  simp [execOp, h, hv, hi, Instr.indexAt, asIntOf, run_underlying (tk_arr ht), Instr.sureAddr, run_sizeOf w hm, h0, h1, hm, Addr.add_lit]

theorem indexAddr_loc {t n e : Nat} {x y : Operand} {ps : List PV} {k : IntKind} {i : Int} (h : o.op = .indexAddr t x y) (hx : ins x = .loc ps) (hy : ins y = .int k i)
    (ht : tk P t = .arr n e) (hz : 0 < tsz P e) (h0 : 0 ≤ i) (h1 : i < n) : LTrip P nid o ins S { p := .loc (ps.drop (i.toNat * tsz P e)), ok := ok } := by
  refine .still fun g S' ρ w hI hr hb => ?_
  have e1 := hr x (by simp [h, Op.operands])
  have e2 := hr y (by simp [h, Op.operands])
  rw [hx] at e1; rw [hy] at e2
  obtain ⟨b, off, hv, hc⟩ := hI.locCells e1.loc_inv
  have e3 := e1.loc_inv
  rw [hv] at e3
  have hi := e2.int_inv
  obtain ⟨m, hm⟩ : ∃ m, tsz P e = m + 1 := ⟨tsz P e - 1, by omega⟩
  refine ⟨.pointer (some ⟨b, off + i.toNat * tsz P e, none⟩), ?_, .pure _ _ (e3.loc_drop _)⟩
  simp [execOp, h, hv, hi, Instr.indexAt, asIntOf, run_underlying (tk_arr ht), Instr.sureAddr, run_sizeOf w hm, h0, h1, hm, Addr.add_lit]

/-- The slice that a value is read as. -/
def PV.asl : PV → Option (Nat × List PV)
  | .sl sz es => some (sz, es)
  | .slt sz es _ => some (sz, es)
  | .sln sz es => some (sz, es)
  | _ => none

theorem Rel.asl {g : Gh} {v : Value} {p : PV} {sz : Nat} {es : List PV} (r : Rel g v p) (h : p.asl = some (sz, es)) : PRel g.h v (.sl sz es) := by
  cases p <;> simp [PV.asl] at h
  · obtain ⟨rfl, rfl⟩ := h; exact r.sl_inv
  · obtain ⟨rfl, rfl⟩ := h; exact r.slt_inv.1
  · obtain ⟨rfl, rfl⟩ := h; exact r.sln_inv.1

theorem indexAddr_sl {t e : Nat} {x y : Operand} {sz : Nat} {es : List PV} {k : IntKind} {i : Int} (h : o.op = .indexAddr t x y) (hx : (ins x).asl = some (sz, es)) (hy : ins y = .int k i)
    (ht : tk P t = .sl e) (hz : 0 < tsz P e) (hs : tsz P e = sz) (h0 : 0 ≤ i) (h1 : i < es.length) : LTrip P nid o ins S { p := .loc (es.getD i.toNat .any).cells, ok := ok } := by
  refine .still fun g S' ρ w hI hr hb => ?_
  have e1 := hr x (by simp [h, Op.operands])
  have e2 := hr y (by simp [h, Op.operands])
  rw [hy] at e2
  have hi := e2.int_inv
  obtain ⟨a, cap, hv, _, _, hsz, hnone, hsome⟩ := (e1.asl hx).sl_view
  obtain ⟨m, hm⟩ : ∃ m, tsz P e = m + 1 := ⟨tsz P e - 1, by omega⟩
  cases a with
  | none => obtain ⟨he, _⟩ := hnone rfl; subst he; simp at h1; omega
  | some a =>
    obtain ⟨hspot, vals, hh, ho, hp⟩ := hsome a rfl
    obtain ⟨b, off, spot⟩ := a
    have hspot : spot = none := by
      rcases hspot with h | ⟨h, -⟩
      · exact h
      · rw [h] at h1; simp at h1; omega
    subst hspot
    have hlt : i.toNat < es.length := by omega
    have hj : es[i.toNat]? = some (es.getD i.toNat .any) := by
      rw [List.getD_eq_getElem?_getD, List.getElem?_eq_getElem hlt]; rfl
    have hc := hsz _ (List.mem_of_getElem? hj)
    have hfl := flat_length hsz
    have hle : i.toNat * sz + sz ≤ es.length * sz := by
      have : (i.toNat + 1) * sz ≤ es.length * sz := Nat.mul_le_mul_right _ hlt
      rwa [Nat.add_mul, Nat.one_mul] at this
    refine ⟨.pointer (some ⟨b, off + i.toNat * sz, none⟩), ?_, .pure _ _ (.loc b _ _ (fun q => vals (i.toNat * sz + q)) ?_ ?_ ?_)⟩
    · simp [execOp, h, hv, hi, Instr.indexAt, asIntOf, run_underlying (tk_sl ht), run_sizeOf w hm, h0, h1, ← hs, hm, Addr.add_lit]
    · intro q hq; rw [Nat.add_assoc]; exact hh _ (by rw [hfl]; omega)
    · intro q hq; exact ho _ (by rw [hfl]; omega)
    · intro q p hq
      refine hp _ _ ?_
      rw [flat_get hsz hj (by rw [← hc]; exact (List.getElem?_eq_some_iff.1 hq).1)]
      exact hq

theorem indexAddr_slb {t e : Nat} {x y : Operand} {id off n cap : Nat} {k : IntKind} {i : Int} (h : o.op = .indexAddr t x y) (hx : ins x = .slb id off n cap) (hy : ins y = .int k i)
    (ht : tk P t = .sl e) (hz : 0 < tsz P e) (h0 : 0 ≤ i) (h1 : i < n) : LTrip P nid o ins S { p := .box id (off + i.toNat * tsz P e), ok := ok } := by
  refine .still fun g S' ρ w hI hr hb => ?_
  have e1 := hr x (by simp [h, Op.operands])
  have e2 := hr y (by simp [h, Op.operands])
  rw [hx] at e1; rw [hy] at e2
  obtain ⟨b, _, hb1, hv, _, _⟩ := e1.slb_inv
  have hi := e2.int_inv
  obtain ⟨m, hm⟩ : ∃ m, tsz P e = m + 1 := ⟨tsz P e - 1, by omega⟩
  refine ⟨.pointer (some ⟨b, off + i.toNat * tsz P e, none⟩), ?_, .box id _ b hb1 (e1.slb_ty hb1)⟩
  simp [execOp, h, hv, hi, Instr.indexAt, asIntOf, run_underlying (tk_sl ht), run_sizeOf w hm, h0, h1, hm, Addr.add_lit]
theorem indexAddr_slg {t e : Nat} {x y : Operand} {id n sz : Nat} {k : IntKind} {i : Int} (h : o.op = .indexAddr t x y) (hx : ins x = .slg id n sz) (hy : ins y = .int k i)
    (ht : tk P t = .sl e) (hz : 0 < tsz P e) (h0 : 0 ≤ i) (h1 : i < n) : LTrip P nid o ins S { p := .box id (i.toNat * tsz P e), ok := ok } := by
  refine .still fun g S' ρ w hI hr hb => ?_
  have e1 := hr x (by simp [h, Op.operands])
  have e2 := hr y (by simp [h, Op.operands])
  rw [hx] at e1; rw [hy] at e2
  obtain ⟨b, _, T, m0, hb1, hv, _, _, hty, _⟩ := e1.slg_inv
  have hi := e2.int_inv
  obtain ⟨m, hm⟩ : ∃ m, tsz P e = m + 1 := ⟨tsz P e - 1, by omega⟩
  refine ⟨.pointer (some ⟨b, i.toNat * tsz P e, none⟩), ?_, .box id _ b hb1 (by rw [hty]; simp)⟩
  simp [execOp, h, hv, hi, Instr.indexAt, asIntOf, run_underlying (tk_sl ht), run_sizeOf w hm, h0, h1, hm, Addr.add_lit]

/-! ### An element of a text, of an array; a field -/
theorem index_str {t : Nat} {x y : Operand} {s : List UInt8} {k : IntKind} {i : Int} (h : o.op = .index t x y) (hx : ins x = .str s) (hy : ins y = .int k i)
    (ht : tk P t = .str) (h0 : 0 ≤ i) (h1 : i < s.length) : LTrip P nid o ins S { p := .int .u8 ((s.getD i.toNat 0).toNat : Int), ok := ok } := by
  refine .still fun g S' ρ w hI hr hb => ?_
  have e1 := hr x (by simp [h, Op.operands])
  have e2 := hr y (by simp [h, Op.operands])
  rw [hx] at e1; rw [hy] at e2
  have hv := e1.str_inv
  have hi := e2.int_inv
  have hlt : i.toNat < s.length := by omega
  refine ⟨.int .u8 ((s.getD i.toNat 0).toNat : Int), ?_, .pure _ _ (by constructor)⟩
  have hg : (⟨⟨s⟩⟩ : ByteArray)[i.toNat]? = some (s.getD i.toNat 0) := by
    rw [getElem?_pos _ _ (by rw [size_mk]; exact hlt)]
    simp [List.getD_eq_getElem?_getD, hlt]
    rfl
  simp [execOp, h, hv, hi, Instr.index, asIntOf, run_underlying (tk_str ht), h0, hg]

theorem run_part (w : World) {t : TypeId} (vs : Array Value) (off : Nat) (hk : tk P t ≠ .other) (h0 : 0 < tsz P t) (hl : off + tsz P t ≤ vs.size) :
    (part t vs off).run P w = .ok (if (tk P t).isAgg then .agg (vs.extract off (off + tsz P t)) else vs.getD off undef) w := by
  obtain ⟨n, hn⟩ : ∃ n, tsz P t = n + 1 := ⟨tsz P t - 1, by omega⟩
  have hlt : off < vs.size := by omega
  by_cases ha : (tk P t).isAgg = true
  · simp [part, run_isAgg w hk, ha, run_sizeOf w hn, hn]
  · simp [part, run_isAgg w hk, ha, hlt]

theorem Rel.part {g : Gh} {vs : Array Value} {ps : List PV} (hn : vs.size = ps.length) (ho : ∀ (i : Nat) (v : Value), vs[i]? = some v → v.oneCell' = true)
    (hp : ∀ (i : Nat) (v : Value) (p : PV), vs[i]? = some v → ps[i]? = some p → Rel g v p) {t : TypeId} {off : Nat} (h0 : 0 < tsz P t) (hl : off + tsz P t ≤ ps.length) :
    Rel g (if (tk P t).isAgg then .agg (vs.extract off (off + tsz P t)) else vs.getD off undef) (ldPV P t (ps.drop off)) := by
  unfold ldPV
  by_cases ha : (tk P t).isAgg = true
  · simp only [ha, if_true]
    refine .agg _ _ (by simp; omega) ?_ ?_
    · intro i v hv
      rw [Array.getElem?_extract] at hv
      split at hv
      · exact ho _ _ hv
      · cases hv
    · intro i v p hv hq
      rw [Array.getElem?_extract] at hv
      rw [List.getElem?_take] at hq
      split at hv
      · rw [if_pos (by omega), List.getElem?_drop] at hq
        exact hp _ _ _ hv hq
      · cases hv
  · simp only [ha, if_false]
    have hlt : off < vs.size := by omega
    have h1 : vs[off]? = some (vs.getD off undef) := by simp [hlt]
    refine hp off _ _ h1 ?_
    rw [List.getD_eq_getElem?_getD, List.getElem?_drop, Nat.add_zero, List.getElem?_eq_getElem (by omega : off < ps.length)]
    rfl

theorem index_agg {t n e : Nat} {x y : Operand} {ps : List PV} {k : IntKind} {i : Int} (h : o.op = .index t x y) (hx : ins x = .agg ps) (hy : ins y = .int k i)
    (ht : tk P t = .arr n e) (he : tk P e ≠ .other) (hz : 0 < tsz P e) (h0 : 0 ≤ i) (h1 : i < n) (hl : i.toNat * tsz P e + tsz P e ≤ ps.length) :
    LTrip P nid o ins S { p := ldPV P e (ps.drop (i.toNat * tsz P e)), ok := ok } := by
  refine .still fun g S' ρ w hI hr hb => ?_
  have e1 := hr x (by simp [h, Op.operands])
  have e2 := hr y (by simp [h, Op.operands])
  rw [hx] at e1; rw [hy] at e2
  obtain ⟨vs, hv, hn, ho, hp⟩ := e1.agg_inv
  have hi := e2.int_inv
  obtain ⟨m, hm⟩ : ∃ m, tsz P e = m + 1 := ⟨tsz P e - 1, by omega⟩
  refine ⟨_, ?_, Rel.part (P := P) hn ho hp hz hl⟩
  have hpart := run_part (P := P) w vs (i.toNat * tsz P e) he hz (by rw [hn]; exact hl)
  simp only [execOp, h, hv, hi, Instr.index, asIntOf, Sem.run_bind, Sem.run_pure, Result.andThen_ok, run_underlying (tk_arr ht)]
  simp only [h0, h1, and_self, if_true, Sem.run_bind, run_sizeOf w hm, Result.andThen_ok]
  rw [← hm, hpart]
  rfl

theorem field_agg {t i fo ft : Nat} {x : Operand} {ps : List PV} (h : o.op = .field t x i) (hx : ins x = .agg ps) (hf : fld P t i = some (fo, ft)) (hk : tk P ft ≠ .other)
    (hz : 0 < tsz P ft) (hl : fo + tsz P ft ≤ ps.length) : LTrip P nid o ins S { p := ldPV P ft (ps.drop fo), ok := ok } := by
  refine .still fun g S' ρ w hI hr hb => ?_
  have e1 := hr x (by simp [h, Op.operands])
  rw [hx] at e1
  obtain ⟨vs, hv, hn, ho, hp⟩ := e1.agg_inv
  refine ⟨_, ?_, Rel.part (P := P) hn ho hp hz hl⟩
  obtain ⟨fs, f, hu, hfs, rfl, rfl⟩ := fld_some hf
  have hpart := run_part (P := P) w vs f.offset hk hz (by rw [hn]; exact hl)
  simp only [execOp, h, hv, Instr.field, Sem.run_bind, run_underlying hu, Result.andThen_ok, hfs, asAgg, Sem.run_pure, hpart]

theorem extract_tup {x : Operand} {i : Nat} {ps : List PV} {p : PV} (h : o.op = .extract x i) (hx : ins x = .tup ps) (hp : ps[i]? = some p) :
    LTrip P nid o ins S { p := p, ok := ok } := by
  refine .still fun g S' ρ w hI hr hb => ?_
  have e1 := hr x (by simp [h, Op.operands])
  rw [hx] at e1
  obtain ⟨vs, hv, hn, hq⟩ := e1.tup_inv
  have hlt : i < vs.size := by rw [hn]; exact (List.getElem?_eq_some_iff.1 hp).1
  have h1 : vs[i]? = some vs[i] := by simp [hlt]
  exact ⟨vs[i], by simp [execOp, h, hv, Instr.extract, h1], hq _ _ _ h1 hp⟩

theorem nilCheck_ok {x : Operand} {p : PV} (h : o.op = .nilCheck x) (hx : ins x = p) (hp : (∃ i j, p = .box i j) ∨ (∃ l, p = .loc l) ∨ ∃ f l, p = .fn f l) :
    LTrip P nid o ins S { p := p, ok := ok } := by
  refine .still fun g S' ρ w hI hr hb => ?_
  have e1 := hr x (by simp [h, Op.operands])
  rw [hx] at e1
  refine ⟨ρ x, ?_, e1⟩
  rcases hp with ⟨i, j, rfl⟩ | ⟨l, rfl⟩ | ⟨f, l, rfl⟩
  · obtain ⟨b, _, hv⟩ := e1.box_inv; simp [execOp, h, hv]
  · obtain ⟨b, off, hv, _⟩ := hI.locCells e1.loc_inv; simp [execOp, h, hv]
  · obtain ⟨vs, hv, _⟩ := e1.fn_inv; simp [execOp, h, hv]

theorem unop_not {t : Nat} {x : Operand} {b : Bool} (h : o.op = .unOp .not t x) (hx : ins x = .bool b) : LTrip P nid o ins S { p := .bool (!b), ok := ok } := by
  refine .still fun g S' ρ w hI hr hb => ?_
  have e1 := hr x (by simp [h, Op.operands])
  rw [hx] at e1
  exact ⟨.bool (!b), by simp [execOp, h, e1.bool_inv, Op.unary], .pure _ _ (by constructor)⟩
theorem unop_neg {t : Nat} {x : Operand} {k : IntKind} {n : Int} (h : o.op = .unOp .neg t x) (hx : ins x = .int k n) : LTrip P nid o ins S { p := .int k (k.wrap (0 - n)), ok := ok } := by
  refine .still fun g S' ρ w hI hr hb => ?_
  have e1 := hr x (by simp [h, Op.operands])
  rw [hx] at e1
  exact ⟨.int k (k.wrap (0 - n)), by simp [execOp, h, e1.int_inv, Op.unary, Op.intArith], .pure _ _ (by constructor)⟩
theorem unop_xor {t : Nat} {x : Operand} {k : IntKind} {n : Int} (h : o.op = .unOp .xor t x) (hx : ins x = .int k n) :
    LTrip P nid o ins S { p := .int k (bitsI .xor k (if k.signed then -1 else k.max) n), ok := ok } := by
  refine .still fun g S' ρ w hI hr hb => ?_
  have e1 := hr x (by simp [h, Op.operands])
  rw [hx] at e1
  exact ⟨.int k (bitsI .xor k (if k.signed then -1 else k.max) n), by simp [execOp, h, e1.int_inv, Op.unary, Op.intBits, bitsI], .pure _ _ (by constructor)⟩

/-! ### Conversions -/
theorem conv_int {s d : Nat} {x : Operand} {k k' : IntKind} {n : Int} (h : o.op = .convert s d x) (hx : ins x = .int k n) (hs : tk P s ≠ .other) (hd : tk P d = .int k') :
    LTrip P nid o ins S { p := .int k' (k'.wrap n), ok := ok } := by
  refine .still fun g S' ρ w hI hr hb => ?_
  have e1 := hr x (by simp [h, Op.operands])
  rw [hx] at e1
  obtain ⟨ds, hds⟩ := tk_some hs
  refine ⟨.int k' (k'.wrap n), ?_, .pure _ _ (by constructor)⟩
  simp [execOp, h, e1.int_inv, convert, run_underlying hds, run_underlying (tk_int hd), Conv.intToInt]
theorem conv_str {s d : Nat} {x : Operand} {b : List UInt8} (h : o.op = .convert s d x) (hx : ins x = .str b) (hs : tk P s = .str) (hd : tk P d = .str) :
    LTrip P nid o ins S { p := .str b, ok := ok } := by
  refine .still fun g S' ρ w hI hr hb => ?_
  have e1 := hr x (by simp [h, Op.operands])
  rw [hx] at e1
  refine ⟨.string ⟨⟨b⟩⟩, ?_, .pure _ _ (by constructor)⟩
  simp [execOp, h, e1.str_inv, convert, run_underlying (tk_str hs), run_underlying (tk_str hd)]

/-- The byte that an abstract value is. -/
def byteOf : PV → UInt8
  | .int _ n => UInt8.ofNat n.toNat
  | _ => 0
def isByte : PV → Bool
  | .int .u8 _ => true
  | _ => false

end
end Go.Pv
