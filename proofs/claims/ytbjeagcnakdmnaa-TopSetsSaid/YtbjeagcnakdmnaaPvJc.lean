/- Abstract values: slices that grow, made; a slice over a box is cleared. Nothing of any program. -/
import Derived.Test.YtbjeagcnakdmnaaPvJb
set_option linter.unusedSimpArgs false
set_option linter.unusedVariables false
set_option linter.unusedSectionVars false
namespace Go.Pv
variable [GTab]
section
variable {P : Program} {nid : Nat} {o : Oper} {ins : Operand → PV} {S : PS} {ok : Prop}
/-- Made empty, with room: it grows. -/
theorem makeSlice_boxg {t e sz : Nat} {x y : Operand} {k k' : IntKind} {c : Int} {zs : List PV} (ho : o.op = .makeSlice t x y) (hx : ins x = .int k 0) (hy : ins y = .int k' c)
    (ht : tk P t = .sl e) (hs : tsz P e = sz) (hpos : 0 < sz) (hz : zc P e = some zs) (hzl : zs.length = sz)
    (hnc : 0 ≤ c) (hby : (tby P e : Int) * c ≤ 281474976710656) (h63 : c ≤ 9223372036854775807) :
    LTrip P nid o ins S { p := .slg nid 0 sz, wr := [(nid, some [])], ok := ok } := by
  refine .of_run fun g S' ρ w hI hr _ hrt hf => ?_
  have e0 := hr x (by simp [ho, Op.operands])
  have e1 := hr y (by simp [ho, Op.operands])
  rw [hx] at e0; rw [hy] at e1
  obtain ⟨zi, z, hi, hz', hn, ho1, hp1⟩ := zc_spec hz
  have hbi : tby P e = zi.bytes := by simp [tby, hi]
  have hzi : zi.size = sz := by rw [← hs]; simp [tsz, hi]
  have hzc : z.cells.size = sz := by rw [hn, hzl]
  have hrun := run_make (P := P) w t e zi z (tk_sl ht) hi hz' k k' 0 c (Int.le_refl _) hnc (by rw [← hbi]; exact hby) h63
  have hms : (madeCells z.cells (c.toNat * zi.size)).size = c.toNat * sz := by simp [madeCells, hzi]
  have hmg : ∀ i, i < c.toNat * sz → (madeCells z.cells (c.toNat * zi.size))[i]? = z.cells[i % sz]? := by
    intro i hi'
    have hm : i % sz < z.cells.size := by rw [hzc]; exact Nat.mod_lt _ hpos
    simp [madeCells, hzi, hi', hzc, getElem!_pos, Nat.mod_lt _ hpos]
  have hlt : ∀ i (v : Value), (madeCells z.cells (c.toNat * zi.size))[i]? = some v → i < c.toNat * sz := by
    intro i v h; have := (Array.getElem?_eq_some_iff.1 h).1; omega
  obtain ⟨q1, q2, q3, q4⟩ := newBox (ps := []) hI hf (Pushed.alloc w (.cells (madeCells z.cells (c.toNat * zi.size)) e (0, 0)))
    (Nat.zero_le _)
    (fun i v hv => by rw [hmg i (hlt i v hv)] at hv; exact ho1 _ v hv)
    (fun i v p hv hp => by simp at hp)
    (δ := { p := .slg nid 0 sz, wr := [(nid, some [])], ok := ok }) rfl rfl
  refine ⟨.slice (some ⟨w.heap.size, 0, none⟩) 0 c.toNat, _, _, .inl ?_, q1, q2, q3, .slg nid _ _ c.toNat w.heap.size e (c.toNat * sz) (by show (if nid = nid then _ else _) = _; rw [if_pos rfl]) ?_ (Nat.zero_le _) (by rw [maxLen_eq]; omega) (Nat.le_refl _)⟩
  · simp [execOp, ho, e0.int_inv, e1.int_inv, hrun]
  · show (if w.heap.size = w.heap.size then _ else _) = _
    rw [if_pos rfl, hms]

/-- 'clear(s)' over a box: of the cells nothing is kept. -/
theorem clear_slb {t e sz : Nat} {x : Operand} {i off n : Nat} {ps zs : List PV} (ho : o.op = .call { callee := .builtin .clear, args := #[x], argTypes := #[t] })
    (hx : ins x = .slb i off n sz) (ht : tk P t = .sl e) (hz : zc P e = some zs) (hzl : zs.length = sz) (hob : S.obj i = some ps) (hl : off + n * sz ≤ ps.length) (hn0 : 0 < n) :
    LTrip P nid o ins S { p := .any, wr := [(i, some (setC ps off (List.replicate (n * sz) .any)))], rdB := [i], ok := ok } := by
  refine .of_run fun g S' ρ w hI hr hb _ _ => ?_
  have e1 := hr x (by simp [ho, Op.operands, Call.operands])
  rw [hx] at e1
  obtain ⟨b, cap, hb1, hv, hc1, hc2⟩ := e1.slb_inv
  have hob' : S'.obj i = some ps := (hb i (by simp)).trans hob
  obtain ⟨vals, T, fr, h2, hfr, h3, h4, h5, h6⟩ := hI.row hob' hb1 (e1.slb_ty hb1)
  obtain ⟨zi, z, hi, hz', hn, ho1, hp1⟩ := zc_spec hz
  have hzc : z.cells.size = sz := by rw [hn, hzl]
  obtain ⟨cs, hcs⟩ : ∃ cs, cs = (Builtin.zeroCells z.cells n).toList := ⟨_, rfl⟩
  have hcl : cs.length = n * sz := by rw [hcs, Array.length_toList, zeroCells_size, hzc]
  have hc1' : ∀ v ∈ cs, v.oneCell' = true := by
    intro v hv'
    rw [hcs] at hv'
    obtain ⟨j, hj⟩ := List.mem_iff_getElem?.1 hv'
    exact zeroCells_one ho1 n j v (by rw [← Array.getElem?_toList]; exact hj)
  have hfit : off + cs.length ≤ vals.size := by omega
  have hst := run_storeCells_fr (P := P) b off T fr cs 0 vals w h2 hfr (by simpa using hfit) hc1'
  have hrow := Rowed.setRow w (new := splice vals off cs) h2
  have hrel := storeBox hI hob' hb1 hrow hfr (ps' := setC ps off (List.replicate (n * sz) .any)) (by rw [splice_size hfit, setC_length (by simpa using hl)]; exact h3) (splice_size hfit)
    (fun q v hv' => by
      rw [splice_get hfit] at hv'
      split at hv'
      · exact hc1' v (List.mem_of_getElem? hv')
      · exact h4 q v hv')
    (fun q v p hv' hq => by
      rw [splice_get hfit, hcl] at hv'
      rw [setC_get (by simpa using hl), List.length_replicate] at hq
      split at hv'
      · rename_i e
        rw [if_pos e, List.getElem?_replicate] at hq
        split at hq
        · cases hq; exact .pure _ _ (.any v)
        · cases hq
      · rename_i e; rw [if_neg e] at hq; exact h5 q v p hv' hq)
    (δ := { p := .any, wr := [(i, some (setC ps off (List.replicate (n * sz) .any)))], rdB := [i], ok := ok }) rfl rfl
  refine ⟨.tuple #[], g, _, .inl ?_, hrel.1, hrel.2, fun _ _ h => h, .pure _ _ (.any _)⟩
  obtain ⟨m, rfl⟩ : ∃ m, n = m + 1 := ⟨n - 1, by omega⟩
  have hzv : (zeroValue e).run P w = .ok z w := by simp [zeroValue, typeInfo, hi, hz']
  simp only [Nat.add_zero] at hst
  subst hcs
  simp [execOp, ho, resolve, invoke, builtin, hv, Builtin.clear_, run_underlying (tk_sl ht), hzv, hst, splice]
end
end Go.Pv
