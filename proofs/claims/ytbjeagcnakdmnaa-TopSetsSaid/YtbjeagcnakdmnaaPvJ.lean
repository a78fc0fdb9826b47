/- Abstract values: append to nil, make, bytes as a text, tests against nil. Nothing of any program. -/
import Derived.Test.YtbjeagcnakdmnaaPvI
import Derived.Laws.CopyRow
import Derived.Laws.IdiomStrings
set_option linter.unusedSimpArgs false
set_option linter.unusedVariables false
set_option linter.unusedSectionVars false
namespace Go.Pv
variable [GTab]

section
variable {P : Program} {nid : Nat} {o : Oper} {ins : Operand → PV} {S : PS} {ok : Prop}

theorem append_nilsl {t xT e sz : Nat} {x y : Operand} {fs : List PV} {zs : List PV} (ho : o.op = .call { callee := .builtin .append, args := #[x, y], argTypes := #[t, xT] })
    (hx : ins x = .nilsl) (hy : (ins y).apd sz = some fs) (hT : apdT P xT (ins y)) (ht : tk P t = .sl e) (hs : tsz P e = sz) (hpos : 0 < sz) (hz : zc P e = some zs) (hzl : zs.length = sz)
    (hlen : fs.length ≤ maxLen) (hby : fs.length * tby P e ≤ 140737488355328) :
    LTrip P nid o ins S { p := .slt sz fs nid, tk := [(nid, true)], ok := ok } := by
  refine .of_run fun g S' ρ w hI hr _ hrt hf => ?_
  have e0 := hr x (by simp [ho, Op.operands, Call.operands])
  have e1 := hr y (by simp [ho, Op.operands, Call.operands])
  rw [hx] at e0
  have hv := e0.nilsl_inv
  obtain ⟨⟨news, hsrc, hnr⟩, hfsz⟩ := apd_src (P := P) hI e1 hy hT
  obtain ⟨zi, z, hi, hz', hn, ho1, hp1⟩ := zc_spec hz
  have hbi : tby P e = zi.bytes := by simp [tby, hi]
  have hzc : z.cells.size = sz := by rw [hn, hzl]
  have hexec : ∀ r w', (Builtin.append_ #[t, xT] o.type #[ρ x, ρ y]).run P w = .ok r w' → (execOp ρ o).run P w = .ok (.value r) w' := by
    intro r w' h
    simp [execOp, ho, resolve, invoke, builtin, h]
  by_cases hm : fs.length = 0
  · have hf0 : fs = [] := List.eq_nil_of_length_eq_zero hm
    subst hf0
    obtain ⟨h1, h2, h3⟩ := emptyTok hI hf (δ := { p := .slt sz [] nid, tk := [(nid, true)], ok := ok }) rfl ⟨[], rfl, by simp⟩
    refine ⟨_, _, _, .inl (hexec _ _ ?_), h1, h2, h3, .slt _ _ _ _ (.slnil sz) (fun b lo hi h => by simp [spare] at h)⟩
    rw [hv]
    exact run_append_nil0 w ht hs hpos hsrc (Nat.le_refl _)
  · have hgr := run_append_grow' (P := P) (ty := o.type) w ht hs hpos hsrc hi hz' (a := none) (n := 0) (cap := 0) (olds := []) (fun w' hw' => by simp [Builtin.firstCells]) (by omega) (by omega) (by rw [← hbi, Nat.zero_add]; exact hby)
    rw [Nat.zero_add] at hgr
    obtain ⟨g', h1, h2, h3, h4, -⟩ := append_new (nid := nid) (es := []) (fs := fs) (olds := []) hI hf (e := e) (sz := sz) (cap := grownCap w fs.length 0 e) (z := z.cells) (w' := w.drew.alloc (.cells (([] : List Value).toArray ++ news.toArray ++ Builtin.zeroCells z.cells (grownCap w fs.length 0 e - fs.length)) e))
      (by simp only [List.length_nil, Nat.zero_add]; exact Pushed.drew_alloc w _) (by simp only [List.length_nil, Nat.zero_add]; exact grownCap_ge w _ _ e) (grownCap_le_maxLen w _ _ e hlen) (by simp) hfsz hzc ho1
      (by simp) hsrc.len (by simp) hsrc.one (by simp) hnr (δ := { p := .slt sz fs nid, tk := [(nid, true)], ok := ok }) rfl ⟨[], rfl, by simp⟩
    simp only [List.length_nil, Nat.zero_add, List.nil_append] at h4
    exact ⟨_, g', _, .inl (hexec _ _ (by rw [hv]; exact hgr)), h1, h2, h3, h4⟩

theorem len_sl0 {t e sz : Nat} {x : Operand} (ho : o.op = .call { callee := .builtin .len, args := #[x], argTypes := #[t] }) (hx : ins x = .sl0 sz) (ht : tk P t = .sl e) :
    LTrip P nid o ins S { p := .int .i64 0, ok := ok } := by
  refine .still fun g S' ρ w hI hr hb => ?_
  have e0 := hr x (by simp [ho, Op.operands, Call.operands])
  rw [hx] at e0
  obtain ⟨b, off, hv⟩ := e0.sl0_inv
  refine ⟨.int .i64 0, ?_, .pure _ _ (.int _ _)⟩
  simp [execOp, ho, resolve, invoke, builtin, hv, Builtin.len_, Builtin.lenOf, run_underlying (tk_sl ht), goInt]

theorem flatMap_replicate {q : PV} : ∀ n : Nat, (List.replicate n q).flatMap PV.cells = (List.replicate n q.cells).flatten
  | 0 => rfl
  | n + 1 => by rw [List.replicate_succ, List.flatMap_cons, flatMap_replicate n, List.replicate_succ, List.flatten_cons]

theorem flatten_replicate_get {α : Type} {xs : List α} (h : 0 < xs.length) : ∀ (n i : Nat), i < n * xs.length → (List.replicate n xs).flatten[i]? = xs[i % xs.length]?
  | 0, i, hi => by omega
  | n + 1, i, hi => by
    rw [List.replicate_succ, List.flatten_cons]
    by_cases c : i < xs.length
    · rw [List.getElem?_append_left c, Nat.mod_eq_of_lt c]
    · rw [List.getElem?_append_right (by omega), flatten_replicate_get h n (i - xs.length) (by rw [Nat.add_mul] at hi; omega)]
      congr 1
      rw [Nat.mod_eq_sub_mod (by omega : i ≥ xs.length)]

/-- The element of zero values. -/
def zel (P : Program) (e : TypeId) (zs : List PV) : PV := if (tk P e).isAgg then .agg zs else zs.getD 0 .any

theorem makeSlice_ok {t e sz : Nat} {x y : Operand} {k k' : IntKind} {n c : Int} {zs : List PV} (ho : o.op = .makeSlice t x y) (hx : ins x = .int k n) (hy : ins y = .int k' c)
    (ht : tk P t = .sl e) (hs : tsz P e = sz) (hpos : 0 < sz) (hz : zc P e = some zs) (hzl : zs.length = sz) (h1 : (tk P e).isAgg = true ∨ sz = 1)
    (h0 : 0 ≤ n) (hnc : n ≤ c) (hby : (tby P e : Int) * c ≤ 281474976710656) (h63 : c ≤ 9223372036854775807) (hqq : (zel P e zs).cells = zs) :
    LTrip P nid o ins S { p := .slt sz (List.replicate n.toNat (zel P e zs)) nid, tk := [(nid, true)], ok := ok } := by
  refine .of_run fun g S' ρ w hI hr _ hrt hf => ?_
  have e0 := hr x (by simp [ho, Op.operands])
  have e1 := hr y (by simp [ho, Op.operands])
  rw [hx] at e0; rw [hy] at e1
  obtain ⟨zi, z, hi, hz', hn, ho1, hp1⟩ := zc_spec hz
  have hbi : tby P e = zi.bytes := by simp [tby, hi]
  have hzi : zi.size = sz := by rw [← hs]; simp [tsz, hi]
  have hzc : z.cells.size = sz := by rw [hn, hzl]
  have hrun := run_make (P := P) w t e zi z (tk_sl ht) hi hz' k k' n c h0 hnc (by rw [← hbi]; exact hby) h63
  have hms : (madeCells z.cells (c.toNat * zi.size)).size = c.toNat * sz := by simp [madeCells, hzi]
  have hmg : ∀ i, i < c.toNat * sz → (madeCells z.cells (c.toNat * zi.size))[i]? = z.cells[i % sz]? := by
    intro i hi'
    have hm : i % sz < z.cells.size := by rw [hzc]; exact Nat.mod_lt _ hpos
    simp [madeCells, hzi, hi', hzc, getElem!_pos, Nat.mod_lt _ hpos]
  have hlt : ∀ i (v : Value), (madeCells z.cells (c.toNat * zi.size))[i]? = some v → i < c.toNat * sz := by
    intro i v h; have := (Array.getElem?_eq_some_iff.1 h).1; omega
  obtain ⟨g', q1, q2, q3, q4, -⟩ := mkRowOf (nid := nid) (es := List.replicate n.toNat (zel P e zs)) (n := n.toNat) (cap := c.toNat) (m := n.toNat * sz) (sz := sz) hI hf (Pushed.alloc w (.cells (madeCells z.cells (c.toNat * zi.size)) e (0, 0)))
    (by simp) (by omega) (by rw [maxLen_eq]; omega) (fun p hp => by rw [List.eq_of_mem_replicate hp, hqq, hzl]) rfl hms
    (fun i v hv => by rw [hmg i (hlt i v hv)] at hv; exact ho1 _ v hv)
    (fun i v p hv hp => by
      rw [hmg i (hlt i v hv)] at hv
      have hi' := (List.getElem?_eq_some_iff.1 hp).1
      rw [flatMap_replicate, hqq] at hp
      rw [flatten_replicate_get (by omega) _ _ (by rw [flatMap_replicate, hqq] at hi'; simpa [hzl] using hi'), hzl] at hp
      exact hp1 _ _ v p hv hp)
    (δ := { p := .slt sz (List.replicate n.toNat (zel P e zs)) nid, tk := [(nid, true)], ok := ok }) rfl ⟨[], rfl, by simp⟩
  refine ⟨_, g', _, .inl ?_, q1, q2, q3, q4⟩
  simp [execOp, ho, e0.int_inv, e1.int_inv, hrun]

/-- Made as a box: its elements may be written. -/
theorem makeSlice_box {t e sz : Nat} {x y : Operand} {k k' : IntKind} {n c : Int} {zs : List PV} (ho : o.op = .makeSlice t x y) (hx : ins x = .int k n) (hy : ins y = .int k' c)
    (ht : tk P t = .sl e) (hs : tsz P e = sz) (hpos : 0 < sz) (hz : zc P e = some zs) (hzl : zs.length = sz)
    (h0 : 0 ≤ n) (hnc : n ≤ c) (hby : (tby P e : Int) * c ≤ 281474976710656) (h63 : c ≤ 9223372036854775807) :
    LTrip P nid o ins S { p := .slb nid 0 n.toNat sz, wr := [(nid, some (List.replicate c.toNat zs).flatten)], ok := ok } := by
  refine .of_run fun g S' ρ w hI hr _ hrt hf => ?_
  have e0 := hr x (by simp [ho, Op.operands])
  have e1 := hr y (by simp [ho, Op.operands])
  rw [hx] at e0; rw [hy] at e1
  obtain ⟨zi, z, hi, hz', hn, ho1, hp1⟩ := zc_spec hz
  have hbi : tby P e = zi.bytes := by simp [tby, hi]
  have hzi : zi.size = sz := by rw [← hs]; simp [tsz, hi]
  have hzc : z.cells.size = sz := by rw [hn, hzl]
  have hrun := run_make (P := P) w t e zi z (tk_sl ht) hi hz' k k' n c h0 hnc (by rw [← hbi]; exact hby) h63
  have hms : (madeCells z.cells (c.toNat * zi.size)).size = c.toNat * sz := by simp [madeCells, hzi]
  have hmg : ∀ i, i < c.toNat * sz → (madeCells z.cells (c.toNat * zi.size))[i]? = z.cells[i % sz]? := by
    intro i hi'
    have hm : i % sz < z.cells.size := by rw [hzc]; exact Nat.mod_lt _ hpos
    simp [madeCells, hzi, hi', hzc, getElem!_pos, Nat.mod_lt _ hpos]
  have hlt : ∀ i (v : Value), (madeCells z.cells (c.toNat * zi.size))[i]? = some v → i < c.toNat * sz := by
    intro i v h; have := (Array.getElem?_eq_some_iff.1 h).1; omega
  obtain ⟨q1, q2, q3, q4⟩ := newBox (ps := (List.replicate c.toNat zs).flatten) hI hf (Pushed.alloc w (.cells (madeCells z.cells (c.toNat * zi.size)) e (0, 0)))
    (by rw [hms]; simp [hzl])
    (fun i v hv => by rw [hmg i (hlt i v hv)] at hv; exact ho1 _ v hv)
    (fun i v p hv hp => by
      have hl := hlt i v hv
      rw [hmg i hl] at hv
      rw [flatten_replicate_get (by omega) _ _ (by rw [hzl]; exact hl), hzl] at hp
      exact .pure _ _ (hp1 _ _ v p hv hp))
    (δ := { p := .slb nid 0 n.toNat sz, wr := [(nid, some (List.replicate c.toNat zs).flatten)], ok := ok }) rfl rfl
  refine ⟨.slice (some ⟨w.heap.size, 0, none⟩) n.toNat c.toNat, _, _, .inl ?_, q1, q2, q3, .slb nid 0 _ _ c.toNat w.heap.size (by show (if nid = nid then _ else _) = _; rw [if_pos rfl]) ((q4 0).box_ty (by show (if nid = nid then _ else _) = _; rw [if_pos rfl])) (by omega) (by rw [maxLen_eq]; omega)⟩
  simp [execOp, ho, e0.int_inv, e1.int_inv, hrun]

theorem conv_bytes {s d e u : Nat} {x : Operand} {es : List PV} (h : o.op = .convert s d x) (hx : (ins x).asl = some (1, es)) (hs : tk P s = .sl e) (he : tk P e = .int .u8) (hd : tk P d = .str) (hb : (es.all isByte) = true) :
    LTrip P nid o ins S { p := .str (es.map byteOf), ok := ok } := by
  refine .still fun g S' ρ w hI hr hb' => ?_
  have e0 := (hr x (by simp [h, Op.operands])).asl hx
  obtain ⟨a, cap, hv, hcap, hmax, hsz, hnone, hsome⟩ := e0.sl_view
  refine ⟨.string ⟨⟨es.map byteOf⟩⟩, ?_, .pure _ _ (by constructor)⟩
  have hc : (execOp ρ o).run P w = ((Conv.bytesToString (.slice a es.length cap)).run P w).andThen fun v w' => .ok (.value v) w' := by
    simp [execOp, h, hv, run_convert_bytes_string w s d e a es.length cap (tk_sl hs) (tk_int he) (tk_str hd)]
  rw [hc]
  cases a with
  | none =>
    obtain ⟨rfl, rfl⟩ := hnone rfl
    simp [Conv.bytesToString]
    rfl
  | some a =>
    obtain ⟨hspot, vals, hh, ho, hp⟩ := hsome a rfl
    by_cases hc0 : es = [] ∧ cap = 0
    · obtain ⟨rfl, rfl⟩ := hc0
      have hld : (loadCells a 0).run P w = .ok ([] : List Value).toArray w := by simp [loadCells, loadCellsFrom]
      rw [show ([] : List PV).length = 0 from rfl, run_bytesToString w a 0 0 [] hld]
      rfl
    obtain ⟨b, off, spot⟩ := a
    replace hspot : spot = none := hspot.resolve_right hc0
    subst hspot
    have hfl := flat_length hsz
    rw [Nat.mul_one] at hfl
    have hcell : ∀ i (p : PV), es[i]? = some p → ∃ n, p = .int .u8 n ∧ vals i = .int .u8 n := by
      intro i p hi
      have hbp := List.all_eq_true.1 hb p (List.mem_of_getElem? hi)
      cases p <;> simp [isByte] at hbp
      rename_i k n
      cases k <;> simp at hbp
      have hg := flat_get hsz hi (show 0 < 1 by omega)
      simp only [Nat.mul_one, Nat.add_zero, PV.cells, List.getElem?_cons_zero] at hg
      have := hp i _ hg
      cases hv' : vals i <;> rw [hv'] at this <;> cases this
      exact ⟨n, rfl, rfl⟩
    have hld : (loadCells ⟨b, off, none⟩ es.length).run P w = .ok ((es.map fun p => match p with | .int _ n => n | _ => 0).map (Value.int .u8)).toArray w := by
      rw [run_loadCells w ⟨b, off, none⟩ es.length vals (fun j hj => by rw [Addr.add_lit]; exact hI.cell (hh j (by rw [hfl]; exact hj)) (ho j (by rw [hfl]; exact hj)))]
      congr 2
      apply List.ext_getElem?
      intro i
      rw [List.getElem?_map, List.map_map, List.getElem?_map]
      by_cases hi : i < es.length
      · have hq := List.getElem?_eq_getElem hi
        obtain ⟨n, h1, h2⟩ := hcell i _ hq
        rw [hq]
        simp [List.getElem?_range, hi, h2, h1]
      · simp [List.getElem?_range, hi, List.getElem?_eq_none (Nat.le_of_not_lt hi)]
    rw [run_bytesToString w ⟨b, off, none⟩ es.length cap _ hld]
    simp only [Result.andThen]
    congr 3
    have hf : ∀ (l : List PV) (acc : ByteArray), (l.map fun p => match p with | .int _ n => n | _ => (0 : Int)).foldl (fun r n => r.push (UInt8.ofNat n.toNat)) acc = acc ++ ⟨⟨l.map byteOf⟩⟩ := by
      intro l
      induction l with
      | nil => intro acc; apply ByteArray.ext; simp [ByteArray.data_append]
      | cons p l ih =>
        intro acc
        rw [List.map_cons, List.foldl_cons, ih]
        have hbo : byteOf p = UInt8.ofNat (match p with | .int _ n => n | _ => (0 : Int)).toNat := by cases p <;> rfl
        apply ByteArray.ext
        apply Array.ext'
        simp [ByteArray.data_append, ByteArray.data_push, hbo]
    rw [hf]
    apply ByteArray.ext
    simp [ByteArray.data_append]

/-- A text's bytes, as cells. -/
def byL (s : List UInt8) : List PV := s.map fun b => .int .u8 (b.toNat : Int)
theorem byL_length (s : List UInt8) : (byL s).length = s.length := List.length_map _
/-- The text of bytes that lie in a box. -/
theorem conv_slb {s d e id off n : Nat} {x : Operand} {ps : List PV} (h : o.op = .convert s d x) (hx : ins x = .slb id off n 1) (hob : S.obj id = some ps) (hs : tk P s = .sl e) (he : tk P e = .int .u8) (hd : tk P d = .str) (hl : off + n ≤ ps.length)
    (hb : (((ps.drop off).take n).all isByte) = true) : LTrip P nid o ins S { p := .str (((ps.drop off).take n).map byteOf), rdB := [id], ok := ok } := by
  refine .still fun g S' ρ w hI hr hb' => ?_
  have e0 := hr x (by simp [h, Op.operands])
  rw [hx] at e0
  obtain ⟨b, cap, hb1, hv, hcap, hmax⟩ := e0.slb_inv
  have ho' : S'.obj id = some ps := (hb' id (by simp)).trans hob
  have hcs := hI.boxCells ho' hb1 (e0.slb_ty hb1)
  generalize hes : (ps.drop off).take n = es at hb ⊢
  have hen : es.length = n := by rw [← hes, List.length_take, List.length_drop]; omega
  have hat : ∀ i (p : PV), es[i]? = some p → ps[off + i]? = some p := by
    intro i p hi
    rw [← hes, List.getElem?_take] at hi
    split at hi
    · rw [List.getElem?_drop] at hi; exact hi
    · cases hi
  refine ⟨.string ⟨⟨es.map byteOf⟩⟩, ?_, .pure _ _ (by constructor)⟩
  have hc : (execOp ρ o).run P w = ((Conv.bytesToString (.slice (some ⟨b, off, none⟩) n cap)).run P w).andThen fun v w' => .ok (.value v) w' := by
    simp [execOp, h, hv, run_convert_bytes_string w s d e (some ⟨b, off, none⟩) n cap (tk_sl hs) (tk_int he) (tk_str hd)]
  rw [hc]
  have hcell : ∀ i (p : PV), es[i]? = some p → ∃ m, p = .int .u8 m ∧ w.cell? ⟨b, off + i, none⟩ = some (.int .u8 m) := by
    intro i p hi
    have hbp := List.all_eq_true.1 hb p (List.mem_of_getElem? hi)
    cases p <;> simp [isByte] at hbp
    rename_i k m
    cases k <;> simp at hbp
    obtain ⟨v, h1, h2, h3⟩ := hcs (off + i) _ (hat i _ hi)
    rw [Nat.zero_add] at h1
    have := h3.int_inv
    subst this
    exact ⟨m, rfl, h1⟩
  obtain ⟨f, hf⟩ : ∃ f : Nat → Value, ∀ i, i < n → w.cell? ⟨b, off + i, none⟩ = some (f i) ∧ ∃ m, es[i]? = some (.int .u8 m) ∧ f i = .int .u8 m := by
    refine ⟨fun i => (w.cell? ⟨b, off + i, none⟩).getD (.bool false), fun i hi => ?_⟩
    have hq := List.getElem?_eq_getElem (l := es) (i := i) (by omega)
    obtain ⟨m, h1, h2⟩ := hcell i _ hq
    exact ⟨by show _ = some ((w.cell? _).getD _); rw [h2]; rfl, m, by rw [hq, h1], by show (w.cell? _).getD _ = _; rw [h2]; rfl⟩
  have hld : (loadCells ⟨b, off, none⟩ n).run P w = .ok ((es.map fun p => match p with | .int _ n => n | _ => 0).map (Value.int .u8)).toArray w := by
    rw [run_loadCells w ⟨b, off, none⟩ n f (fun j hj => by rw [Addr.add_lit]; exact (hf j hj).1)]
    congr 2
    apply List.ext_getElem?
    intro i
    rw [List.getElem?_map, List.map_map, List.getElem?_map]
    by_cases hi : i < n
    · obtain ⟨-, m, h1, h2⟩ := hf i hi
      rw [h1]
      simp [List.getElem?_range, hi, h2]
    · simp [List.getElem?_range, hi, List.getElem?_eq_none (show es.length ≤ i by omega)]
  rw [run_bytesToString w ⟨b, off, none⟩ n cap _ hld]
  simp only [Result.andThen]
  congr 3
  have hfo : ∀ (l : List PV) (acc : ByteArray), (l.map fun p => match p with | .int _ n => n | _ => (0 : Int)).foldl (fun r n => r.push (UInt8.ofNat n.toNat)) acc = acc ++ ⟨⟨l.map byteOf⟩⟩ := by
    intro l
    induction l with
    | nil => intro acc; apply ByteArray.ext; simp [ByteArray.data_append]
    | cons p l ih =>
      intro acc
      rw [List.map_cons, List.foldl_cons, ih]
      have hbo : byteOf p = UInt8.ofNat (match p with | .int _ n => n | _ => (0 : Int)).toNat := by cases p <;> rfl
      apply ByteArray.ext
      apply Array.ext'
      simp [ByteArray.data_append, ByteArray.data_push, hbo]
  rw [hfo]
  apply ByteArray.ext
  simp [ByteArray.data_append]

/-- 'S{}': a slice without room. -/
theorem buildSlice0 {t e sz : Nat} {parts : Array (Nat × Operand)} (ho : o.op = .buildSlice t 0 parts) (hp : parts.toList = []) (ht : tk P t = .sl e) (hsz : tsz P e = sz) (hpos : 0 < sz) {zs : List PV} (hz : zc P e = some zs) (hzl : zs.length = sz) :
    LTrip P nid o ins S { p := .sl0 sz, tk := [(nid, true)], ok := ok } := by
  refine .of_run fun g S' ρ w hI hr _ _ hf => ?_
  obtain ⟨i, z, hi, hz', hn, ho1, hp1⟩ := zc_spec hz
  have hpe : parts = #[] := by apply Array.ext'; simpa using hp
  subst hpe
  obtain ⟨g', h1, h2, h3, h4, -⟩ := mkRowOf (nid := nid) (e := e) (sz := sz) (n := 0) (cap := 0) (m := 0) (es := []) (vals := #[]) hI hf (Pushed.alloc w (.cells #[] e (0, 0))) rfl (Nat.le_refl _)
    (Nat.zero_le _) (by simp) (by simp) (by simp) (by simp) (by simp)
    (δ := { p := .sl0 sz, tk := [(nid, true)], ok := ok }) rfl ⟨[], rfl, by simp⟩
  refine ⟨.slice (some ⟨w.heap.size, 0, none⟩) 0 0, g', _, .inl ?_, h1, h2, h3, .pure _ _ (.sl0 _ _ _)⟩
  obtain ⟨m, hm⟩ : ∃ m, tsz P e = m + 1 := ⟨tsz P e - 1, by omega⟩
  have hzv : (zeroValue e).run P w = .ok z w := by simp [zeroValue, typeInfo, hi, hz']
  simp [execOp, ho, Instr.buildSlice, run_underlying (tk_sl ht), run_sizeOf w hm, Instr.fill, Go.newRow]
  congr 2
  apply Array.ext_getElem?
  intro i
  simp [Array.getElem?_eq_none]

/-- An append to a slice without room: a row of its own, or nothing. -/
def sl0Dl (nid sz : Nat) (fs : List PV) : Dl :=
  match fs with
  | [] => { p := .sl0 sz, ok := True }
  | fs => { p := .slb nid 0 fs.length sz, wr := [(nid, some (fs.flatMap PV.cells))], ok := True }

theorem append_sl0 {t xT e sz : Nat} {x y : Operand} {fs : List PV} {zs : List PV} (ho : o.op = .call { callee := .builtin .append, args := #[x, y], argTypes := #[t, xT] })
    (hx : ins x = .sl0 sz) (hy : (ins y).apd sz = some fs) (hT : apdT P xT (ins y)) (ht : tk P t = .sl e) (hs : tsz P e = sz) (hpos : 0 < sz) (hz : zc P e = some zs) (hzl : zs.length = sz)
    (hlen : fs.length ≤ maxLen) (hby : fs.length * tby P e ≤ 140737488355328) :
    LTrip P nid o ins S { sl0Dl nid sz fs with ok := ok } := by
  refine .of_run fun g S' ρ w hI hr _ hrt hf => ?_
  have e0 := hr x (by simp [ho, Op.operands, Call.operands])
  have e1 := hr y (by simp [ho, Op.operands, Call.operands])
  rw [hx] at e0
  obtain ⟨b, off, hv⟩ := e0.sl0_inv
  obtain ⟨⟨news, hsrc, hnr⟩, hfsz⟩ := apd_src (P := P) hI e1 hy hT
  obtain ⟨zi, z, hi, hz', hn, ho1, hp1⟩ := zc_spec hz
  have hbi : tby P e = zi.bytes := by simp [tby, hi]
  have hzc : z.cells.size = sz := by rw [hn, hzl]
  have hexec : ∀ r w', (Builtin.append_ #[t, xT] o.type #[ρ x, ρ y]).run P w = .ok r w' → (execOp ρ o).run P w = .ok (.value r) w' := by
    intro r w' h
    simp [execOp, ho, resolve, invoke, builtin, h]
  cases fs with
  | nil =>
    refine ⟨_, g, w, .inl (hexec (.slice (some ⟨b, off, none⟩) 0 0) w ?_), by simpa [PS.app, sl0Dl] using hI, by simpa [PS.app, sl0Dl] using Ext.refl g S' w, fun _ _ h => h, .pure _ _ (.sl0 _ _ _)⟩
    obtain ⟨i, hi'⟩ : ∃ i, tsz P e = i + 1 := ⟨tsz P e - 1, by omega⟩
    have hff := hsrc.hf w rfl
    rw [show tsz P e = sz from hs] at hi'
    rw [hi'] at hff
    have hsz : (sizeOf e).run P w = .ok (i + 1) w := run_sizeOf w (by rw [hs, hi'])
    have hff' : (Builtin.firstCells (i + 1) 0 (ρ y)).run P w = .ok news.toArray w := hff
    have hn0 : news = [] := List.eq_nil_of_length_eq_zero (by have := hsrc.len; simpa using this)
    subst hn0
    rcases hsrc.ht with hd | ⟨e', hd⟩ <;> simp [hv, Builtin.append_, run_underlying (tk_sl ht), hsz, run_underlying hd, hsrc.hl, hff'] <;> simp [storeCells]
  | cons f fs =>
    generalize hgs : f :: fs = gs at *
    have hgl : 0 < gs.length := by rw [← hgs]; simp
    have hgr := run_append_grow' (P := P) (ty := o.type) w ht hs hpos hsrc hi hz' (a := some ⟨b, off, none⟩) (n := 0) (cap := 0) (olds := []) (fun w' hw' => by simp [Builtin.firstCells]; rfl) (by omega) (by omega) (by rw [← hbi, Nat.zero_add]; exact hby)
    rw [Nat.zero_add] at hgr
    have hδ : sl0Dl nid sz gs = { p := .slb nid 0 gs.length sz, wr := [(nid, some (gs.flatMap PV.cells))], ok := True } := by rw [← hgs]; rfl
    rw [hδ]
    have hff := flat_length hfsz
    have hnl := hsrc.len
    obtain ⟨q1, q2, q3, q4⟩ := newBox (nid := nid) (ps := gs.flatMap PV.cells) hI hf (Pushed.drew_alloc w (.cells (([] : List Value).toArray ++ news.toArray ++ Builtin.zeroCells z.cells (grownCap w gs.length 0 e - gs.length)) e (0, 0)))
      (by simp only [Array.size_append, List.size_toArray, List.length_nil, Nat.zero_add]; rw [hff, ← hnl]; exact Nat.le_add_right _ _)
      (by
        intro i v hv'
        have hm := Array.mem_of_getElem? hv'
        simp only [Array.mem_append] at hm
        rcases hm with (hm | hm) | hm
        · simp at hm
        · exact hsrc.one v (by simpa using hm)
        · obtain ⟨j, hj⟩ := Array.mem_iff_getElem?.1 hm
          exact zeroCells_one ho1 _ j v hj)
      (by
        intro i v p hv' hp'
        have hlt : i < news.length := by
          have := (List.getElem?_eq_some_iff.1 hp').1
          rw [hff] at this; omega
        refine .pure _ _ (hnr i v p ?_ hp')
        rw [Array.getElem?_append_left (by simp; omega), Array.getElem?_append_right (by simp)] at hv'
        simpa using hv')
      (δ := { p := .slb nid 0 gs.length sz, wr := [(nid, some (gs.flatMap PV.cells))], ok := ok }) rfl rfl
    refine ⟨_, _, _, .inl (hexec _ _ (by rw [hv]; exact hgr)), q1, q2, q3, .slb nid 0 _ _ _ w.heap.size (by show (if nid = nid then _ else _) = _; rw [if_pos rfl]) ((q4 0).box_ty (by show (if nid = nid then _ else _) = _; rw [if_pos rfl])) (grownCap_ge w _ _ e) (grownCap_le_maxLen w _ _ e hlen)⟩

theorem run_copy_fr {P : Program} (w : World) (dT sT ty elem : TypeId) (g o dLen dCap : Nat) (a : Addr) (sLen sCap : Nat) (cur : Array Value) (t : TypeId) (fr : Nat × Nat) (cs : List Value)
    (hu : P.underlying dT = some (.slice elem)) (hs : (P.info? elem).map (·.size) = some 1)
    (hg : w.heap[g]? = some (.cells cur t fr)) (hf : FrOk fr cur.size) (hn : cs.length = Nat.min sLen dLen)
    (hsrc : ∀ j v, cs[j]? = some v → w.cell? (a.add j) = some v) (hfit : o + cs.length ≤ cur.size) (h1 : ∀ v ∈ cs, v.oneCell' = true) :
    (Builtin.copy_ #[dT, sT] ty #[.slice (some ⟨g, o, none⟩) dLen dCap, .slice (some a) sLen sCap]).run P w =
      .ok (goInt cs.length) (w.setRow g (cur.toList.take o ++ cs ++ cur.toList.drop (o + cs.length)).toArray) := by
  have hl := run_loadCells_list (P := P) w a cs hsrc
  have hst := run_storeCells_fr (P := P) g o t fr cs 0 cur w hg hf (by simpa using hfit) h1
  cases hq : P.info? elem with
  | none => simp [hq] at hs
  | some i =>
    have hi : i.size = 1 := by simpa [hq] using hs
    simp [Builtin.copy_, run_underlying hu, Builtin.lenOf, Builtin.firstCells, sizeOf, typeInfo, hq, hi, ← hn, hl, hst]

/-- 'copy(d, s)' over boxes, of elements of one cell. -/
theorem copy_slb {dT sT e : Nat} {x y : Operand} {i off n j off2 n2 : Nat} {ps qs : List PV} (ho : o.op = .call { callee := .builtin .copy, args := #[x, y], argTypes := #[dT, sT] })
    (hx : ins x = .slb i off n 1) (hy : ins y = .slb j off2 n2 1) (ht : tk P dT = .sl e) (hs : tsz P e = 1) (hob : S.obj i = some ps) (hoj : S.obj j = some qs) (hl : off + n ≤ ps.length) (hl2 : off2 + n2 ≤ qs.length) :
    LTrip P nid o ins S { p := .int .i64 (Nat.min n2 n : Nat), wr := [(i, some (setC ps off ((qs.drop off2).take (Nat.min n2 n))))], rdB := [i, j], ok := ok } := by
  refine .of_run fun g S' ρ w hI hr hb _ _ => ?_
  have e1 := hr x (by simp [ho, Op.operands, Call.operands])
  have e2 := hr y (by simp [ho, Op.operands, Call.operands])
  rw [hx] at e1; rw [hy] at e2
  obtain ⟨b, cap, hb1, hv, hc1, hc2⟩ := e1.slb_inv
  obtain ⟨bj, capj, hbj, hvj, hc1j, hc2j⟩ := e2.slb_inv
  have hob' : S'.obj i = some ps := (hb i (by simp)).trans hob
  have hoj' : S'.obj j = some qs := (hb j (by simp)).trans hoj
  obtain ⟨vals, T, fr, h2, hfr, h3, h4, h5, h6⟩ := hI.row hob' hb1 (e1.slb_ty hb1)
  obtain ⟨valj, Tj, frj, k2, kfr, k3, k4, k5, k6⟩ := hI.row hoj' hbj (e2.slb_ty hbj)
  generalize hm : Nat.min n2 n = m
  have hmn : m ≤ n ∧ m ≤ n2 := by rw [← hm]; exact ⟨Nat.min_le_right _ _, Nat.min_le_left _ _⟩
  obtain ⟨cs, hcs⟩ : ∃ cs, cs = (valj.toList.drop off2).take m := ⟨_, rfl⟩
  have hcl : cs.length = m := by rw [hcs]; simp; omega
  have hcg : ∀ (q : Nat) (v : Value), cs[q]? = some v → q < m ∧ valj[off2 + q]? = some v := by
    intro q v hq
    have hlt := (List.getElem?_eq_some_iff.1 hq).1
    rw [hcl] at hlt
    rw [hcs, List.getElem?_take, if_pos hlt, List.getElem?_drop] at hq
    exact ⟨hlt, by simpa using hq⟩
  have hsz1 : (P.info? e).map (·.size) = some 1 := by
    unfold tsz at hs
    cases hx : P.info? e with
    | none => rw [hx] at hs; simp at hs
    | some z => rw [hx] at hs; simpa using hs
  have hfit : off + cs.length ≤ vals.size := by omega
  have hrun := run_copy_fr (P := P) w dT sT o.type e b off n cap ⟨bj, off2, none⟩ n2 capj vals T fr cs (tk_sl ht) hsz1 h2 hfr (by rw [hcl, hm])
    (fun q v hq => by
      obtain ⟨_, hq2⟩ := hcg q v hq
      rw [Addr.add_lit]
      simp [World.cell?, k2, hq2]) hfit
    (fun v hv => by obtain ⟨q, hq⟩ := List.mem_iff_getElem?.1 hv; exact k4 _ v (hcg q v hq).2)
  have hrow := Rowed.setRow w (new := splice vals off cs) h2
  have hps : ((qs.drop off2).take m).length = m := by simp; omega
  have hrel := storeBox hI hob' hb1 hrow hfr (ps' := setC ps off ((qs.drop off2).take m)) (by rw [splice_size hfit, setC_length (by rw [hps]; omega)]; exact h3) (splice_size hfit)
    (fun q v hv => by
      rw [splice_get hfit] at hv
      split at hv
      · exact k4 _ v (hcg _ v hv).2
      · exact h4 q v hv)
    (fun q v p hv hq => by
      rw [splice_get hfit, hcl] at hv
      rw [setC_get (by rw [hps]; omega), hps] at hq
      split at hv
      · rename_i e
        rw [if_pos e, List.getElem?_take, if_pos (by omega), List.getElem?_drop] at hq
        exact k5 _ v p (hcg _ v hv).2 hq
      · rename_i e; rw [if_neg e] at hq; exact h5 q v p hv hq)
    (δ := { p := .int .i64 (m : Nat), wr := [(i, some (setC ps off ((qs.drop off2).take m)))], rdB := [i, j], ok := ok }) rfl rfl
  refine ⟨.int .i64 (m : Nat), g, _, .inl ?_, hrel.1, hrel.2, fun _ _ h => h, .pure _ _ (.int _ _)⟩
  rw [hcl] at hrun
  simp only [splice, hcl]
  simp [execOp, ho, resolve, invoke, builtin, hv, hvj, hrun, goInt]

/-- 'copy(d, s)' of a nil slice, onto a slice of one's own. -/
theorem copy_nil {dT sT e sz k : Nat} {es : List PV} {x y : Operand} (ho : o.op = .call { callee := .builtin .copy, args := #[x, y], argTypes := #[dT, sT] })
    (hx : ins x = .slt sz es k) (hy : ins y = .nilsl) (ht : tk P dT = .sl e) (hs : 0 < tsz P e) : LTrip P nid o ins S { p := .int .i64 0, ok := ok } := by
  refine .still fun g S' ρ w hI hr hb => ?_
  have e1 := hr x (by simp [ho, Op.operands, Call.operands])
  have e2 := hr y (by simp [ho, Op.operands, Call.operands])
  rw [hx] at e1; rw [hy] at e2
  obtain ⟨base, n, cap, hv⟩ : ∃ base n cap, ρ x = .slice base n cap := by
    have h1 := e1.slt_inv.1
    generalize ρ x = v at h1
    cases h1 <;> exact ⟨_, _, _, rfl⟩
  have hv2 := e2.nilsl_inv
  obtain ⟨i, hq⟩ : ∃ i, P.info? e = some i := by
    unfold tsz at hs
    cases hx : P.info? e with
    | none => rw [hx] at hs; simp at hs
    | some z => exact ⟨z, rfl⟩
  have hrun : (Builtin.copy_ #[dT, sT] o.type #[.slice base n cap, .slice none 0 0]).run P w = .ok (goInt 0) w := by
    cases base <;> simp [Builtin.copy_, run_underlying (tk_sl ht), Builtin.lenOf, Builtin.firstCells, sizeOf, typeInfo, hq, storeCells]
  exact ⟨_, by simp [execOp, ho, resolve, invoke, builtin, hv, hv2, hrun, goInt], .pure _ _ (.int _ _)⟩
end
end Go.Pv
