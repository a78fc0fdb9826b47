/- Abstract values: append, make, bytes as a text. Nothing of any program. -/
import Derived.Test.YtbjeagcnakdmnaaPvH
set_option linter.unusedSimpArgs false
set_option linter.unusedVariables false
set_option linter.unusedSectionVars false
namespace Go.Pv
variable [GTab]

section
variable {P : Program} {nid : Nat} {o : Oper} {ins : Operand → PV} {S : PS} {ok : Prop}

theorem maxLen_eq : maxLen = 9223372036854775807 := rfl

/-- What is appended. -/
structure Src (P : Program) (w : World) (xT sz : Nat) (x : Value) (m : Nat) (news : List Value) : Prop where
  hl : ∀ w' : World, (Builtin.lenOf x).run P w' = .ok m w'
  hf : ∀ w' : World, w'.heap = w.heap → (Builtin.firstCells sz m x).run P w' = .ok news.toArray w'
  ht : P.underlying xT = some .string ∨ ∃ e, P.underlying xT = some (.slice e)
  len : news.length = m * sz
  one : ∀ v ∈ news, v.oneCell' = true

theorem run_append_room' (w : World) {t xT ty e sz : Nat} (ht : tk P t = .sl e) (hs : tsz P e = sz) (hpos : 0 < sz) {x : Value} {m : Nat} {news : List Value} (hx : Src P w xT sz x m news)
    {g off n cap : Nat} {cur : Array Value} {T : TypeId} {fr : Nat × Nat} (hg : m = 0 ∨ (w.heap[g]? = some (.cells cur T fr) ∧ FrOk fr cur.size ∧ off + n * sz + news.length ≤ cur.size)) (hroom : n + m ≤ cap) :
    (Builtin.append_ #[t, xT] ty #[.slice (some ⟨g, off, none⟩) n cap, x]).run P w =
      .ok (.slice (some ⟨g, off, none⟩) (n + m) cap) (if m = 0 then w else w.setRow g (splice cur (off + n * sz) news)) := by
  obtain ⟨i, hi⟩ : ∃ i, tsz P e = i + 1 := ⟨tsz P e - 1, by omega⟩
  have hf := hx.hf w rfl
  have hst : (storeCells ⟨g, off + n * (i + 1), none⟩ news).run P w = .ok () (if m = 0 then w else w.setRow g (splice cur (off + n * sz) news)) := by
    by_cases h0 : m = 0
    · have hl := hx.len
      rw [h0, Nat.zero_mul] at hl
      have : news = [] := List.eq_nil_of_length_eq_zero hl
      rw [if_pos h0, this]
      simp [storeCells]
    · obtain ⟨hg1, hgf, hg2⟩ := hg.resolve_left h0
      rw [if_neg h0]
      have := run_storeCells_fr (P := P) g (off + n * (i + 1)) T fr news 0 cur w hg1 hgf (by rw [Nat.add_zero, ← hi, hs]; exact hg2) hx.one
      rw [Nat.add_zero] at this
      rw [this, ← hi, hs]
      rfl
  rw [hs] at hi
  rw [hi] at hf
  have hsz : (sizeOf e).run P w = .ok (i + 1) w := run_sizeOf w (by rw [hs, hi])
  rcases hx.ht with hd | ⟨e', hd⟩ <;> simp [Builtin.append_, run_underlying (tk_sl ht), hsz, run_underlying hd, hx.hl, hroom, hf, Addr.add_lit, hst]

theorem run_append_grow' (w : World) {t xT ty e sz : Nat} (ht : tk P t = .sl e) (hs : tsz P e = sz) (hpos : 0 < sz) {x : Value} {m : Nat} {news : List Value} (hx : Src P w xT sz x m news)
    {zi : TypeInfo} {z : Value} (hi : P.info? e = some zi) (hz : zi.zero = some z)
    {a : Option Addr} {n cap : Nat} {olds : List Value} (ho : ∀ w' : World, w'.heap = w.heap → (Builtin.firstCells sz n (.slice a n cap)).run P w' = .ok olds.toArray w') (hroom : cap < n + m)
    (hlen : n + m ≤ maxLen) (hby : (n + m) * zi.bytes ≤ 140737488355328) :
    (Builtin.append_ #[t, xT] ty #[.slice a n cap, x]).run P w =
      .ok (.slice (some ⟨w.heap.size, 0, none⟩) (n + m) (grownCap w (n + m) cap e)) (w.drew.alloc (.cells (olds.toArray ++ news.toArray ++ Builtin.zeroCells z.cells (grownCap w (n + m) cap e - (n + m))) e)) := by
  obtain ⟨i, hi'⟩ : ∃ i, tsz P e = i + 1 := ⟨tsz P e - 1, by omega⟩
  obtain ⟨ie, hie, hse⟩ := tsz_info hi'
  rw [hi] at hie; cases hie
  have h1 : ¬ (n + m ≤ cap) := by omega
  have h63 : ¬ (9223372036854775807 < ((n : Int) + (m : Int))) := by rw [maxLen_eq] at hlen; omega
  have hb0 := growslice_fits (need := n + m) (old := cap) (bytes := zi.bytes) (by omega) hby
  have h48 : ¬ (281474976710656 < Builtin.nextslicecap (n + m) cap * zi.bytes) := by omega
  have hf := hx.hf w.drew rfl
  have hfo := ho w.drew rfl
  rw [← hs, hi', ← hse] at hf hfo
  rcases hx.ht with hd | ⟨e', hd⟩ <;> simp [Builtin.append_, run_underlying (tk_sl ht), sizeOf, typeInfo, zeroValue, hi, hz, run_underlying hd, hx.hl, h1, h63, h48, Question.forced, hf, hfo, Go.newRow, grownCap] <;>
    (congr 2; apply Array.ext'; simp [List.append_assoc])

theorem run_append_nil0 (w : World) {t xT ty e sz : Nat} (ht : tk P t = .sl e) (hs : tsz P e = sz) (hpos : 0 < sz) {x : Value} {news : List Value} (hx : Src P w xT sz x 0 news) {n cap : Nat} (hroom : n ≤ cap) :
    (Builtin.append_ #[t, xT] ty #[.slice none n cap, x]).run P w = .ok (.slice none n cap) w := by
  obtain ⟨i, hi⟩ : ∃ i, tsz P e = i + 1 := ⟨tsz P e - 1, by omega⟩
  have hf := hx.hf w rfl
  rw [hs] at hi
  rw [hi] at hf
  have hsz : (sizeOf e).run P w = .ok (i + 1) w := run_sizeOf w (by rw [hs, hi])
  rcases hx.ht with hd | ⟨e', hd⟩ <;> simp [Builtin.append_, run_underlying (tk_sl ht), hsz, run_underlying hd, hx.hl, hroom, hf]

theorem run_append_x0 (w : World) {t xT ty e sz : Nat} (ht : tk P t = .sl e) (hs : tsz P e = sz) (hpos : 0 < sz) {x : Value} {a : Addr} (hx : Src P w xT sz x 0 []) :
    (Builtin.append_ #[t, xT] ty #[.slice (some a) 0 0, x]).run P w = .ok (.slice (some a) 0 0) w := by
  obtain ⟨i, hi⟩ : ∃ i, tsz P e = i + 1 := ⟨tsz P e - 1, by omega⟩
  have hf := hx.hf w rfl
  rw [hs] at hi
  rw [hi] at hf
  have hsz : (sizeOf e).run P w = .ok (i + 1) w := run_sizeOf w (by rw [hs, hi])
  rcases hx.ht with hd | ⟨e', hd⟩ <;> simp [Builtin.append_, run_underlying (tk_sl ht), hsz, run_underlying hd, hx.hl, hf, storeCells]

/-- What stands in a slice that can be read. -/
theorem PRel.src {g : Gh} {S' : PS} {w : World} (hI : InvW g S' w) {v : Value} {sz : Nat} {es : List PV} (r : PRel g.h v (.sl sz es)) {xT e : Nat} (ht : tk P xT = .sl e) :
    ∃ news, Src P w xT sz v es.length news ∧ (∀ (i : Nat) (u : Value) (p : PV), news[i]? = some u → (es.flatMap PV.cells)[i]? = some p → PRel g.h u p) := by
  obtain ⟨a, cap, hv, hcap, hmax, hsz, hnone, hsome⟩ := r.sl_view
  subst hv
  have hu : P.underlying xT = some .string ∨ ∃ e, P.underlying xT = some (.slice e) := .inr ⟨_, tk_sl ht⟩
  cases a with
  | none =>
    obtain ⟨rfl, rfl⟩ := hnone rfl
    exact ⟨[], ⟨fun w' => by simp [Builtin.lenOf], fun w' _ => by simp [Builtin.firstCells], hu, by simp, by simp⟩, by simp⟩
  | some a =>
    obtain ⟨hspot, vals, hh, ho, hp⟩ := hsome a rfl
    obtain ⟨b, off, spot⟩ := a
    by_cases hc0 : es = [] ∧ cap = 0
    · obtain ⟨rfl, rfl⟩ := hc0
      exact ⟨[], ⟨fun w' => by simp [Builtin.lenOf], fun w' _ => by simp [Builtin.firstCells, loadCells, loadCellsFrom], hu, by simp, by simp⟩, by simp⟩
    replace hspot : spot = none := hspot.resolve_right hc0
    subst hspot
    have hfl := flat_length hsz
    refine ⟨(List.range (es.length * sz)).map vals, ⟨fun w' => by simp [Builtin.lenOf], fun w' hw' => ?_, hu, by simp, ?_⟩, ?_⟩
    · have := run_loadCells (P := P) w' ⟨b, off, none⟩ (es.length * sz) vals (fun j hj => by
        rw [Addr.add_lit]
        have := hI.cell (hh j (by rw [hfl]; exact hj)) (ho j (by rw [hfl]; exact hj))
        simpa [World.cell?, hw'] using this)
      simpa [Builtin.firstCells] using this
    · intro v hv
      rw [List.mem_map] at hv
      obtain ⟨j, hj, rfl⟩ := hv
      exact ho j (by rw [hfl]; simpa using hj)
    · intro i u p hu hp'
      rw [List.getElem?_map] at hu
      by_cases hi : i < es.length * sz
      · simp [List.getElem?_range, hi] at hu; subst hu; exact hp i p hp'
      · simp [List.getElem?_range, hi] at hu

theorem src_str {w : World} {s : List UInt8} {xT : Nat} (ht : tk P xT = .str) : Src P w xT 1 (.string ⟨⟨s⟩⟩) s.length (s.map fun b => .int .u8 b.toNat) where
  hl := fun w' => by simp [Builtin.lenOf, size_mk]
  hf := fun w' _ => by
    have : (⟨⟨s⟩⟩ : ByteArray).extract 0 s.length = ⟨⟨s⟩⟩ := by rw [baExtract]; simp
    simp [Builtin.firstCells, this]
  ht := .inl (tk_str ht)
  len := by simp
  one := by intro v hv; rw [List.mem_map] at hv; obtain ⟨b, _, rfl⟩ := hv; rfl

/-- What is appended, as abstract values. -/
def PV.apd (sz : Nat) : PV → Option (List PV)
  | .sl z es => if z = sz then some es else none
  | .slt z es _ => if z = sz then some es else none
  | .sln z es => if z = sz then some es else none
  | .nilsl => some []
  | .str s => if sz = 1 then some (s.map fun b => .int .u8 (b.toNat : Int)) else none
  | _ => none

def apdT (P : Program) (xT : TypeId) : PV → Prop
  | .str _ => tk P xT = .str
  | _ => ∃ e, tk P xT = .sl e

theorem apd_src {g : Gh} {S' : PS} {w : World} (hI : InvW g S' w) {v : Value} {p : PV} {sz : Nat} {fs : List PV} (r : Rel g v p) (h : p.apd sz = some fs) {xT : Nat} (hT : apdT P xT p) :
    (∃ news, Src P w xT sz v fs.length news ∧ (∀ (i : Nat) (u : Value) (p : PV), news[i]? = some u → (fs.flatMap PV.cells)[i]? = some p → PRel g.h u p)) ∧ (∀ q ∈ fs, q.cells.length = sz) := by
  cases p <;> simp only [PV.apd] at h <;> try cases h
  case str s =>
    split at h
    · rename_i e; subst e; cases h
      refine ⟨⟨s.map fun b => .int .u8 b.toNat, ?_, ?_⟩, ?_⟩
      · rw [r.str_inv, List.length_map]; exact src_str hT
      · intro i u p hu hp
        rw [List.getElem?_map] at hu
        have hfm : ∀ l : List UInt8, (List.map (fun b : UInt8 => PV.int .u8 (b.toNat : Int)) l).flatMap PV.cells = l.map fun b => PV.int .u8 (b.toNat : Int) := by
          intro l
          induction l with
          | nil => rfl
          | cons x xs ih => rw [List.map_cons, List.flatMap_cons, ih]; rfl
        rw [hfm, List.getElem?_map] at hp
        cases hx : s[i]? with
        | none => rw [hx] at hu; cases hu
        | some b => rw [hx] at hu hp; cases hu; cases hp; exact .int _ _
      · intro q hq
        rw [List.mem_map] at hq
        obtain ⟨b, _, rfl⟩ := hq
        rfl
    · cases h
  case nilsl =>
    obtain ⟨e, ht⟩ := hT
    rw [r.nilsl_inv]
    exact ⟨⟨[], ⟨fun w' => by simp [Builtin.lenOf], fun w' _ => by simp [Builtin.firstCells], .inr ⟨_, tk_sl ht⟩, by simp, by simp⟩, by simp⟩, by simp⟩
  case sl z es =>
    split at h
    · rename_i e; subst e; cases h
      obtain ⟨e, ht⟩ := hT
      obtain ⟨_, _, _, _, _, hsz, _⟩ := r.sl_inv.sl_view
      exact ⟨r.sl_inv.src hI ht, hsz⟩
    · cases h
  case sln z es =>
    split at h
    · rename_i e; subst e; cases h
      obtain ⟨e, ht⟩ := hT
      obtain ⟨_, _, _, _, _, hsz, _⟩ := r.sln_inv.1.sl_view
      exact ⟨r.sln_inv.1.src hI ht, hsz⟩
    · cases h
  case slt z es k =>
    split at h
    · rename_i e; subst e; cases h
      obtain ⟨e, ht⟩ := hT
      obtain ⟨_, _, _, _, _, hsz, _⟩ := r.slt_inv.1.sl_view
      exact ⟨r.slt_inv.1.src hI ht, hsz⟩
    · cases h

theorem zeroCells_size (z : Array Value) (n : Nat) : (Builtin.zeroCells z n).size = n * z.size := by simp [Builtin.zeroCells]
theorem zeroCells_one {z : Array Value} (h : ∀ (i : Nat) (v : Value), z[i]? = some v → v.oneCell' = true) (n : Nat) : ∀ (i : Nat) (v : Value), (Builtin.zeroCells z n)[i]? = some v → v.oneCell' = true := by
  intro i v hv
  simp only [Builtin.zeroCells, Array.getElem?_map] at hv
  cases hx : (Array.range (n * z.size))[i]? with
  | none => rw [hx] at hv; cases hv
  | some j =>
    rw [hx] at hv; cases hv
    obtain ⟨hlt, hj⟩ := Array.getElem?_eq_some_iff.1 hx
    simp at hlt hj
    have hz0 : 0 < z.size := by
      rcases Nat.eq_zero_or_pos z.size with h0 | h0
      · simp [h0] at hlt
      · exact h0
    have hm : j % z.size < z.size := Nat.mod_lt _ hz0
    show (z[j % z.size]!).oneCell' = true
    rw [show z[j % z.size]! = z[j % z.size] by simp [hm]]
    exact h (j % z.size) _ (by simp [hm])

theorem flatMap_append {es fs : List PV} : (es ++ fs).flatMap PV.cells = es.flatMap PV.cells ++ fs.flatMap PV.cells := List.flatMap_append

/-- A new row with the old elements and the new ones. -/
theorem append_new {g : Gh} {S' : PS} {w w' : World} (hI : InvW g S' w) (hf : Fresh g nid) {e sz cap : Nat} {es fs : List PV} {olds news : List Value} {z : Array Value}
    (hp : Pushed w w' (.cells (olds.toArray ++ news.toArray ++ Builtin.zeroCells z (cap - (es.length + fs.length))) e (0, 0)))
    (hc : es.length + fs.length ≤ cap) (hm : cap ≤ maxLen) (he : ∀ p ∈ es, p.cells.length = sz) (hfs : ∀ p ∈ fs, p.cells.length = sz) (hz : z.size = sz) (hz1 : ∀ (i : Nat) (v : Value), z[i]? = some v → v.oneCell' = true)
    (hol : olds.length = es.length * sz) (hnl : news.length = fs.length * sz) (ho1 : ∀ v ∈ olds, v.oneCell' = true) (hn1 : ∀ v ∈ news, v.oneCell' = true)
    (hor : ∀ (i : Nat) (u : Value) (p : PV), olds[i]? = some u → (es.flatMap PV.cells)[i]? = some p → PRel g.h u p) (hnr : ∀ (i : Nat) (u : Value) (p : PV), news[i]? = some u → (fs.flatMap PV.cells)[i]? = some p → PRel g.h u p)
    {δ : Dl} (hwr : δ.wr = []) (htk : ∃ old, δ.tk = (nid, true) :: old ∧ ∀ x ∈ old, x.2 = false) :
    ∃ g', InvW g' (S'.app δ) w' ∧ Ext g S' w g' (S'.app δ) w' ∧ (∀ j, j ≠ nid → Fresh g j → Fresh g' j) ∧ Rel g' (.slice (some ⟨w.heap.size, 0, none⟩) (es.length + fs.length) cap) (.slt sz (es ++ fs) nid) ∧ ∃ m, g'.ty w.heap.size = some (e, m) := by
  have hfe := flat_length he
  have hff := flat_length hfs
  refine mkRowOf (nid := nid) hI hf hp (by simp) hc hm (fun p hp => (List.mem_append.1 hp).elim (he p) (hfs p)) rfl ?_ ?_ ?_ hwr htk
  · simp only [Array.size_append, List.size_toArray, zeroCells_size, hol, hnl, hz, ← Nat.add_mul]
    congr 1; omega
  · intro i v hv
    rw [Array.getElem?_append] at hv
    split at hv
    · rw [List.append_toArray, List.getElem?_toArray] at hv
      exact (List.mem_append.1 (List.mem_of_getElem? hv)).elim (ho1 v) (hn1 v)
    · exact zeroCells_one hz1 _ _ v hv
  · intro i v p hv hp'
    rw [flatMap_append] at hp'
    have hi := (List.getElem?_eq_some_iff.1 hp').1
    rw [List.length_append, hfe, hff] at hi
    rw [Array.getElem?_append, if_pos (by simp [hol, hnl]; omega), List.append_toArray, List.getElem?_toArray] at hv
    by_cases h1 : i < es.length * sz
    · rw [List.getElem?_append_left (by omega)] at hv hp'
      exact hor i v p hv hp'
    · rw [List.getElem?_append_right (by omega)] at hv hp'
      rw [hol] at hv; rw [hfe] at hp'
      exact hnr _ v p hv hp'

/-- Bytes, or whatever, laid behind a slice whose spare room is owned. -/
theorem append_core {t xT e sz k : Nat} {x y : Operand} {es fs : List PV} {zs : List PV} (ho : o.op = .call { callee := .builtin .append, args := #[x, y], argTypes := #[t, xT] })
    (hy : (ins y).apd sz = some fs) (hT : apdT P xT (ins y)) (ht : tk P t = .sl e) (hs : tsz P e = sz) (hpos : 0 < sz) (hz : zc P e = some zs) (hzl : zs.length = sz)
    (hnk : nid ≠ k) (hlen : es.length + fs.length ≤ maxLen) (hby : (es.length + fs.length) * tby P e ≤ 140737488355328) {δ : Dl} (hwr : δ.wr = []) (htk' : δ.tk = [(nid, true), (k, false)])
    {g : Gh} {S' : PS} {ρ : Operand → Value} {w : World} (hI : InvW g S' w) (q1 : PRel g.h (ρ x) (.sl sz es)) (qt : ∀ b lo hi, spare (ρ x) sz = some (b, lo, hi) → 0 < hi → g.tok k = some (b, lo, hi))
    (e1 : Rel g (ρ y) (ins y)) (hkl : S'.lv k = true) (hf : Fresh g nid) :
    ∃ v g' w', (execOp ρ o).run P w = .ok (.value v) w' ∧ InvW g' (S'.app δ) w' ∧ Ext g S' w g' (S'.app δ) w' ∧ (∀ j, j ≠ nid → Fresh g j → Fresh g' j) ∧ Rel g' v (.slt sz (es ++ fs) nid) ∧ (RowT g (ρ x) e → RowT g' v e) := by
  obtain ⟨⟨news, hsrc, hnr⟩, hfsz⟩ := apd_src (P := P) hI e1 hy hT
  obtain ⟨olds, hosrc, hor⟩ := q1.src (P := P) hI ht
  obtain ⟨a, cap, hv, hcap, hmax, hsz, hnone, hsome⟩ := q1.sl_view
  obtain ⟨zi, z, hi, hz', hn, ho1, hp1⟩ := zc_spec hz
  have hbi : tby P e = zi.bytes := by simp [tby, hi]
  have hzc : z.cells.size = sz := by rw [hn, hzl]
  have hexec : ∀ r w', (Builtin.append_ #[t, xT] o.type #[ρ x, ρ y]).run P w = .ok r w' → (execOp ρ o).run P w = .ok (.value r) w' := by
    intro r w' h
    simp [execOp, ho, resolve, invoke, builtin, h]
  by_cases hroom : es.length + fs.length ≤ cap
  · cases a with
    | none =>
      obtain ⟨rfl, rfl⟩ := hnone rfl
      have hf0 : fs = [] := List.eq_nil_of_length_eq_zero (by simpa using hroom)
      subst hf0
      obtain ⟨h1, h2, h3⟩ := emptyTok hI hf (δ := δ) hwr ⟨[(k, false)], htk', by simp⟩
      refine ⟨_, _, _, hexec _ _ ?_, h1, h2, h3, .slt _ _ _ _ (.slnil sz) (fun b lo hi h => by simp [spare] at h), fun _ a n c h => by cases h⟩
      rw [hv]
      exact run_append_nil0 w ht hs hpos hsrc (Nat.le_refl _)
    | some a =>
      obtain ⟨hspot, vals, hh, hov, hp⟩ := hsome a rfl
      by_cases hc0 : es = [] ∧ cap = 0
      · obtain ⟨rfl, rfl⟩ := hc0
        have hf0 : fs = [] := List.eq_nil_of_length_eq_zero (by simpa using hroom)
        subst hf0
        obtain ⟨h1, h2, h3⟩ := emptyTok hI hf (δ := δ) hwr ⟨[(k, false)], htk', by simp⟩
        refine ⟨_, _, _, hexec _ _ ?_, h1, h2, h3, .slt _ _ _ _ (.slx a sz) (fun b lo hi h => by simp [spare] at h), fun h a' n' c' hv' => by cases hv'; obtain ⟨x0, x1, x2, m, x⟩ := h _ _ _ hv; exact absurd rfl x1⟩
        rw [hv]
        have hnn : news = [] := List.eq_nil_of_length_eq_zero (by simpa using hsrc.len)
        subst hnn
        exact run_append_x0 w ht hs hpos hsrc
      obtain ⟨b, off, spot⟩ := a
      replace hspot : spot = none := hspot.resolve_right hc0
      subst hspot
      rw [hv] at q1 qt
      have hfe := flat_length hsz
      have hff := flat_length hfsz
      have hnl := hsrc.len
      by_cases hm : fs.length = 0
      · have hf0 : fs = [] := List.eq_nil_of_length_eq_zero hm
        subst hf0
        have hrun := run_append_room' (P := P) (ty := o.type) w ht hs hpos hsrc (g := b) (off := off) (n := es.length) (cap := cap) (cur := #[]) (T := 0) (fr := (0, 0)) (.inl rfl) hroom
        simp only [List.length_nil, if_true, Nat.add_zero] at hrun
        have hnn : news = [] := List.eq_nil_of_length_eq_zero (by simpa using hnl)
        by_cases hlt : 0 < cap
        · have hcp : 0 < cap * sz := Nat.mul_pos hlt hpos
          have htk := qt b (off + es.length * sz) (off + cap * sz) (by simp [spare]; omega) (by omega)
          obtain ⟨b', lo', hi', t1, t2⟩ := hI.toks k hkl
          rw [htk] at t1; cases t1
          obtain ⟨⟨cur, T, fr, t3, tf, t4⟩, t5, t6⟩ := t2 (by omega)
          have hrow : Rowed w w b cur (splice cur (off + es.length * sz) ([] : List Value)) T fr := by
            have : splice cur (off + es.length * sz) ([] : List Value) = cur := by simp [splice]
            rw [this]
            exact ⟨t3, t3, fun _ _ => rfl, rfl, rfl, rfl, .rf⟩
          obtain ⟨h1, h2, h3, h4, h5⟩ := fillRow hI hf hkl htk (by omega) (news := []) (by simp; exact Nat.mul_le_mul_right _ hcap) hrow (by simp) hnk
            (δ := δ) hwr htk'
          refine ⟨_, _, _, hexec _ _ (by rw [hv]; exact hrun), h1, h2, h3, ?_, fun h a' n' c' hv' => by cases hv'; obtain ⟨x0, x1, x2, m, x⟩ := h _ es.length cap hv; exact ⟨x0, x1, x2, m, h2.le.ty _ _ x⟩⟩
          rw [List.append_nil]
          refine .slt _ _ _ _ (q1.mono h2.le.h) (fun b' lo hi h hl => ?_)
          simp [spare] at h
          obtain ⟨-, rfl, rfl, rfl⟩ := h
          show (if nid = nid then _ else _) = _
          rw [if_pos rfl]; simp
        · have hce : cap = 0 := by omega
          obtain ⟨h1, h2, h3⟩ := emptyTok hI hf (δ := δ) hwr ⟨[(k, false)], htk', by simp⟩
          refine ⟨_, _, _, hexec _ _ (by rw [hv]; exact hrun), h1, h2, h3, ?_, fun h a' n' c' hv' => by cases hv'; obtain ⟨x0, x1, x2, m, x⟩ := h _ es.length cap hv; exact ⟨x0, x1, x2, m, h2.le.ty _ _ x⟩⟩
          rw [List.append_nil]
          refine .slt _ _ _ _ (q1.mono h2.le.h) (fun b' lo hi h hl => ?_)
          simp [spare, hce] at h
      · have hlt : es.length < cap := by omega
        have hmul : es.length * sz + fs.length * sz ≤ cap * sz := by rw [← Nat.add_mul]; exact Nat.mul_le_mul_right _ hroom
        have hfp : 0 < fs.length * sz := Nat.mul_pos (by omega) hpos
        have htk := qt b (off + es.length * sz) (off + cap * sz) (by simp [spare]; omega) (by omega)
        obtain ⟨b', lo', hi', t1, t2⟩ := hI.toks k hkl
        rw [htk] at t1; cases t1
        obtain ⟨⟨cur, T, fr, t3, tf, t4⟩, t5, t6⟩ := t2 (by omega)
        have hrun := run_append_room' (P := P) (ty := o.type) w ht hs hpos hsrc (g := b) (off := off) (n := es.length) (cap := cap) (cur := cur) (T := T) (.inr ⟨t3, tf, by rw [hnl]; omega⟩) hroom
        rw [if_neg hm] at hrun
        obtain ⟨h1, h2, h3, h4, h5⟩ := fillRow hI hf hkl htk (by omega) (news := news) (by rw [hnl]; omega) (Rowed.setRow w t3) hsrc.one hnk
          (δ := δ) hwr htk'
        refine ⟨_, _, _, hexec _ _ (by rw [hv]; exact hrun), h1, h2, h3, ?_, fun h a' n' c' hv' => by cases hv'; obtain ⟨x0, x1, x2, m, x⟩ := h _ es.length cap hv; exact ⟨x0, x1, x2, m, h2.le.ty _ _ x⟩⟩
        have hns : ∀ i, i < news.length → news[i]? = some (news.getD i undef) := by
          intro i hi; rw [List.getD_eq_getElem?_getD, List.getElem?_eq_getElem hi]; rfl
        refine .slt _ _ _ _ (.sl b off _ cap sz (es ++ fs) (fun i => if i < es.length * sz then vals i else news.getD (i - es.length * sz) undef) (by simp) hroom hmax ?_ ?_ ?_ ?_) (fun b' lo hi h hl => ?_)
        · exact fun p hp => (List.mem_append.1 hp).elim (hsz p) (hfsz p)
        · intro i hi
          rw [flatMap_append, List.length_append, hfe, hff] at hi
          by_cases c : i < es.length * sz
          · simp only [c, if_true]
            rw [h5 _ (by omega)]
            exact hh i (by rw [hfe]; exact c)
          · simp only [c, if_false]
            have := h4 (i - es.length * sz) (by rw [hnl]; omega)
            rw [show off + i = off + es.length * sz + (i - es.length * sz) by omega, this]
            exact hns _ (by rw [hnl]; omega)
        · intro i hi
          rw [flatMap_append, List.length_append, hfe, hff] at hi
          by_cases c : i < es.length * sz
          · simp only [c, if_true]; exact hov i (by rw [hfe]; exact c)
          · simp only [c, if_false]
            exact hsrc.one _ (List.mem_of_getElem? (hns (i - es.length * sz) (by rw [hnl]; omega)))
        · intro i p hp'
          have hi := (List.getElem?_eq_some_iff.1 hp').1
          rw [flatMap_append, List.length_append, hfe, hff] at hi
          rw [flatMap_append] at hp'
          by_cases c : i < es.length * sz
          · simp only [c, if_true]
            rw [List.getElem?_append_left (by omega)] at hp'
            exact (hp i p hp').mono h2.le.h
          · simp only [c, if_false]
            rw [List.getElem?_append_right (by omega), hfe] at hp'
            exact (hnr _ _ p (hns (i - es.length * sz) (by rw [hnl]; omega)) hp').mono h2.le.h
        · simp [spare] at h
          obtain ⟨-, rfl, rfl, rfl⟩ := h
          show (if nid = nid then _ else _) = _
          rw [if_pos rfl, hnl]
          congr 3
          rw [Nat.add_mul]; omega
  · have hgr := run_append_grow' (P := P) (ty := o.type) w ht hs hpos hsrc hi hz' (a := a) (n := es.length) (cap := cap) (olds := olds) (fun w' hw' => by have := hosrc.hf w' hw'; rw [hv] at this; exact this) (by omega) hlen (by rw [← hbi]; exact hby)
    obtain ⟨g', h1, h2, h3, h4, h5⟩ := append_new (nid := nid) hI hf (e := e) (sz := sz) (cap := grownCap w (es.length + fs.length) cap e) (z := z.cells) (Pushed.drew_alloc w _) (grownCap_ge w _ _ e) (grownCap_le_maxLen w _ _ e hlen) hsz hfsz hzc ho1
      hosrc.len hsrc.len hosrc.one hsrc.one hor hnr (δ := δ) hwr ⟨[(k, false)], htk', by simp⟩
    exact ⟨_, g', _, hexec _ _ (by rw [hv]; exact hgr), h1, h2, h3, h4, fun _ a n c hv' => by cases hv'; exact ⟨rfl, by have := grownCap_ge w (es.length + fs.length) cap e; omega, rfl, h5⟩⟩

theorem append_slt {t xT e sz k : Nat} {x y : Operand} {es fs : List PV} {zs : List PV} (ho : o.op = .call { callee := .builtin .append, args := #[x, y], argTypes := #[t, xT] })
    (hx : ins x = .slt sz es k) (hy : (ins y).apd sz = some fs) (hT : apdT P xT (ins y)) (ht : tk P t = .sl e) (hs : tsz P e = sz) (hpos : 0 < sz) (hz : zc P e = some zs) (hzl : zs.length = sz)
    (hk : S.lv k = true) (hnk : nid ≠ k) (hlen : es.length + fs.length ≤ maxLen) (hby : (es.length + fs.length) * tby P e ≤ 140737488355328) :
    LTrip P nid o ins S { p := .slt sz (es ++ fs) nid, tk := [(nid, true), (k, false)], rdT := [k], ok := ok } := by
  refine .of_run fun g S' ρ w hI hr _ hrt hf => ?_
  have e0 := hr x (by simp [ho, Op.operands, Call.operands])
  have e1 := hr y (by simp [ho, Op.operands, Call.operands])
  rw [hx] at e0
  obtain ⟨q1, qt⟩ := e0.slt_inv
  obtain ⟨v, g', w', h0, h1, h2, h3, h4, -⟩ := append_core (nid := nid) ho hy hT ht hs hpos hz hzl hnk hlen hby (δ := { p := .slt sz (es ++ fs) nid, tk := [(nid, true), (k, false)], rdT := [k], ok := ok }) rfl rfl hI q1 qt e1 ((hrt k (by simp)).trans hk) hf
  exact ⟨v, g', w', .inl h0, h1, h2, h3, h4⟩

theorem append_bsl {t xT e k : Nat} {x y : Operand} {es fs : List PV} {zs : List PV} (ho : o.op = .call { callee := .builtin .append, args := #[x, y], argTypes := #[t, xT] })
    (hx : ins x = .bsl e es k) (hy : (ins y).apd 1 = some fs) (hT : apdT P xT (ins y)) (ht : tk P t = .sl e) (hs : tsz P e = 1) (hz : zc P e = some zs) (hzl : zs.length = 1)
    (hk : S.lv k = true) (hnk : nid ≠ k) (hlen : es.length + fs.length ≤ maxLen) (hby : (es.length + fs.length) * tby P e ≤ 140737488355328) :
    LTrip P nid o ins S { p := .bsl e (es ++ fs) nid, tk := [(nid, true), (k, false)], rdT := [k], ok := ok } := by
  refine .of_run fun g S' ρ w hI hr _ hrt hf => ?_
  have e0 := hr x (by simp [ho, Op.operands, Call.operands])
  have e1 := hr y (by simp [ho, Op.operands, Call.operands])
  rw [hx] at e0
  obtain ⟨q1, qt, qT⟩ := e0.bsl_inv
  obtain ⟨v, g', w', h0, h1, h2, h3, h4, h5⟩ := append_core (nid := nid) ho hy hT ht hs Nat.one_pos hz hzl hnk hlen hby (δ := { p := .bsl e (es ++ fs) nid, tk := [(nid, true), (k, false)], rdT := [k], ok := ok }) rfl rfl hI q1 qt e1 ((hrt k (by simp)).trans hk) hf
  obtain ⟨r1, r2⟩ := h4.slt_inv
  exact ⟨v, g', w', .inl h0, h1, h2, h3, .bsl _ _ _ _ r1 r2 (h5 qT)⟩

end
end Go.Pv
