/- Abstract values of Go data, and how they stand to values in a world: nothing of any program. -/
import Derived.Calls
import Derived.Laws.Append
import Derived.Laws.Rows
import Derived.IntWalk
import Derived.Below
import Derived.KernelRfl
import Derived.Eval
import Derived.Maps.RangeRun
set_option linter.unusedSimpArgs false
set_option linter.unusedVariables false
set_option linter.unusedSectionVars false
namespace Go.Pv
open Go.RowKit (Below)

/-- An abstract value. -/
inductive PV where
  | any
  | bool (b : Bool)
  | int (k : IntKind) (n : Int)
  | str (s : List UInt8)
  | nilsl
  | sl (sz : Nat) (es : List PV)
  | slt (sz : Nat) (es : List PV) (k : Nat)
  | sln (sz : Nat) (es : List PV)
  | sl0 (sz : Nat)
  | nilptr
  | loc (ps : List PV)
  | box (id off : Nat)
  | slb (id off n sz : Nat)
  | slg (id n sz : Nat)
  | agg (ps : List PV)
  | tup (ps : List PV)
  | fn (f : FuncId) (caps : List PV)
  | nilfn
  | nilif
  | nilm
  | ifc (t : TypeId) (p : PV)
  | mref (id : Nat)
  | iref (id : Nat)
  | yld (id : Nat)
  | slj (n : Nat)
  | mpure (es : List (PV × PV))
  | mobj (es : List (PV × PV))
  | given (c : Bool) (p : PV)
  | nbp (T : TypeId) (id : Nat)
  | bsl (e : TypeId) (es : List PV) (k : Nat)
  deriving Inhabited

/-- The package-level variables that a program reads, by their numbers: what stands in them, as the text lays them. -/
class GTab where
  tab : List (Nat × List PV)
  /-- Rows of such elements that are appended to nil, or made, are boxes (they grow and may be written). -/
  bx : TypeId → Bool := fun _ => false

def gat (l : List (Nat × List PV)) (k : Nat) : Option (List PV) :=
  match l with
  | [] => none
  | (i, x) :: r => match Nat.beq i k with | true => some x | false => gat r k

def PV.cells : PV → List PV
  | .agg ps => ps
  | p => [p]

/-- The heap's cells that stay as they are. -/
structure HMap where
  c : Nat → Nat → Option Value
  /-- The blocks of which nothing is known but how many cells they have: whoever comes may write them. -/
  j : Nat → Option Nat
instance : CoeFun HMap fun _ => Nat → Nat → Option Value := ⟨HMap.c⟩

structure HMap.le (h h' : HMap) : Prop where
  c : ∀ b o v, h b o = some v → h' b o = some v
  j : ∀ b m, h.j b = some m → h'.j b = some m
theorem HMap.le_refl (h : HMap) : h.le h := ⟨fun _ _ _ e => e, fun _ _ e => e⟩
theorem HMap.le_trans {a b c : HMap} (x : a.le b) (y : b.le c) : a.le c := ⟨fun _ _ _ e => y.c _ _ _ (x.c _ _ _ e), fun _ _ e => y.j _ _ (x.j _ _ e)⟩

/-- A map's entries and its clock, as one value: no cell holds it. -/
def encM (ents : Array MapEntry) (c : Nat) : Value := .tuple #[.tuple (ents.map fun e => .tuple #[e.key, e.val, .int .i64 e.born]), .int .i64 c]
theorem encM_inj {ents ents' : Array MapEntry} {c c' : Nat} (h : encM ents c = encM ents' c') : ents = ents' ∧ c = c' := by
  simp only [encM, Value.tuple.injEq, Array.mk.injEq, List.cons.injEq, and_true, Value.int.injEq, true_and] at h
  obtain ⟨h1, h2⟩ := h
  refine ⟨?_, by omega⟩
  apply Array.ext_getElem?
  intro i
  have := congrArg (fun a : Array Value => a[i]?) h1
  simp only [Array.getElem?_map] at this
  cases e : ents[i]? with
  | none =>
    cases e' : ents'[i]? with
    | none => rfl
    | some y => rw [e, e'] at this; cases this
  | some x =>
    cases e' : ents'[i]? with
    | none => rw [e, e'] at this; cases this
    | some y =>
      rw [e, e'] at this
      simp only [Option.map_some, Option.some.injEq, Value.tuple.injEq, Array.mk.injEq, List.cons.injEq, and_true, Value.int.injEq, true_and] at this
      obtain ⟨a1, a2, a3⟩ := this
      obtain ⟨k, v, n⟩ := x
      obtain ⟨k', v', n'⟩ := y
      simp only at a1 a2 a3
      have : n = n' := by omega
      subst a1 a2 this; rfl
/-- Each entry is older than the clock, and no two are of one age. -/
def WB (ents : Array MapEntry) (c : Nat) : Prop := (∀ e ∈ ents.toList, e.born < c) ∧ (ents.toList.map (·.born)).Nodup
theorem WB.nil (c : Nat) : WB #[] c := ⟨fun _ h => (by cases h), List.nodup_nil⟩
theorem WB.push {ents : Array MapEntry} {c : Nat} (h : WB ents c) (key val : Value) : WB (ents.push { key := key, val := val, born := c }) (c + 1) := by
  refine ⟨fun e he => ?_, ?_⟩
  · simp only [Array.toList_push, List.mem_append, List.mem_singleton] at he
    rcases he with he | rfl
    · have := h.1 e he; omega
    · show c < c + 1; omega
  · simp only [Array.toList_push, List.map_append, List.map_cons, List.map_nil]
    rw [List.nodup_append]
    refine ⟨h.2, by simp, fun a ha b hb e => ?_⟩
    obtain ⟨x, hx, rfl⟩ := List.mem_map.1 ha
    have := h.1 x hx
    simp at hb; omega
theorem WB.modify {ents : Array MapEntry} {c : Nat} (h : WB ents c) (j : Nat) (key val : Value) : WB (ents.modify j fun e => { e with key := key, val := val }) c := by
  have e1 : (ents.modify j fun e => { e with key := key, val := val }).toList.map (·.born) = ents.toList.map (·.born) := by
    apply List.ext_getElem?
    intro i
    simp only [List.getElem?_map, Array.getElem?_toList, Array.getElem?_modify]
    split
    · cases ents[i]? <;> rfl
    · rfl
  refine ⟨fun e he => ?_, by rw [e1]; exact h.2⟩
  have : e.born ∈ ents.toList.map (·.born) := by rw [← e1]; exact List.mem_map.2 ⟨e, he, rfl⟩
  obtain ⟨x, hx, hb⟩ := List.mem_map.1 this
  rw [← hb]; exact h.1 x hx
theorem WB.erase {ents : Array MapEntry} {c : Nat} (h : WB ents c) (j : Nat) : WB (ents.eraseIdxIfInBounds j) c := by
  have hs : (ents.eraseIdxIfInBounds j).toList.Sublist ents.toList := by
    unfold Array.eraseIdxIfInBounds
    split
    · rw [Array.toList_eraseIdx]; exact List.eraseIdx_sublist _ _
    · exact List.Sublist.refl _
  exact ⟨fun e he => h.1 e (hs.subset he), (hs.map _).nodup h.2⟩
/-- What a place of a world holds: a row's cell; of a map, its entries. -/
def one? (x : Option Value) : Option Value := x.filter fun v => v.oneCell'
theorem one?_some {x : Option Value} {v : Value} (h : x = some v) (h1 : v.oneCell' = true) : one? x = some v := by
  subst h; simp [one?, h1]
theorem one?_of {x : Option Value} {v : Value} (h : one? x = some v) : x = some v ∧ v.oneCell' = true := by
  cases x with
  | none => cases h
  | some u =>
    simp only [one?, Option.filter_some] at h
    split at h
    · rename_i e; cases h; exact ⟨rfl, e⟩
    · cases h
def wcell (w : World) (b o : Nat) : Option Value :=
  match w.heap[b]? with
  | some (.cells vals _ _) => one? vals[o]?
  | some (.map ents c) => if o = 0 then some (encM ents c) else none
  | _ => none
theorem wcell_of_block {w w' : World} {b : Nat} (h : w'.heap[b]? = w.heap[b]?) (o : Nat) : wcell w' b o = wcell w b o := by unfold wcell; rw [h]
theorem wcell_cell {w : World} {b o : Nat} {v : Value} (h : wcell w b o = some v) (h1 : v.oneCell' = true) : w.cell? ⟨b, o, none⟩ = some v := by
  unfold wcell at h
  split at h
  · rename_i e; simp [World.cell?, e, (one?_of h).1]
  · split at h
    · cases h; cases h1
    · cases h
  · cases h
theorem wcell_cells {w : World} {b : Nat} {vals : Array Value} {T fr} (h : w.heap[b]? = some (.cells vals T fr)) (o : Nat) : wcell w b o = one? vals[o]? := by unfold wcell; rw [h]
theorem wcell_ents {w : World} {b : Nat} {ents : Array MapEntry} {c : Nat} (h : wcell w b 0 = some (encM ents c)) : w.heap[b]? = some (.map ents c) := by
  unfold wcell at h
  split at h
  · have := (one?_of h).2; cases this
  · rename_i ents' c' e
    rw [if_pos rfl] at h
    obtain ⟨rfl, rfl⟩ := encM_inj (Option.some.inj h)
    exact e
  · cases h
theorem wcell_map {w : World} {b : Nat} {ents : Array MapEntry} {c : Nat} (h : w.heap[b]? = some (.map ents c)) : wcell w b 0 = some (encM ents c) := by unfold wcell; rw [h]; rfl
theorem wcell_lt {w : World} {b o : Nat} {v : Value} (h : wcell w b o = some v) : b < w.heap.size := by
  unfold wcell at h
  cases hx : w.heap[b]? with
  | none => rw [hx] at h; cases h
  | some x => exact (Array.getElem?_eq_some_iff.1 hx).1

/-- A value that stays as it is. -/
inductive PRel (h : HMap) : Value → PV → Prop
  | any (v) : PRel h v .any
  | bool (b) : PRel h (.bool b) (.bool b)
  | int (k n) : PRel h (.int k n) (.int k n)
  | str (s : List UInt8) : PRel h (.string ⟨⟨s⟩⟩) (.str s)
  | nilsl : PRel h (.slice none 0 0) .nilsl
  | slnil (sz) : PRel h (.slice none 0 0) (.sl sz [])
  | slx (a : Addr) (sz) : PRel h (.slice (some a) 0 0) (.sl sz [])
  | sl (b off n cap sz : Nat) (es : List PV) (vals : Nat → Value) (hn : n = es.length) (hc : n ≤ cap) (hm : cap ≤ maxLen)
      (hsz : ∀ p ∈ es, p.cells.length = sz)
      (hh : ∀ i, i < (es.flatMap PV.cells).length → h b (off + i) = some (vals i))
      (ho : ∀ i, i < (es.flatMap PV.cells).length → (vals i).oneCell' = true)
      (hp : ∀ (i : Nat) (p : PV), (es.flatMap PV.cells)[i]? = some p → PRel h (vals i) p) : PRel h (.slice (some ⟨b, off, none⟩) n cap) (.sl sz es)
  | sln (b off n cap sz : Nat) (es : List PV) (hr : PRel h (.slice (some ⟨b, off, none⟩) n cap) (.sl sz es)) : PRel h (.slice (some ⟨b, off, none⟩) n cap) (.sln sz es)
  | slnx (a : Addr) (sz) : PRel h (.slice (some a) 0 0) (.sln sz [])
  | sl0 (b off sz : Nat) : PRel h (.slice (some ⟨b, off, none⟩) 0 0) (.sl0 sz)
  | sljn : PRel h (.slice none 0 0) (.slj 0)
  | sljx (a : Addr) : PRel h (.slice (some a) 0 0) (.slj 0)
  | slj (b off n cap m : Nat) (hj : h.j b = some m) (hc : n ≤ cap) (hm : cap ≤ maxLen) (ho : off + cap ≤ m) : PRel h (.slice (some ⟨b, off, none⟩) n cap) (.slj n)
  | nilptr : PRel h (.pointer none) .nilptr
  | loc (b off : Nat) (ps : List PV) (vals : Nat → Value)
      (hh : ∀ i, i < ps.length → h b (off + i) = some (vals i))
      (ho : ∀ i, i < ps.length → (vals i).oneCell' = true)
      (hp : ∀ (i : Nat) (p : PV), ps[i]? = some p → PRel h (vals i) p) : PRel h (.pointer (some ⟨b, off, none⟩)) (.loc ps)
  | agg (vs : Array Value) (ps : List PV) (hn : vs.size = ps.length) (ho : ∀ (i : Nat) (v : Value), vs[i]? = some v → v.oneCell' = true)
      (hp : ∀ (i : Nat) (v : Value) (p : PV), vs[i]? = some v → ps[i]? = some p → PRel h v p) : PRel h (.agg vs) (.agg ps)
  | tup (vs : Array Value) (ps : List PV) (hn : vs.size = ps.length)
      (hp : ∀ (i : Nat) (v : Value) (p : PV), vs[i]? = some v → ps[i]? = some p → PRel h v p) : PRel h (.tuple vs) (.tup ps)
  | fn (f) (vs : Array Value) (ps : List PV) (hn : vs.size = ps.length)
      (hp : ∀ (i : Nat) (v : Value) (p : PV), vs[i]? = some v → ps[i]? = some p → PRel h v p) : PRel h (.func (.func f) #[] vs) (.fn f ps)
  | nilfn : PRel h .nilFunc .nilfn
  | nilif : PRel h .nilIface .nilif
  | nilm : PRel h (.map none) .nilm
  | mpure (b : Nat) (ents : Array MapEntry) (c : Nat) (es es' : List (PV × PV)) (hh : h b 0 = some (encM ents c)) (hw : WB ents c) (hp : es'.Perm es) (hn : ents.size = es'.length) (hd : (es.map Prod.fst).Nodup)
      (hk : ∀ (i : Nat) (e : MapEntry) (q : PV × PV), ents[i]? = some e → es'[i]? = some q → PRel h e.key q.1)
      (hv : ∀ (i : Nat) (e : MapEntry) (q : PV × PV), ents[i]? = some e → es'[i]? = some q → PRel h e.val q.2) : PRel h (.map (some b)) (.mpure es)
  | ifc (t v p) (hp : PRel h v p) : PRel h (.iface t v) (.ifc t p)

theorem PRel.mono {h h' : HMap} (hh : h.le h') {v : Value} {p : PV} (r : PRel h v p) : PRel h' v p := by
  induction r with
  | any v => exact .any v
  | bool b => exact .bool b
  | int k n => exact .int k n
  | str s => exact .str s
  | nilsl => exact .nilsl
  | slnil sz => exact .slnil sz
  | slx a sz => exact .slx a sz
  | sl b off n cap sz es vals hn hc hm hsz h1 ho _ ih => exact .sl b off n cap sz es vals hn hc hm hsz (fun i hi => hh.c _ _ _ (h1 i hi)) ho ih
  | sln b off n cap sz es _ ih => exact .sln b off n cap sz es ih
  | slnx a sz => exact .slnx a sz
  | sl0 b off sz => exact .sl0 b off sz
  | sljn => exact .sljn
  | sljx a => exact .sljx a
  | slj b off n cap m hj hc hm ho => exact .slj b off n cap m (hh.j _ _ hj) hc hm ho
  | nilptr => exact .nilptr
  | loc b off ps vals h1 ho _ ih => exact .loc b off ps vals (fun i hi => hh.c _ _ _ (h1 i hi)) ho ih
  | agg vs ps hn ho _ ih => exact .agg vs ps hn ho ih
  | tup vs ps hn _ ih => exact .tup vs ps hn ih
  | fn f vs ps hn _ ih => exact .fn f vs ps hn ih
  | nilfn => exact .nilfn
  | nilif => exact .nilif
  | nilm => exact .nilm
  | mpure b ents c es es' h1 hw hp hn hd _ _ ih1 ih2 => exact .mpure b ents c es es' (hh.c _ _ _ h1) hw hp hn hd ih1 ih2
  | ifc t v p _ ih => exact .ifc t v p ih

/-- The ghost state: the cells that stay; where the boxes lie; what the tokens own. -/
structure Gh where
  h : HMap
  blk : Nat → Option Nat
  tok : Nat → Option (Nat × Nat × Nat)
  ty : Nat → Option (TypeId × Nat)

structure Gh.le (g g' : Gh) : Prop where
  h : g.h.le g'.h
  blk : ∀ i b, g.blk i = some b → g'.blk i = some b
  tok : ∀ i r, g.tok i = some r → g'.tok i = some r
  ty : ∀ b T, g.ty b = some T → g'.ty b = some T

theorem Gh.le.typed {g g' : Gh} (h : g.le g') {b : Nat} (ht : g.ty b ≠ none) : g'.ty b ≠ none := by
  cases e : g.ty b with
  | none => exact absurd e ht
  | some T => rw [h.ty b T e]; simp
theorem Gh.le_refl (g : Gh) : g.le g := ⟨HMap.le_refl _, fun _ _ e => e, fun _ _ e => e, fun _ _ e => e⟩
theorem Gh.le_trans {a b c : Gh} (x : a.le b) (y : b.le c) : a.le c :=
  ⟨HMap.le_trans x.h y.h, fun _ _ e => y.blk _ _ (x.blk _ _ e), fun _ _ e => y.tok _ _ (x.tok _ _ e), fun _ _ e => y.ty _ _ (x.ty _ _ e)⟩

/-- Where a slice's spare room lies. -/
def spare (v : Value) (sz : Nat) : Option (Nat × Nat × Nat) :=
  match v with
  | .slice (some a) n cap => if cap = 0 then none else some (a.block, a.off + n * sz, a.off + cap * sz)
  | _ => none

/-- A slice with room begins where its row begins, and the row is of that type. -/
def RowT (g : Gh) (v : Value) (e : TypeId) : Prop := ∀ a n c, v = .slice (some a) n c → a.spot = none ∧ c ≠ 0 ∧ a.off = 0 ∧ ∃ m, g.ty a.block = some (e, m)

inductive Rel (g : Gh) : Value → PV → Prop
  | pure (v p) (h : PRel g.h v p) : Rel g v p
  | slt (v sz es k) (h : PRel g.h v (.sl sz es)) (ht : ∀ b lo hi, spare v sz = some (b, lo, hi) → 0 < hi → g.tok k = some (b, lo, hi)) : Rel g v (.slt sz es k)
  | box (id off b) (h : g.blk id = some b) (ht : g.ty b ≠ none) : Rel g (.pointer (some ⟨b, off, none⟩)) (.box id off)
  | slb (id off n sz cap b) (h : g.blk id = some b) (ht : g.ty b ≠ none) (hc : n ≤ cap) (hm : cap ≤ maxLen) : Rel g (.slice (some ⟨b, off, none⟩) n cap) (.slb id off n sz)
  | slg (id n sz cap b T m) (h : g.blk id = some b) (ht : g.ty b = some (T, m)) (hc : n ≤ cap) (hm : cap ≤ maxLen) (hr : cap * sz ≤ m) : Rel g (.slice (some ⟨b, 0, none⟩) n cap) (.slg id n sz)
  | agg (vs : Array Value) (ps : List PV) (hn : vs.size = ps.length) (ho : ∀ (i : Nat) (v : Value), vs[i]? = some v → v.oneCell' = true)
      (hp : ∀ (i : Nat) (v : Value) (p : PV), vs[i]? = some v → ps[i]? = some p → Rel g v p) : Rel g (.agg vs) (.agg ps)
  | tup (vs : Array Value) (ps : List PV) (hn : vs.size = ps.length)
      (hp : ∀ (i : Nat) (v : Value) (p : PV), vs[i]? = some v → ps[i]? = some p → Rel g v p) : Rel g (.tuple vs) (.tup ps)
  | fn (f) (vs : Array Value) (ps : List PV) (hn : vs.size = ps.length)
      (hp : ∀ (i : Nat) (v : Value) (p : PV), vs[i]? = some v → ps[i]? = some p → Rel g v p) : Rel g (.func (.func f) #[] vs) (.fn f ps)
  | mref (id b) (h : g.blk id = some b) : Rel g (.map (some b)) (.mref id)
  | iref (id b) (h : g.blk id = some b) : Rel g (.pointer (some ⟨b, 0, none⟩)) (.iref id)
  | yld (id b) (h : g.blk id = some b) : Rel g (.func (.yield b) #[] #[]) (.yld id)
  | given (v c p) (h : c = true → Rel g v p) (hu : c = false → v = undef) : Rel g v (.given c p)
  | nbp (v T id b) (h : g.blk id = some b) (ht : g.ty b = some (T, 2)) (hv : v = .pointer none ∨ v = .pointer (some ⟨b, 0, none⟩)) : Rel g v (.nbp T id)
  | bsl (v e es k) (h : PRel g.h v (.sl 1 es)) (ht : ∀ b lo hi, spare v 1 = some (b, lo, hi) → 0 < hi → g.tok k = some (b, lo, hi)) (hT : RowT g v e) : Rel g v (.bsl e es k)

theorem Rel.mono {g g' : Gh} (hg : g.le g') {v : Value} {p : PV} (r : Rel g v p) : Rel g' v p := by
  induction r with
  | pure v p h => exact .pure v p (h.mono hg.h)
  | slt v sz es k h ht => exact .slt v sz es k (h.mono hg.h) (fun b lo hi hr hl => hg.tok _ _ (ht b lo hi hr hl))
  | box id off b h ht => exact .box id off b (hg.blk _ _ h) (hg.typed ht)
  | slb id off n sz cap b h ht hc hm => exact .slb id off n sz cap b (hg.blk _ _ h) (hg.typed ht) hc hm
  | slg id n sz cap b T m h ht hc hm hr => exact .slg id n sz cap b T m (hg.blk _ _ h) (hg.ty _ _ ht) hc hm hr
  | agg vs ps hn ho _ ih => exact .agg vs ps hn ho ih
  | tup vs ps hn _ ih => exact .tup vs ps hn ih
  | fn f vs ps hn _ ih => exact .fn f vs ps hn ih
  | mref id b h => exact .mref id b (hg.blk _ _ h)
  | iref id b h => exact .iref id b (hg.blk _ _ h)
  | yld id b h => exact .yld id b (hg.blk _ _ h)
  | given v c p _ hu ih => exact .given v c p ih hu
  | nbp v T id b h ht hv => exact .nbp v T id b (hg.blk _ _ h) (hg.ty _ _ ht) hv
  | bsl v e es k h ht hT => exact .bsl v e es k (h.mono hg.h) (fun b lo hi hr hl => hg.tok _ _ (ht b lo hi hr hl)) (fun a n c hv => by obtain ⟨h0, h1, h2, m, h⟩ := hT a n c hv; exact ⟨h0, h1, h2, m, hg.ty _ _ h⟩)

/-! Inversions. -/
section
variable {g : Gh} {v : Value}
theorem Rel.bool_inv {b} (r : Rel g v (.bool b)) : v = .bool b := by
  cases r with | pure _ _ h => cases h; rfl
theorem Rel.int_inv {k n} (r : Rel g v (.int k n)) : v = .int k n := by
  cases r with | pure _ _ h => cases h; rfl
theorem Rel.str_inv {s} (r : Rel g v (.str s)) : v = .string ⟨⟨s⟩⟩ := by
  cases r with | pure _ _ h => cases h; rfl
theorem Rel.nilsl_inv (r : Rel g v .nilsl) : v = .slice none 0 0 := by
  cases r with | pure _ _ h => cases h; rfl
theorem Rel.nilptr_inv (r : Rel g v .nilptr) : v = .pointer none := by
  cases r with | pure _ _ h => cases h; rfl
theorem Rel.nilfn_inv (r : Rel g v .nilfn) : v = .nilFunc := by
  cases r with | pure _ _ h => cases h; rfl
theorem Rel.nilm_inv (r : Rel g v .nilm) : v = .map none := by
  cases r with | pure _ _ h => cases h; rfl
theorem Rel.mobj_inv {es} (r : Rel g v (.mobj es)) : False := by
  cases r with | pure _ _ h => cases h
theorem Rel.mpure_inv {es} (r : Rel g v (.mpure es)) : PRel g.h v (.mpure es) := by
  cases r with | pure _ _ h => exact h
theorem Rel.nilif_inv (r : Rel g v .nilif) : v = .nilIface := by
  cases r with | pure _ _ h => cases h; rfl
theorem Rel.sl_inv {sz es} (r : Rel g v (.sl sz es)) : PRel g.h v (.sl sz es) := by
  cases r with | pure _ _ h => exact h
theorem Rel.sln_inv {sz es} (r : Rel g v (.sln sz es)) : PRel g.h v (.sl sz es) ∧ ∃ a n cap, v = .slice (some a) n cap := by
  cases r with | pure _ _ h => cases h with | sln b off n cap _ _ hr => exact ⟨hr, _, _, _, rfl⟩ | slnx a => exact ⟨.slx a _, _, _, _, rfl⟩
theorem Rel.sl0_inv {sz} (r : Rel g v (.sl0 sz)) : ∃ b off, v = .slice (some ⟨b, off, none⟩) 0 0 := by
  cases r with | pure _ _ h => cases h with | sl0 b off => exact ⟨b, off, rfl⟩
theorem Rel.loc_inv {ps} (r : Rel g v (.loc ps)) : PRel g.h v (.loc ps) := by
  cases r with | pure _ _ h => exact h
theorem Rel.box_inv {id off} (r : Rel g v (.box id off)) : ∃ b, g.blk id = some b ∧ v = .pointer (some ⟨b, off, none⟩) := by
  cases r with
  | pure _ _ h => cases h
  | box _ _ b h => exact ⟨b, h, rfl⟩
theorem Rel.box_ty {id off} (r : Rel g v (.box id off)) {b : Nat} (hb : g.blk id = some b) : g.ty b ≠ none := by
  cases r with
  | pure _ _ h => cases h
  | box _ _ b h ht => rw [hb] at h; cases h; exact ht
theorem Rel.slb_ty {id off n sz} (r : Rel g v (.slb id off n sz)) {b : Nat} (hb : g.blk id = some b) : g.ty b ≠ none := by
  cases r with
  | pure _ _ h => cases h
  | slb _ _ _ _ cap b h ht => rw [hb] at h; cases h; exact ht
theorem Rel.slg_inv {id n sz} (r : Rel g v (.slg id n sz)) : ∃ b cap T m, g.blk id = some b ∧ v = .slice (some ⟨b, 0, none⟩) n cap ∧ n ≤ cap ∧ cap ≤ maxLen ∧ g.ty b = some (T, m) ∧ cap * sz ≤ m := by
  cases r with
  | pure _ _ h => cases h
  | slg _ _ _ cap b T m h ht hc hm hr => exact ⟨b, cap, T, m, h, rfl, hc, hm, ht, hr⟩
theorem Rel.slb_inv {id off n sz} (r : Rel g v (.slb id off n sz)) : ∃ b cap, g.blk id = some b ∧ v = .slice (some ⟨b, off, none⟩) n cap ∧ n ≤ cap ∧ cap ≤ maxLen := by
  cases r with
  | pure _ _ h => cases h
  | slb _ _ _ _ cap b h ht hc hm => exact ⟨b, cap, h, rfl, hc, hm⟩
theorem Rel.nbp_inv {T id} (r : Rel g v (.nbp T id)) : ∃ b, g.blk id = some b ∧ g.ty b = some (T, 2) ∧ (v = .pointer none ∨ v = .pointer (some ⟨b, 0, none⟩)) := by
  cases r with
  | pure _ _ h => cases h
  | nbp _ _ _ b h ht hv => exact ⟨b, h, ht, hv⟩
theorem Rel.bsl_inv {e es k} (r : Rel g v (.bsl e es k)) : PRel g.h v (.sl 1 es) ∧ (∀ b lo hi, spare v 1 = some (b, lo, hi) → 0 < hi → g.tok k = some (b, lo, hi)) ∧ RowT g v e := by
  cases r with
  | pure _ _ h => cases h
  | bsl _ _ _ _ h ht hT => exact ⟨h, ht, hT⟩
theorem Rel.slt_inv {sz es k} (r : Rel g v (.slt sz es k)) : PRel g.h v (.sl sz es) ∧ ∀ b lo hi, spare v sz = some (b, lo, hi) → 0 < hi → g.tok k = some (b, lo, hi) := by
  cases r with
  | pure _ _ h => cases h
  | slt _ _ _ _ h ht => exact ⟨h, ht⟩
theorem Rel.agg_inv {ps} (r : Rel g v (.agg ps)) : ∃ vs : Array Value, v = .agg vs ∧ vs.size = ps.length ∧ (∀ (i : Nat) (v : Value), vs[i]? = some v → v.oneCell' = true) ∧
    ∀ (i : Nat) (v : Value) (p : PV), vs[i]? = some v → ps[i]? = some p → Rel g v p := by
  cases r with
  | pure _ _ h => cases h with | agg vs ps hn ho hp => exact ⟨vs, rfl, hn, ho, fun i v p a b => .pure _ _ (hp i v p a b)⟩
  | agg vs ps hn ho hp => exact ⟨vs, rfl, hn, ho, hp⟩
theorem Rel.tup_inv {ps} (r : Rel g v (.tup ps)) : ∃ vs : Array Value, v = .tuple vs ∧ vs.size = ps.length ∧
    ∀ (i : Nat) (v : Value) (p : PV), vs[i]? = some v → ps[i]? = some p → Rel g v p := by
  cases r with
  | pure _ _ h => cases h with | tup vs ps hn hp => exact ⟨vs, rfl, hn, fun i v p a b => .pure _ _ (hp i v p a b)⟩
  | tup vs ps hn hp => exact ⟨vs, rfl, hn, hp⟩
theorem Rel.fn_inv {f ps} (r : Rel g v (.fn f ps)) : ∃ vs : Array Value, v = .func (.func f) #[] vs ∧ vs.size = ps.length ∧
    ∀ (i : Nat) (v : Value) (p : PV), vs[i]? = some v → ps[i]? = some p → Rel g v p := by
  cases r with
  | pure _ _ h => cases h with | fn f vs ps hn hp => exact ⟨vs, rfl, hn, fun i v p a b => .pure _ _ (hp i v p a b)⟩
  | fn f vs ps hn hp => exact ⟨vs, rfl, hn, hp⟩
theorem Rel.mref_inv {id} (r : Rel g v (.mref id)) : ∃ b, g.blk id = some b ∧ v = .map (some b) := by
  cases r with
  | pure _ _ h => cases h
  | mref _ b h => exact ⟨b, h, rfl⟩
theorem Rel.slj_inv {n} (r : Rel g v (.slj n)) : PRel g.h v (.slj n) := by
  cases r with | pure _ _ h => exact h
theorem PRel.slj_view {h : HMap} {n : Nat} (r : PRel h v (.slj n)) : ∃ (a : Option Addr) (cap : Nat), v = .slice a n cap ∧ n ≤ cap ∧ cap ≤ maxLen ∧ (a = none → cap = 0) ∧ (cap ≠ 0 → ∃ b off m, a = some ⟨b, off, none⟩ ∧ h.j b = some m ∧ off + cap ≤ m) := by
  cases r with
  | sljn => exact ⟨none, 0, rfl, Nat.le_refl _, by simp, fun _ => rfl, fun h => absurd rfl h⟩
  | sljx a => exact ⟨some a, 0, rfl, Nat.le_refl _, by simp, fun h => (by cases h), fun h => absurd rfl h⟩
  | slj b off n cap m hj hc hm ho => exact ⟨some ⟨b, off, none⟩, cap, rfl, hc, hm, fun h => (by cases h), fun _ => ⟨b, off, m, rfl, hj, ho⟩⟩
theorem Rel.iref_inv {id} (r : Rel g v (.iref id)) : ∃ b, g.blk id = some b ∧ v = .pointer (some ⟨b, 0, none⟩) := by
  cases r with
  | pure _ _ h => cases h
  | iref _ b h => exact ⟨b, h, rfl⟩
theorem Rel.yld_inv {id} (r : Rel g v (.yld id)) : ∃ b, g.blk id = some b ∧ v = .func (.yield b) #[] #[] := by
  cases r with
  | pure _ _ h => cases h
  | yld _ b h => exact ⟨b, h, rfl⟩
theorem Rel.ifc_inv {t p} (r : Rel g v (.ifc t p)) : ∃ u, v = .iface t u ∧ PRel g.h u p := by
  cases r with | pure _ _ h => cases h with | ifc _ u _ h => exact ⟨u, rfl, h⟩
theorem Rel.given_inv {c p} (r : Rel g v (.given c p)) : (c = true → Rel g v p) ∧ (c = false → v = undef) := by
  cases r with
  | pure _ _ h => cases h
  | given _ _ _ h hu => exact ⟨h, hu⟩
end

/-- What a slice that is read holds, whatever it is. -/
theorem PRel.sl_view {h : HMap} {v : Value} {sz : Nat} {es : List PV} (r : PRel h v (.sl sz es)) :
    ∃ (a : Option Addr) (cap : Nat), v = .slice a es.length cap ∧ es.length ≤ cap ∧ cap ≤ maxLen ∧ (∀ p ∈ es, p.cells.length = sz) ∧
      (a = none → es = [] ∧ cap = 0) ∧
      (∀ x, a = some x → (x.spot = none ∨ (es = [] ∧ cap = 0)) ∧ ∃ vals : Nat → Value, (∀ i, i < (es.flatMap PV.cells).length → h x.block (x.off + i) = some (vals i)) ∧
        (∀ i, i < (es.flatMap PV.cells).length → (vals i).oneCell' = true) ∧ (∀ (i : Nat) (p : PV), (es.flatMap PV.cells)[i]? = some p → PRel h (vals i) p)) := by
  cases r with
  | slnil => exact ⟨none, 0, rfl, Nat.le_refl _, by simp, by simp, by simp, by simp⟩
  | slx a => exact ⟨some a, 0, rfl, Nat.le_refl _, by simp, by simp, by simp, fun x hx => ⟨.inr ⟨rfl, rfl⟩, fun _ => .bool false, by simp, by simp, by simp⟩⟩
  | sl b off n cap sz es vals hn hc hm hsz hh ho hp =>
    subst hn
    exact ⟨some ⟨b, off, none⟩, cap, rfl, hc, hm, hsz, by simp, fun x hx => by cases hx; exact ⟨.inl rfl, vals, hh, ho, hp⟩⟩

/-- Flattened lengths. -/
theorem flat_length {sz : Nat} : ∀ {es : List PV}, (∀ p ∈ es, p.cells.length = sz) → (es.flatMap PV.cells).length = es.length * sz
  | [], _ => by simp
  | p :: es, h => by
    have ih := flat_length (sz := sz) (es := es) (fun q hq => h q (List.mem_cons_of_mem _ hq))
    simp only [List.flatMap_cons, List.length_append, ih, List.length_cons, h p (List.mem_cons_self ..), Nat.add_mul, Nat.one_mul]
    omega

theorem flat_get {sz : Nat} : ∀ {es : List PV}, (∀ p ∈ es, p.cells.length = sz) → ∀ {j i : Nat} {p : PV}, es[j]? = some p → i < sz →
    (es.flatMap PV.cells)[j * sz + i]? = p.cells[i]?
  | [], _, j, i, p, hj, _ => by simp at hj
  | q :: es, h, 0, i, p, hj, hi => by
    simp at hj; subst hj
    have := h q (List.mem_cons_self ..)
    simp only [List.flatMap_cons, Nat.zero_mul, Nat.zero_add]
    rw [List.getElem?_append_left (by omega)]
  | q :: es, h, j + 1, i, p, hj, hi => by
    have hq := h q (List.mem_cons_self ..)
    have ih := flat_get (sz := sz) (es := es) (fun q hq => h q (List.mem_cons_of_mem _ hq)) (j := j) (i := i) (p := p) (by simpa using hj) hi
    simp only [List.flatMap_cons]
    rw [List.getElem?_append_right (by rw [hq, Nat.add_mul]; omega), hq, show (j + 1) * sz + i - sz = j * sz + i by rw [Nat.add_mul]; omega]
    exact ih

/-! States. -/
def lkp {α : Type} (d : α) : List (Nat × α) → Nat → α
  | [], _ => d
  | (k, x) :: l, t => if k = t then x else lkp d l t

/-- n: how many temporaries; env: what they are; objs: the boxes; live: the tokens that own; nxt: the next number of a box or token. -/
structure PS where
  n : Nat
  env : List (Nat × PV)
  objs : List (Nat × Option (List PV))
  live : List (Nat × Bool)
  nxt : Nat

def PS.get (S : PS) (t : Nat) : PV := lkp .any S.env t
def PS.obj (S : PS) (i : Nat) : Option (List PV) := lkp none S.objs i
def PS.lv (S : PS) (k : Nat) : Bool := lkp false S.live k

/-- The cells that a state may write. -/
def Own (g : Gh) (S : PS) (b o : Nat) : Prop :=
  (∃ id, S.obj id ≠ none ∧ g.blk id = some b) ∨ (∃ k lo hi, S.lv k = true ∧ g.tok k = some (b, lo, hi) ∧ 0 < hi ∧ lo ≤ o ∧ o ≤ hi) ∨ g.h.j b ≠ none

/-- None of so many cells is frozen. -/
def FrOk (fr : Nat × Nat) (n : Nat) : Prop := ∀ o, o < n → ¬ (fr.1 ≤ o ∧ o < fr.2)
theorem FrOk.zero (n : Nat) : FrOk (0, 0) n := fun o _ h => by simp at h
theorem FrOk.frozen {w : World} {b : Nat} {vals : Array Value} {T fr} (h : w.heap[b]? = some (.cells vals T fr)) (hf : FrOk fr vals.size) {o : Nat} (ho : o < vals.size) : w.frozen? ⟨b, o, none⟩ = false := by
  have := hf o ho
  simp only [World.frozen?, h]
  simpa using this

/-- Entries stand for these. -/
def EntRel (h : HMap) (ents : Array MapEntry) (es : List (PV × PV)) : Prop :=
  ∃ es' : List (PV × PV), es'.Perm es ∧ ents.size = es'.length ∧
    (∀ (i : Nat) (e : MapEntry) (q : PV × PV), ents[i]? = some e → es'[i]? = some q → PRel h e.key q.1) ∧ (∀ (i : Nat) (e : MapEntry) (q : PV × PV), ents[i]? = some e → es'[i]? = some q → PRel h e.val q.2)
theorem EntRel.mono {h h' : HMap} (hh : h.le h') {ents es} (r : EntRel h ents es) : EntRel h' ents es := by
  obtain ⟨es', a, b, d, e⟩ := r
  exact ⟨es', a, b, fun i x q h1 h2 => (d i x q h1 h2).mono hh, fun i x q h1 h2 => (e i x q h1 h2).mono hh⟩
/-- A map's entries and clock stand for these. -/
def MapRel (h : HMap) (ents : Array MapEntry) (c : Nat) (es : List (PV × PV)) : Prop :=
  WB ents c ∧ ∃ es' : List (PV × PV), es'.Perm es ∧ ents.size = es'.length ∧ (es.map Prod.fst).Nodup ∧
    (∀ (i : Nat) (e : MapEntry) (q : PV × PV), ents[i]? = some e → es'[i]? = some q → PRel h e.key q.1) ∧ (∀ (i : Nat) (e : MapEntry) (q : PV × PV), ents[i]? = some e → es'[i]? = some q → PRel h e.val q.2)
theorem MapRel.mono {h h' : HMap} (hh : h.le h') {ents c es} (r : MapRel h ents c es) : MapRel h' ents c es := by
  obtain ⟨w, es', a, b, c, d, e⟩ := r
  exact ⟨w, es', a, b, c, fun i x q h1 h2 => (d i x q h1 h2).mono hh, fun i x q h1 h2 => (e i x q h1 h2).mono hh⟩
theorem MapRel.ent {h : HMap} {ents c es} (r : MapRel h ents c es) : EntRel h ents es := by
  obtain ⟨w, es', a, b, c, d, e⟩ := r
  exact ⟨es', a, b, d, e⟩
/-- Where a range over a map stands: what it gave last, and what is left. -/
def IterAt (h : HMap) (x : Option Obj) (cur : List PV) (es : List (PV × PV)) : Prop :=
  (x = some (.mapIter none 0 #[] 0) ∧ cur = [] ∧ es = []) ∨
  ∃ bm ents c seen, x = some (.mapIter (some bm) c seen c) ∧ h bm 0 = some (encM ents c) ∧ WB ents c ∧ EntRel h (leftOf ents seen) es ∧
    (cur = [] ∨ ∃ e k v, cur = [k, v] ∧ seen.back? = some e.born ∧ e ∈ ents.toList ∧ PRel h e.key k ∧ PRel h e.val v)
theorem IterAt.mono {h h' : HMap} (hg : h.le h') {x cur es} (r : IterAt h x cur es) : IterAt h' x cur es := by
  rcases r with h1 | ⟨bm, ents, c, seen, h1, h2, h3, h5, h6⟩
  · exact .inl h1
  · refine .inr ⟨bm, ents, c, seen, h1, hg.c _ _ _ h2, h3, h5.mono hg, h6.imp id ?_⟩
    rintro ⟨e, k, v, a, b, d, k1, k2⟩
    exact ⟨e, k, v, a, b, d, k1.mono hg, k2.mono hg⟩
theorem IterAt.some {h : HMap} {x cur es} (r : IterAt h x cur es) : ∃ m s c a, x = some (.mapIter m s c a) := by
  rcases r with ⟨h1, _⟩ | ⟨bm, ents, c, seen, h1, _⟩ <;> exact ⟨_, _, _, _, h1⟩
def IsIter (h : HMap) (x : Option Obj) (ps : List PV) : Prop := ∃ cur es p0 p1, ps = [p0, p1] ∧ (p0 = .tup cur ∨ p0 = .any) ∧ (p1 = .mobj es ∨ p1 = .any) ∧ IterAt h x cur es
theorem IsIter.mono {h h' : HMap} (hg : h.le h') {x ps} (r : IsIter h x ps) : IsIter h' x ps := by
  obtain ⟨cur, es, p0, p1, a, b, c, d⟩ := r
  exact ⟨cur, es, p0, p1, a, b, c, d.mono hg⟩
theorem IsIter.some {h : HMap} {x ps} (r : IsIter h x ps) : ∃ m s c a, x = some (.mapIter m s c a) := by
  obtain ⟨cur, es, p0, p1, a, b, c, d⟩ := r
  exact d.some

/-- What a box is: a row of cells; a map. -/
def IsRow (g : Gh) (x : Option Obj) (ps : List PV) : Prop :=
  ∃ vals T fr, x = some (.cells vals T fr) ∧ FrOk fr vals.size ∧ ps.length ≤ vals.size ∧
    (∀ (i : Nat) (v : Value), vals[i]? = some v → v.oneCell' = true) ∧ (∀ (i : Nat) (v : Value) (p : PV), vals[i]? = some v → ps[i]? = some p → Rel g v p)
def IsMap (h : HMap) (x : Option Obj) (ps : List PV) : Prop := ∃ es ents c, (ps = [.mobj es] ∨ ps = [.any]) ∧ x = some (.map ents c) ∧ MapRel h ents c es
def ObjAt (g : Gh) (x : Option Obj) (ps : List PV) : Prop := IsRow g x ps ∨ IsMap g.h x ps ∨ IsIter g.h x ps
theorem IsRow.mono {g g' : Gh} (hg : g.le g') {x ps} (h : IsRow g x ps) : IsRow g' x ps := by
  obtain ⟨vals, T, fr, h1, h2, h3, h4, h5⟩ := h
  exact ⟨vals, T, fr, h1, h2, h3, h4, fun i v p a b => (h5 i v p a b).mono hg⟩
theorem IsMap.mono {h h' : HMap} (hg : h.le h') {x ps} (r : IsMap h x ps) : IsMap h' x ps := by
  obtain ⟨es, ents, c, h1, h2, h3⟩ := r
  exact ⟨es, ents, c, h1, h2, h3.mono hg⟩
theorem ObjAt.mono {g g' : Gh} (hg : g.le g') {x ps} (h : ObjAt g x ps) : ObjAt g' x ps := h.imp (fun h => h.mono hg) (fun h => h.imp (fun h => h.mono hg.h) (fun h => h.mono hg.h))
theorem ObjAt.some {g : Gh} {x ps} (h : ObjAt g x ps) : ∃ y, x = some y := by
  rcases h with ⟨vals, T, fr, h1, _⟩ | ⟨es, ents, c, _, h1, _⟩ | h
  · exact ⟨_, h1⟩
  · exact ⟨_, h1⟩
  · obtain ⟨m, s, c, a, h1⟩ := h.some; exact ⟨_, h1⟩
theorem ObjAt.lt {g : Gh} {w : World} {b ps} (h : ObjAt g w.heap[b]? ps) : b < w.heap.size := by
  obtain ⟨y, h⟩ := h.some
  exact (Array.getElem?_eq_some_iff.1 h).1

variable [GTab]
structure InvW (g : Gh) (S : PS) (w : World) : Prop where
  hw : ∀ b o v, g.h b o = some v → wcell w b o = some v
  objs : ∀ id ps, S.obj id = some ps → ∃ b, g.blk id = some b ∧ ObjAt g w.heap[b]? ps ∧ (∀ o, g.h b o = none)
  inj : ∀ id id' b, S.obj id ≠ none → S.obj id' ≠ none → g.blk id = some b → g.blk id' = some b → id = id'
  toks : ∀ k, S.lv k = true → ∃ b lo hi, g.tok k = some (b, lo, hi) ∧ (0 < hi → (∃ vals T fr, w.heap[b]? = some (.cells vals T fr) ∧ FrOk fr vals.size ∧ hi ≤ vals.size ∧ lo ≤ hi) ∧
    (∀ o, lo ≤ o → o < hi → g.h b o = none) ∧ (∀ id, S.obj id ≠ none → g.blk id ≠ some b))
  tokd : ∀ k k' b lo hi lo' hi', S.lv k = true → S.lv k' = true → k ≠ k' → g.tok k = some (b, lo, hi) → g.tok k' = some (b, lo', hi') →
    hi = 0 ∨ hi' = 0
  jnk : ∀ b m, g.h.j b = some m → (∃ vals T fr, w.heap[b]? = some (.cells vals T fr) ∧ FrOk fr vals.size ∧ vals.size = m ∧ ∀ (i : Nat) (v : Value), vals[i]? = some v → v.oneCell' = true) ∧
    (∀ o, g.h b o = none) ∧ (∀ id, S.obj id ≠ none → g.blk id ≠ some b) ∧ ∀ k lo hi, S.lv k = true → g.tok k = some (b, lo, hi) → hi = 0
  tys : ∀ b T m, g.ty b = some (T, m) → ∃ vals fr, w.heap[b]? = some (.cells vals T fr) ∧ vals.size = m
  gl : ∀ k ps, gat GTab.tab k = some ps → PRel g.h (.pointer (some ⟨k, 0, none⟩)) (.loc ps)

theorem InvW.cell {g : Gh} {S : PS} {w : World} (hI : InvW g S w) {b o : Nat} {v : Value} (h : g.h b o = some v) (h1 : v.oneCell' = true) : w.cell? ⟨b, o, none⟩ = some v := wcell_cell (hI.hw b o v h) h1
/-- A box whose block is typed is a row. -/
theorem InvW.row {g : Gh} {S : PS} {w : World} (hI : InvW g S w) {id b : Nat} {ps : List PV} (ho : S.obj id = some ps) (hb : g.blk id = some b) (ht : g.ty b ≠ none) :
    ∃ vals T fr, w.heap[b]? = some (.cells vals T fr) ∧ FrOk fr vals.size ∧ ps.length ≤ vals.size ∧
    (∀ (i : Nat) (v : Value), vals[i]? = some v → v.oneCell' = true) ∧ (∀ (i : Nat) (v : Value) (p : PV), vals[i]? = some v → ps[i]? = some p → Rel g v p) ∧ (∀ o, g.h b o = none) := by
  obtain ⟨b', h1, h2, h3⟩ := hI.objs id ps ho
  rw [hb] at h1; cases h1
  have hno : ∀ x, w.heap[b]? = some x → (∀ vals T fr, x ≠ .cells vals T fr) → False := by
    intro x h4 hx
    cases e : g.ty b with
    | none => exact ht e
    | some T =>
      obtain ⟨T, m⟩ := T
      obtain ⟨vals, fr, h5, _⟩ := hI.tys b T m e
      rw [h4] at h5; cases h5; exact hx _ _ _ rfl
  rcases h2 with ⟨vals, T, fr, a, b', c, d, e⟩ | ⟨es, ents, c, _, h4, _⟩ | h4
  · exact ⟨vals, T, fr, a, b', c, d, e, h3⟩
  · exact (hno _ h4 (fun _ _ _ e => by cases e)).elim
  · obtain ⟨m, s, c, a, h4⟩ := h4.some
    exact (hno _ h4 (fun _ _ _ e => by cases e)).elim
theorem InvW.glm {g g' : Gh} {S : PS} {w : World} (hI : InvW g S w) (hle : g.h.le g'.h) : ∀ k ps, gat GTab.tab k = some ps → PRel g'.h (.pointer (some ⟨k, 0, none⟩)) (.loc ps) :=
  fun k ps h => (hI.gl k ps h).mono hle

theorem InvW.jnk_lt {g : Gh} {S : PS} {w : World} (hI : InvW g S w) {b m : Nat} (h : g.h.j b = some m) : b < w.heap.size := by
  obtain ⟨⟨vals, T, fr, h1, _⟩, _⟩ := hI.jnk b m h
  exact (Array.getElem?_eq_some_iff.1 h1).1
theorem InvW.jnk_gen {g g' : Gh} {S S' : PS} {w w' : World} (hI : InvW g S w) (hj : ∀ b m, g'.h.j b = some m → g.h.j b = some m) (hb : ∀ b m, g.h.j b = some m → w'.heap[b]? = w.heap[b]?)
    (hh : ∀ b m o, g.h.j b = some m → g'.h b o = none) (ho : ∀ id b m, g.h.j b = some m → S'.obj id ≠ none → g'.blk id = some b → ∃ id', S.obj id' ≠ none ∧ g.blk id' = some b)
    (ht : ∀ k b m lo hi, g.h.j b = some m → S'.lv k = true → g'.tok k = some (b, lo, hi) → 0 < hi → ∃ k' lo' hi', S.lv k' = true ∧ g.tok k' = some (b, lo', hi') ∧ 0 < hi') :
    ∀ b m, g'.h.j b = some m → (∃ vals T fr, w'.heap[b]? = some (.cells vals T fr) ∧ FrOk fr vals.size ∧ vals.size = m ∧ ∀ (i : Nat) (v : Value), vals[i]? = some v → v.oneCell' = true) ∧
      (∀ o, g'.h b o = none) ∧ (∀ id, S'.obj id ≠ none → g'.blk id ≠ some b) ∧ ∀ k lo hi, S'.lv k = true → g'.tok k = some (b, lo, hi) → hi = 0 := by
  intro b m h
  have h0 := hj b m h
  obtain ⟨h1, h2, h3, h4⟩ := hI.jnk b m h0
  refine ⟨by rw [hb b m h0]; exact h1, fun o => hh b m o h0, fun id hid hbk => ?_, fun k lo hi hk hkt => ?_⟩
  · obtain ⟨id', a1, a2⟩ := ho id b m h0 hid hbk
    exact h3 id' a1 a2
  · rcases Nat.eq_zero_or_pos hi with e | e
    · exact e
    · obtain ⟨k', lo', hi', a1, a2, a3⟩ := ht k b m lo hi h0 hk hkt e
      have := h4 k' lo' hi' a1 a2
      omega
theorem InvW.jnk_of {g g' : Gh} {S S' : PS} {w w' : World} (hI : InvW g S w) (hj : ∀ b m, g'.h.j b = some m → g.h.j b = some m) (hb : ∀ b m, g.h.j b = some m → w'.heap[b]? = w.heap[b]?)
    (hh : ∀ b m o, g.h.j b = some m → g'.h b o = none) (ho : ∀ id b m, g.h.j b = some m → S'.obj id ≠ none → g'.blk id = some b → S.obj id ≠ none ∧ g.blk id = some b)
    (ht : ∀ k b m lo hi, g.h.j b = some m → S'.lv k = true → g'.tok k = some (b, lo, hi) → 0 < hi → S.lv k = true ∧ g.tok k = some (b, lo, hi)) :
    ∀ b m, g'.h.j b = some m → (∃ vals T fr, w'.heap[b]? = some (.cells vals T fr) ∧ FrOk fr vals.size ∧ vals.size = m ∧ ∀ (i : Nat) (v : Value), vals[i]? = some v → v.oneCell' = true) ∧
      (∀ o, g'.h b o = none) ∧ (∀ id, S'.obj id ≠ none → g'.blk id ≠ some b) ∧ ∀ k lo hi, S'.lv k = true → g'.tok k = some (b, lo, hi) → hi = 0 :=
  hI.jnk_gen hj hb hh (fun id b m a b' c => ⟨id, ho id b m a b' c⟩) (fun k b m lo hi a b' c d => ⟨k, lo, hi, (ht k b m lo hi a b' c d).1, (ht k b m lo hi a b' c d).2, d⟩)
/-- A junk block is no box's, and no token's. -/
theorem InvW.jnk_obj {g : Gh} {S : PS} {w : World} (hI : InvW g S w) {id b m : Nat} (hid : S.obj id ≠ none) (hb : g.blk id = some b) (h : g.h.j b = some m) : False := (hI.jnk b m h).2.2.1 id hid hb
theorem InvW.jnk_tok {g : Gh} {S : PS} {w : World} (hI : InvW g S w) {k b m lo hi : Nat} (hk : S.lv k = true) (ht : g.tok k = some (b, lo, hi)) (hl : 0 < hi) (h : g.h.j b = some m) : False := by
  have := (hI.jnk b m h).2.2.2 k lo hi hk ht; omega

def Fresh (g : Gh) (i : Nat) : Prop := g.blk i = none ∧ g.tok i = none

/-- What becomes of a block. -/
def BlkKeep (own : Nat → Prop) (x y : Option Obj) : Prop :=
  y = x ∨ (∃ vals vals' T fr fr', x = some (.cells vals T fr) ∧ y = some (.cells vals' T fr') ∧ vals'.size = vals.size ∧ (∀ o, ¬ own o → vals'[o]? = vals[o]?) ∧ (fr' = fr ∨ ∃ o, own o)) ∨ ∀ o, own o

theorem BlkKeep.refl (own x) : BlkKeep own x x := .inl rfl
theorem BlkKeep.trans {own x y z} (a : BlkKeep own x y) (b : BlkKeep own y z) : BlkKeep own x z := by
  rcases a with rfl | ⟨v1, v2, T, f1, f2, rfl, rfl, hs, ho, hf⟩ | h
  · exact b
  · rcases b with rfl | ⟨u1, u2, T', f3, f4, h1, rfl, hs', ho', hf'⟩ | h
    · exact .inr (.inl ⟨v1, v2, T, f1, f2, rfl, rfl, hs, ho, hf⟩)
    · cases h1
      exact .inr (.inl ⟨v1, u2, T, f1, f4, rfl, rfl, hs'.trans hs, fun o hn => (ho' o hn).trans (ho o hn), hf'.elim (fun e => by rw [e]; exact hf) .inr⟩)
    · exact .inr (.inr h)
  · exact .inr (.inr h)
theorem BlkKeep.mono {own own' : Nat → Prop} {x y} (h : BlkKeep own x y) (hm : ∀ o, own o → own' o) : BlkKeep own' x y := by
  rcases h with rfl | ⟨v1, v2, T, f1, f2, rfl, rfl, hs, ho, hf⟩ | h
  · exact .inl rfl
  · exact .inr (.inl ⟨v1, v2, T, f1, f2, rfl, rfl, hs, fun o hn => ho o (fun h => hn (hm o h)), hf.elim .inl (fun ⟨o, h⟩ => .inr ⟨o, hm o h⟩)⟩)
  · exact .inr (.inr fun o => hm o (h o))

/-- What was told is as it was, and no fewer draws were made. -/
structure OutEq (w w' : World) : Prop where
  eq : w'.output = w.output
  dr : w.drawn ≤ w'.drawn
theorem OutEq.rf {w : World} : OutEq w w := ⟨rfl, Nat.le_refl _⟩
theorem OutEq.dr1 {w : World} : OutEq w { w with drawn := w.drawn + 1 } := ⟨rfl, Nat.le_succ _⟩
theorem OutEq.trans {a b c : World} (h2 : OutEq b c) (h1 : OutEq a b) : OutEq a c := ⟨h2.eq.trans h1.eq, Nat.le_trans h1.dr h2.dr⟩

structure Ext (g : Gh) (S : PS) (w : World) (g' : Gh) (S' : PS) (w' : World) : Prop where
  le : g.le g'
  new : ∀ b o v, g'.h b o = some v → g.h b o = some v ∨ w.heap.size ≤ b ∨ Own g S b o
  own : ∀ b o, b < w.heap.size → Own g' S' b o → Own g S b o
  size : w.heap.size ≤ w'.heap.size
  keep : ∀ b, b < w.heap.size → BlkKeep (Own g S b) w.heap[b]? w'.heap[b]?
  os : w'.os = w.os
  tape : w'.tape = w.tape
  output : OutEq w w'

theorem Ext.refl (g S w) : Ext g S w g S w :=
  ⟨Gh.le_refl _, fun _ _ _ h => .inl h, fun _ _ _ h => h, Nat.le_refl _, fun _ _ => .refl _ _, rfl, rfl, .rf⟩

theorem Ext.trans {g S w g₁ S₁ w₁ g₂ S₂ w₂} (a : Ext g S w g₁ S₁ w₁) (b : Ext g₁ S₁ w₁ g₂ S₂ w₂) : Ext g S w g₂ S₂ w₂ where
  le := Gh.le_trans a.le b.le
  new := by
    intro bb o v h
    rcases b.new bb o v h with h | h | h
    · exact a.new bb o v h
    · exact .inr (.inl (Nat.le_trans a.size h))
    · by_cases hb : bb < w.heap.size
      · exact .inr (.inr (a.own bb o hb h))
      · exact .inr (.inl (by omega))
  own := fun bb o hb h => a.own bb o hb (b.own bb o (Nat.lt_of_lt_of_le hb a.size) h)
  size := Nat.le_trans a.size b.size
  keep := fun bb hb => (a.keep bb hb).trans ((b.keep bb (Nat.lt_of_lt_of_le hb a.size)).mono (fun o h => a.own bb o hb h))
  os := b.os.trans a.os
  tape := b.tape.trans a.tape
  output := b.output.trans a.output

end Go.Pv
