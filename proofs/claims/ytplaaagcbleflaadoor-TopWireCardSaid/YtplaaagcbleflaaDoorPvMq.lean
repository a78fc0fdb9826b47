/- A slice that is made, as a box. -/
import Derived.Test.YtplaaagcbleflaaDoorPvXe
set_option linter.unusedSectionVars false
namespace Go.Pv
variable [GTab]
/-- A slice that is made, as a box: its elements may be written. -/
theorem callE_mk {P : Program} {nid : Nat} {o : Oper} {S : PS} {K : Dl → Prop} {c : Bool} {t e sz : Nat} {x y : Operand} {k k' : IntKind} {n m : Int} {zs : List PV} (ho : o.op = .makeSlice t x y) (hx : S.ev x = .int k n) (hy : S.ev y = .int k' m)
    (ht : tk P t = .sl e) (hs : tsz P e = sz) (hpos : 0 < sz) (hz : zc P e = some zs) (hzl : zs.length = sz) (h0 : 0 ≤ n) (hnc : n ≤ m) (hby : (tby P e : Int) * m ≤ 281474976710656) (h63 : m ≤ 9223372036854775807)
    (hg : gdOk c o { p := .slb nid 0 n.toNat sz, wr := [(nid, some (List.replicate m.toNat zs).flatten)], ok := True } = true)
    (hK : K { p := .slb nid 0 n.toNat sz, wr := [(nid, some (List.replicate m.toNat zs).flatten)], ok := True }) : callE P nid c o S K :=
  ⟨_, fun _ => makeSlice_box ho hx hy ht hs hpos hz hzl h0 hnc hby h63, hg, hK⟩
/-- '[]byte(s)', as a slice of its own. -/
theorem callE_cs {P : Program} {nid : Nat} {o : Oper} {S : PS} {K : Dl → Prop} {c : Bool} {s d e : Nat} {x : Operand} {l : List UInt8} (ho : o.op = .convert s d x) (hx : S.ev x = .str l) (hs : tk P s = .str) (hd : tk P d = .sl e) (he : tk P e = .int .u8) (hz : tsz P e = 1) (hl : l.length ≤ maxLen)
    (hg : gdOk c o { p := .slt 1 (byL l) nid, tk := [(nid, true)], ok := True } = true) (hK : K { p := .slt 1 (byL l) nid, tk := [(nid, true)], ok := True }) : callE P nid c o S K :=
  ⟨_, fun _ => conv_slt ho hx hs hd he hz hl, hg, hK⟩
/-- .. as a box. -/
theorem callE_cb {P : Program} {nid : Nat} {o : Oper} {S : PS} {K : Dl → Prop} {c : Bool} {s d e : Nat} {x : Operand} {l : List UInt8} (ho : o.op = .convert s d x) (hx : S.ev x = .str l) (hs : tk P s = .str) (hd : tk P d = .sl e) (he : tk P e = .int .u8) (hz : tsz P e = 1) (hl : l.length ≤ maxLen)
    (hg : gdOk c o { p := .slb nid 0 l.length 1, wr := [(nid, some (byL l))], ok := True } = true) (hK : K { p := .slb nid 0 l.length 1, wr := [(nid, some (byL l))], ok := True }) : callE P nid c o S K :=
  ⟨_, fun _ => conv_box ho hx hs hd he hz hl, hg, hK⟩
end Go.Pv

/- Abstract values: a contract that tells of a new map; slices that may be nil; calls that are not made. Nothing of any program. -/
set_option linter.unusedSimpArgs false
set_option linter.unusedVariables false
set_option linter.unusedSectionVars false
namespace Go.Pv
variable [GTab]
theorem Fsp.of_map {P : Program} {f : FuncId} {args : List PV} {es : List (PV × PV)} (hfn : ∃ fn, P.funcs[f]? = some fn ∧ fn.body.isSome = true ∧ (fn.name == "runtime.NumGoroutine") = false)
    (h : ∀ (g : Gh) (w : World) (vs : Array Value), InvW g (st0 [] 0) w → vs.size = args.length → (∀ (i : Nat) (v : Value) (p : PV), vs[i]? = some v → args[i]? = some p → Rel g v p) →
      Calls P f vs w (fun e w' => ∃ (ents : Array MapEntry) (c : Nat), e = .returned (.map (some w.heap.size)) ∧ Pushed w w' (.map ents c) ∧ MapRel g.h ents es)) : Fsp P f [] 0 args [[.mobj es]] 0 (.mref 0) where
  len := Nat.zero_le _
  fn := hfn
  calls := by
    intro g w vs hI hb ht hs ha
    refine (h g w vs hI hs ha).mono ?_
    rintro e w' ⟨ents, c, rfl, hp, hm⟩
    obtain ⟨h1, h2, h3, h4⟩ := newMapBox hI (nid := 0) ⟨hb 0 (Nat.le_refl _), ht 0 (Nat.le_refl _)⟩ hp hm (δ := { p := .any, wr := [(0, some [.mobj es])], ok := True }) rfl rfl
    have e1 : ∀ i, ((st0 [] 0).app { p := .any, wr := [(0, some [.mobj es])], ok := True }).obj i = (st0 [[.mobj es]] 0).obj i := fun i => rfl
    have e2 : ∀ k, ((st0 [] 0).app { p := .any, wr := [(0, some [.mobj es])], ok := True }).lv k = (st0 [[.mobj es]] 0).lv k := fun k => rfl
    refine ⟨_, g.mbox 0 w.heap.size, rfl, h1.of_eq e1 e2, ?_, fun _ h => by simp at h, fun i h1 h2 => ?_, h4⟩
    · exact ⟨h2.le.h, h2.le.ty, fun b o v h => h2.new b o v h, fun b o hb ho => h2.own b o hb (Own.of_eq (fun i => (e1 i).symm) (fun k => (e2 k).symm) ho), h2.size, h2.keep, h2.os, h2.tape, h2.output⟩
    · have : i = 0 := by simp at h2; omega
      subst this
      exact ⟨w.heap.size, (by simp [Gh.mbox]), Nat.le_refl _⟩
/-- A slice that may be nil. -/
theorem of_sl' {P : Program} {f : FuncId} {bs bs' : List (List PV)} {nt nt' : Nat} {sz : Nat} {es : List PV} {args : List PV} {r : PV} (h1 : es = [] → Fsp P f bs nt (.nilsl :: args) bs' nt' r) (h2 : Fsp P f bs nt (.sln sz es :: args) bs' nt' r) :
    Fsp P f bs nt (.sl sz es :: args) bs' nt' r where
  len := h2.len
  fn := h2.fn
  calls := fun g w vs hI hb ht hs ha => by
    obtain ⟨v, hv⟩ : ∃ v, vs[0]? = some v := ⟨vs[0]'(by rw [hs]; simp), by simp⟩
    have hr := (ha 0 v _ hv rfl).sl_inv
    have rest : ∀ (q : PV), Rel g v q → ∀ (i : Nat) (v' : Value) (p : PV), vs[i]? = some v' → (q :: args)[i]? = some p → Rel g v' p := by
      intro q hq i v' p hv' hp
      cases i with
      | zero => rw [hv] at hv'; cases hv'; cases hp; exact hq
      | succ i => exact ha (i + 1) v' p hv' (by simpa using hp)
    cases hr with
    | slnil => exact (h1 rfl).calls g w vs hI hb ht (by simpa using hs) (rest _ (.pure _ _ .nilsl))
    | slx a => exact h2.calls g w vs hI hb ht (by simpa using hs) (rest _ (.pure _ _ (.slnx a sz)))
    | sl b off n cap _ _ vals hn hc hm hsz hh ho hp => exact h2.calls g w vs hI hb ht (by simpa using hs) (rest _ (.pure _ _ (.sln _ _ _ _ _ _ (.sl b off n cap sz es vals hn hc hm hsz hh ho hp))))
/-- A call that is not made, of whatever value. -/
theorem callE_nop' {P : Program} {nid : Nat} {o : Oper} {S : PS} {K : Dl → Prop} (p : PV) (hK : K { p := p, ok := True }) : callE P nid false o S K :=
  ⟨{ p := p, ok := True }, (fun h => by cases h), (by unfold gdOk; cases o.guard <;> rfl), hK⟩

/-! Maps from integers to integers, plainly. -/
def mkM (m : List (Int × Int)) : List (PV × PV) := m.map fun x => (.int .i64 x.1, .int .i64 x.2)
def msetI (m : List (Int × Int)) (k v : Int) : List (Int × Int) := (k, v) :: m.filter fun x => !decide (k = x.1)
def mdelI (m : List (Int × Int)) (k : Int) : List (Int × Int) := m.filter fun x => !decide (k = x.1)
def mgetI : List (Int × Int) → Int → Int → Int
  | [], _, d => d
  | x :: m, k, d => if k = x.1 then x.2 else mgetI m k d
theorem keyIs_i (a b : Int) : keyIs (.int .i64 a) (.int .i64 b) = decide (a = b) := by
  show (decide (IntKind.i64 = IntKind.i64) && decide (a = b)) = _
  simp
theorem mdel_mkM (m : List (Int × Int)) (k : Int) : mdel (mkM m) (.int .i64 k) = mkM (mdelI m k) := by
  unfold mdel mkM mdelI
  rw [List.filter_map]
  have e : (fun x : Int × Int => !decide (k = x.1)) = ((fun q : PV × PV => !keyIs (.int .i64 k) q.1) ∘ fun x : Int × Int => (PV.int .i64 x.1, PV.int .i64 x.2)) := by
    funext x
    simp only [Function.comp, keyIs_i]
  rw [e]
theorem mset_mkM (m : List (Int × Int)) (k v : Int) : mset (mkM m) (.int .i64 k) (.int .i64 v) = mkM (msetI m k v) := by
  rw [mset, mdel_mkM]; rfl
theorem mgetD_mkM (k d : Int) : ∀ m : List (Int × Int), mgetD (mkM m) (.int .i64 k) (.int .i64 d) = .int .i64 (mgetI m k d)
  | [] => rfl
  | x :: m => by
    have ih := mgetD_mkM k d m
    show (match mget ((.int .i64 x.1, .int .i64 x.2) :: mkM m) (.int .i64 k) with | some q => q | none => .int .i64 d) = _
    unfold mgetD at ih
    simp only [mget, keyIs_i, mgetI]
    by_cases h : k = x.1
    · simp [h]
    · simp only [h, decide_false, if_false]; exact ih
theorem kAll_mkM {P : Program} {t : TypeId} (ht : tk P t = .int .i64) : ∀ m : List (Int × Int), kAll P t (mkM m) = true
  | [] => rfl
  | x :: m => by
    show (kOk P t (.int .i64 x.1) && kAll P t (mkM m)) = true
    rw [kAll_mkM ht m]
    simp [kOk, ht]
end Go.Pv
