/- Abstract values: one operation, reckoned. Nothing of any program. -/
import Derived.Test.YtbjeagcnakdmnaaPvJc
import Derived.Test.YtbjeagcnakdmnaaPvNe
import Derived.Test.YtbjeagcnakdmnaaPvMp
import Derived.Test.YtbjeagcnakdmnaaPvIt
import Derived.WalkSpells
import Derived.Lib.SliceRun
set_option linter.unusedSimpArgs false
set_option linter.unusedVariables false
set_option linter.unusedSectionVars false
namespace Go.Pv
variable [GTab]

def bad : Dl := { p := .any, ok := False }

def stBuild (P : Program) (t : TypeId) (parts : List (Nat × PV)) : Dl :=
  match zc P t with
  | none => bad
  | some zs =>
    match tk P t with
    | .st =>
      match plS P t with
      | none => bad
      | some pl =>
        match fillPV (fun i => pl[i]?) zs parts with
        | some out => { p := .agg out, ok := True }
        | none => bad
    | .arr _ e =>
      match fillPV (fun i => some (i * tsz P e, tsz P e)) zs parts with
      | some out => { p := .agg out, ok := 0 < tsz P e }
      | none => bad
    | _ => bad

/-- They have the form of elements of so many cells. -/
def shB (sz : Nat) : List PV → Bool
  | [] => true
  | p :: ps => p.shaped && decide (p.cells.length = sz) && shB sz ps
theorem shB_all {sz : Nat} : ∀ {ps : List PV}, shB sz ps = true → ∀ p ∈ ps, p.shaped = true ∧ p.cells.length = sz
  | [], _, p, h => by cases h
  | q :: ps, h, p, hp => by
    simp only [shB, Bool.and_eq_true, decide_eq_true_eq] at h
    rcases List.mem_cons.1 hp with rfl | hp
    · exact h.1
    · exact shB_all h.2 p hp
theorem shB_of {sz : Nat} : ∀ {ps : List PV}, (∀ p ∈ ps, p.shaped = true ∧ p.cells.length = sz) → shB sz ps = true
  | [], _ => rfl
  | q :: ps, h => by
    simp only [shB, Bool.and_eq_true, decide_eq_true_eq]
    exact ⟨h q (List.mem_cons_self ..), shB_of fun p hp => h p (List.mem_cons_of_mem _ hp)⟩

def stBS (P : Program) (nid : Nat) (t : TypeId) (len : Nat) (ixs : List Nat) (ps : List PV) : Dl :=
  match tk P t with
  | .sl e =>
    match zc P e with
    | some zs => { p := .slt (tsz P e) (ps.map PV.el) nid, tk := [(nid, true)], ok := 0 < tsz P e ∧ zs.length = tsz P e ∧ ixs = List.range' 0 ixs.length ∧ ixs.length = len ∧ shB (tsz P e) ps = true ∧ len * tsz P e ≤ 16777216 }
    | none => bad
  | _ => bad

def stLoad (P : Program) (t : TypeId) (p : PV) (S : PS) : Dl :=
  match p with
  | .box id off =>
    match S.obj id with
    | some ps => { p := ldPV P t (ps.drop off), rdB := [id], ok := ldOk P t (ps.drop off) }
    | none => bad
  | .loc ps => { p := ldPV P t ps, ok := ldOk P t ps }
  | _ => bad

def stStore (P : Program) (t : TypeId) (p q : PV) (S : PS) : Dl :=
  match p with
  | .box id off =>
    match S.obj id with
    | some ps => { p := .any, wr := [(id, some (setC ps off q.cells))], rdB := [id], ok := q.shaped = true ∧ tsz P t = q.cells.length ∧ 0 < q.cells.length ∧ off + q.cells.length ≤ ps.length }
    | none => bad
  | _ => bad

def stNil (p : PV) : Dl :=
  match p with
  | .box i j => { p := .box i j, ok := True }
  | .loc l => { p := .loc l, ok := True }
  | .fn f l => { p := .fn f l, ok := True }
  | _ => bad

def isSh : BinOp → Bool
  | .shl | .shr => true
  | _ => false

/-- Whether a slice is nil, where that is known. -/
def nilSl : PV → Option Bool
  | .nilsl => some true
  | .sln .. => some false
  | .sl0 .. => some false
  | .slb .. => some false
  | .slg .. => some false
  | .sl _ (_ :: _) => some false
  | .slt _ (_ :: _) _ => some false
  | .slj (_ + 1) => some false
  | _ => none
theorem nilSl_val {g : Gh} {v : Value} {p : PV} {b : Bool} (r : Rel g v p) (h : nilSl p = some b) : ∃ a n c, v = .slice a n c ∧ a.isNone = b := by
  unfold nilSl at h
  split at h <;> try cases h
  · exact ⟨_, _, _, r.nilsl_inv, rfl⟩
  · obtain ⟨_, a, n, c, e⟩ := r.sln_inv; exact ⟨_, _, _, e, rfl⟩
  · obtain ⟨b, off, e⟩ := r.sl0_inv; exact ⟨_, _, _, e, rfl⟩
  · obtain ⟨b, _, _, e, _⟩ := r.slb_inv; exact ⟨_, _, _, e, rfl⟩
  · obtain ⟨b, _, _, _, _, e, _⟩ := r.slg_inv; exact ⟨_, _, _, e, rfl⟩
  · obtain ⟨a, cap, e, _, _, _, hn, _⟩ := r.sl_inv.sl_view
    cases a with
    | none => exact absurd (hn rfl).1 (by simp)
    | some x => exact ⟨_, _, _, e, rfl⟩
  · obtain ⟨a, cap, e, _, _, _, hn, _⟩ := r.slt_inv.1.sl_view
    cases a with
    | none => exact absurd (hn rfl).1 (by simp)
    | some x => exact ⟨_, _, _, e, rfl⟩
  · obtain ⟨a, cap, e, hc, _, hn, _⟩ := r.slj_inv.slj_view
    cases a with
    | none => have := hn rfl; omega
    | some x => exact ⟨_, _, _, e, rfl⟩
theorem nil_sound {P : Program} {nid : Nat} {o : Oper} {ins : Operand → PV} {S : PS} {op : BinOp} {t e yt : TypeId} {x y : Operand} {b : Bool} (h : o.op = .binOp op t x y yt) (hx : nilSl (ins x) = some b) (hy : ins y = .nilsl)
    (ht : tk P t = .sl e) (hop : op = .eql ∨ op = .neq) {ok : Prop} : LTrip P nid o ins S { p := nilB op b, ok := ok } := by
  refine .still fun g S' ρ w _ ho _ => ?_
  have h1 := ho x (by simp [h, Op.operands])
  have h2 := ho y (by simp [h, Op.operands])
  rw [hy] at h2
  obtain ⟨a, n, c, e1, hb⟩ := nilSl_val h1 hx
  have e2 := h2.nilsl_inv
  have hu := tk_sl ht
  have hg : (eqGuard op t x y (.slice a n c) (.slice none 0 0)).run P w = .ok () w := by
    unfold eqGuard; simp
  rcases hop with rfl | rfl
  · refine ⟨.bool b, ?_, .pure _ _ (.bool b)⟩
    simp only [execOp, h, e1, e2]
    simp [hg, Lib.run_eql_slice_nil w t e a n c 0 0 hu, hb]
  · refine ⟨.bool (!b), ?_, .pure _ _ (.bool _)⟩
    simp only [execOp, h, e1, e2]
    simp [hg, run_neq_slice_nil_any w t e a n c 0 0 hu, hb]

def stBin (P : Program) (op : BinOp) (t : TypeId) (p q : PV) : Dl :=
  match p, q with
  | .int k a, .int k' b => if isSh op then { p := shI op k a b, ok := 0 ≤ b } else { p := (binI op k a b).1, ok := k = k' ∧ (binI op k a b).2 }
  | .str a, .str b => { p := (binS op a b).1, ok := (binS op a b).2 }
  | .bool a, .bool b => { p := (binB op a b).1, ok := tk P t = .bool ∧ (binB op a b).2 }
  | .agg ps, .agg qs =>
    match aggEq P t ps qs with
    | some b => { p := .bool (eqR op b), ok := ((tk P t).isAgg && (P.keyTypeAt 12 t && !P.eqGuardType P.depth t)) = true ∧ (op = .eql ∨ op = .neq) }
    | none => bad
  | p, .nilsl =>
    match nilSl p with
    | some b => { p := nilB op b, ok := (∃ e, tk P t = .sl e) ∧ (op = .eql ∨ op = .neq) }
    | none => bad
  | p, .nilm =>
    match nilMp p, tk P t with
    | some b, .map _ _ => { p := nilB op b, ok := op = .eql ∨ op = .neq }
    | _, _ => bad
  | p, .nilfn =>
    match nilFn p with
    | some b => { p := nilB op b, ok := tk P t = .fn ∧ (op = .eql ∨ op = .neq) }
    | none => bad
  | _, _ => bad

def stUn (op : UnOp) (p : PV) : Dl :=
  match op, p with
  | .not, .bool b => { p := .bool (!b), ok := True }
  | .neg, .int k n => { p := .int k (k.wrap (0 - n)), ok := True }
  | .xor, .int k n => { p := .int k (bitsI .xor k (if k.signed then -1 else k.max) n), ok := True }
  | _, _ => bad

def stConv (P : Program) (s d : TypeId) (p : PV) : Dl :=
  match p with
  | .int k n =>
    match tk P d with
    | .int k' => { p := .int k' (k'.wrap n), ok := tk P s ≠ .other }
    | _ => bad
  | .str b => { p := .str b, ok := tk P s = .str ∧ tk P d = .str }
  | _ =>
    match p.asl, tk P s, tk P d with
    | some (sz, es), .sl e, .str => { p := .str (es.map byteOf), ok := sz = 1 ∧ tk P e = .int .u8 ∧ (es.all isByte) = true }
    | _, _, _ => bad

/-- .. and of bytes that lie in a box. -/
def convS (P : Program) (s d : TypeId) (p : PV) (S : PS) : Dl :=
  match p with
  | .slb id off n sz =>
    match S.obj id, tk P s, tk P d with
    | some ps, .sl e, .str => { p := .str (((ps.drop off).take n).map byteOf), rdB := [id], ok := sz = 1 ∧ tk P e = .int .u8 ∧ off + n ≤ ps.length ∧ (((ps.drop off).take n).all isByte) = true }
    | _, _, _ => bad
  | p => stConv P s d p

def stMake (P : Program) (nid : Nat) (t : TypeId) (p q : PV) : Dl :=
  match p, q, tk P t with
  | .int _ n, .int _ c, .sl e =>
    match zc P e with
    | some zs =>
      match GTab.bx e with
      | true => { p := .slg nid 0 (tsz P e), wr := [(nid, some [])], ok := 0 < tsz P e ∧ zs.length = tsz P e ∧ n = 0 ∧ 0 ≤ c ∧ (tby P e : Int) * c ≤ 281474976710656 ∧ c ≤ 9223372036854775807 }
      | false => { p := .slt (tsz P e) (List.replicate n.toNat (zel P e zs)) nid, tk := [(nid, true)], ok := 0 < tsz P e ∧ zs.length = tsz P e ∧ ((tk P e).isAgg = true ∨ tsz P e = 1) ∧ 0 ≤ n ∧ n ≤ c ∧ (tby P e : Int) * c ≤ 281474976710656 ∧ c ≤ 9223372036854775807 ∧ (zel P e zs).cells = zs }
    | none => bad
  | _, _, _ => bad

/-- A bound of a slice expression: its value; that it may be. -/
def bndV (d : Nat) : Option PV → Nat
  | some (.int _ n) => n.toNat
  | _ => d
def bndO : Option PV → Prop
  | some (.int _ n) => 0 ≤ n
  | some _ => False
  | none => True
theorem bnd_of {d : Nat} {x : Option PV} (h : bndO x) : bnd d x = some (bndV d x) := by
  cases x with
  | none => rfl
  | some p => cases p <;> first | exact h.elim | (simp only [bndO] at h; simp [bnd, bndV, h])

def stSlice (P : Program) (t : TypeId) (p : PV) (lo hi : Option PV) (mx : Bool) : Dl :=
  if mx then bad else
  match p with
  | .str s => { p := .str ((s.drop (bndV 0 lo)).take (bndV s.length hi - bndV 0 lo)), ok := tk P t = .str ∧ bndO lo ∧ bndO hi ∧ bndV 0 lo ≤ bndV s.length hi ∧ bndV s.length hi ≤ s.length }
  | .sl sz es =>
    match tk P t with
    | .sl e => { p := .sl sz ((es.drop (bndV 0 lo)).take (bndV es.length hi - bndV 0 lo)), ok := 0 < tsz P e ∧ tsz P e = sz ∧ bndO lo ∧ bndO hi ∧ bndV 0 lo ≤ bndV es.length hi ∧ bndV es.length hi ≤ es.length }
    | _ => bad
  | .sln sz es =>
    match tk P t with
    | .sl e => { p := .sl sz ((es.drop (bndV 0 lo)).take (bndV es.length hi - bndV 0 lo)), ok := 0 < tsz P e ∧ tsz P e = sz ∧ bndO lo ∧ bndO hi ∧ bndV 0 lo ≤ bndV es.length hi ∧ bndV es.length hi ≤ es.length }
    | _ => bad
  | .slt sz es k =>
    match tk P t with
    | .sl e =>
      match hi with
      | none => { p := .slt sz (es.drop (bndV 0 lo)) k, ok := 0 < tsz P e ∧ tsz P e = sz ∧ bndO lo ∧ bndV 0 lo ≤ es.length }
      | some h => { p := .sl sz ((es.drop (bndV 0 lo)).take (bndV es.length (some h) - bndV 0 lo)), ok := 0 < tsz P e ∧ tsz P e = sz ∧ bndO lo ∧ bndO (some h) ∧ bndV 0 lo ≤ bndV es.length (some h) ∧ bndV es.length (some h) ≤ es.length }
    | _ => bad
  | .slg id n sz =>
    match tk P t with
    | .sl e =>
      match lo with
      | none => { p := .slg id (bndV n hi) sz, ok := 0 < tsz P e ∧ tsz P e = sz ∧ bndO hi ∧ bndV n hi ≤ n }
      | some l => { p := if bndV n hi = bndV 0 (some l) then .sl sz [] else .slb id (bndV 0 (some l) * sz) (bndV n hi - bndV 0 (some l)) sz, ok := 0 < tsz P e ∧ tsz P e = sz ∧ bndO (some l) ∧ bndO hi ∧ bndV 0 (some l) ≤ bndV n hi ∧ bndV n hi ≤ n }
    | _ => bad
  | .nilsl =>
    match tk P t with
    | .sl e => { p := .nilsl, ok := 0 < tsz P e ∧ bndO lo ∧ bndO hi ∧ bndV 0 lo = 0 ∧ bndV 0 hi = 0 }
    | _ => bad
  | .box id off =>
    match tk P t with
    | .arr n e => { p := .slb id (off + bndV 0 lo * tsz P e) (bndV n hi - bndV 0 lo) (tsz P e), ok := 0 < tsz P e ∧ bndO lo ∧ bndO hi ∧ bndV 0 lo ≤ bndV n hi ∧ bndV n hi ≤ n ∧ bndV 0 lo < n ∧ n ≤ maxLen }
    | _ => bad
  | _ => bad

/-- A slice expression with a bound of the room. -/
def stSlice3 (P : Program) (t : TypeId) (p : PV) (lo : Option PV) (h m : PV) : Dl :=
  match p.asl, tk P t with
  | some (sz, es), .sl e => { p := .sl sz ((es.drop (bndV 0 lo)).take (bndV 0 (some h) - bndV 0 lo)), ok := 0 < tsz P e ∧ tsz P e = sz ∧ bndO lo ∧ bndO (some h) ∧ bndO (some m) ∧ bndV 0 lo ≤ bndV 0 (some h) ∧ bndV 0 (some h) ≤ bndV 0 (some m) ∧ bndV 0 (some m) ≤ es.length }
  | _, _ => bad

def stFA (P : Program) (t : TypeId) (p : PV) (i : Nat) : Dl :=
  match fld P t i with
  | none => bad
  | some (fo, ft) =>
    match p with
    | .box id off => { p := .box id (off + fo), ok := 0 < tsz P ft }
    | .loc ps => { p := .loc (ps.drop fo), ok := 0 < tsz P ft }
    | _ => bad

def stField (P : Program) (t : TypeId) (p : PV) (i : Nat) : Dl :=
  match fld P t i with
  | none => bad
  | some (fo, ft) =>
    match p with
    | .agg ps => { p := ldPV P ft (ps.drop fo), ok := tk P ft ≠ .other ∧ 0 < tsz P ft ∧ fo + tsz P ft ≤ ps.length }
    | _ => bad

def stIA (P : Program) (t : TypeId) (p q : PV) : Dl :=
  match q with
  | .int _ i =>
    match p, tk P t with
    | .box id off, .arr n e => { p := .box id (off + i.toNat * tsz P e), ok := 0 < tsz P e ∧ 0 ≤ i ∧ i < n }
    | .loc ps, .arr n e => { p := .loc (ps.drop (i.toNat * tsz P e)), ok := 0 < tsz P e ∧ 0 ≤ i ∧ i < n }
    | .slb id off n cap, .sl e => { p := .box id (off + i.toNat * tsz P e), ok := 0 < tsz P e ∧ 0 ≤ i ∧ i < n }
    | .slg id n _, .sl e => { p := .box id (i.toNat * tsz P e), ok := 0 < tsz P e ∧ 0 ≤ i ∧ i < n }
    | .sl sz es, .sl e => { p := .loc (es.getD i.toNat .any).cells, ok := 0 < tsz P e ∧ tsz P e = sz ∧ 0 ≤ i ∧ i < es.length }
    | .slt sz es _, .sl e => { p := .loc (es.getD i.toNat .any).cells, ok := 0 < tsz P e ∧ tsz P e = sz ∧ 0 ≤ i ∧ i < es.length }
    | _, _ => bad
  | _ => bad

def stIx (P : Program) (t : TypeId) (p q : PV) : Dl :=
  match q with
  | .int _ i =>
    match p, tk P t with
    | .str s, .str => { p := .int .u8 ((s.getD i.toNat 0).toNat : Int), ok := 0 ≤ i ∧ i < s.length }
    | .agg ps, .arr n e => { p := ldPV P e (ps.drop (i.toNat * tsz P e)), ok := tk P e ≠ .other ∧ 0 < tsz P e ∧ 0 ≤ i ∧ i < n ∧ i.toNat * tsz P e + tsz P e ≤ ps.length }
    | _, _ => bad
  | _ => bad

def stExt (p : PV) (i : Nat) : Dl :=
  match p with
  | .tup ps =>
    match ps[i]? with
    | some q => { p := q, ok := True }
    | none => bad
  | _ => bad

def stLen (P : Program) (t : TypeId) (p : PV) (S : PS) : Dl :=
  match tk P t with
  | .map _ _ =>
    match mapPV S p with
    | some es => { p := .int .i64 es.length, rdB := mapRd p, ok := True }
    | none => bad
  | .arr n _ => { p := .int .i64 n, ok := True }
  | .str =>
    match p with
    | .str s => { p := .int .i64 s.length, ok := True }
    | _ => bad
  | .sl _ =>
    match p with
    | .sl _ es => { p := .int .i64 es.length, ok := True }
    | .slt _ es _ => { p := .int .i64 es.length, ok := True }
    | .sln _ es => { p := .int .i64 es.length, ok := True }
    | .sl0 _ => { p := .int .i64 0, ok := True }
    | .nilsl => { p := .int .i64 0, ok := True }
    | .slb _ _ n _ => { p := .int .i64 n, ok := True }
    | .slg _ n _ => { p := .int .i64 n, ok := True }
    | .bsl _ es _ => { p := .int .i64 es.length, ok := True }
    | _ => bad
  | _ => bad

theorem len_bsl {P : Program} {nid : Nat} {o : Oper} {ins : Operand → PV} {S : PS} {ok : Prop} {t e e' k : Nat} {es : List PV} {x : Operand} (ho : o.op = .call { callee := .builtin .len, args := #[x], argTypes := #[t] }) (hx : ins x = .bsl e' es k) (ht : tk P t = .sl e) :
    LTrip P nid o ins S { p := .int .i64 es.length, ok := ok } := by
  refine .still fun g S' ρ w hI hr hb => ?_
  have e0 := hr x (by simp [ho, Op.operands, Call.operands])
  rw [hx] at e0
  obtain ⟨a, cap, hv, _⟩ := e0.bsl_inv.1.sl_view
  refine ⟨.int .i64 es.length, ?_, .pure _ _ (.int _ _)⟩
  simp [execOp, ho, resolve, invoke, builtin, hv, Builtin.len_, Builtin.lenOf, run_underlying (tk_sl ht), goInt]

/-- An append to a slice of which only the length is known. -/
def stAppJ (P : Program) (e xT : TypeId) (n : Nat) (q : PV) : Dl :=
  match zc P e with
  | some zs =>
    match q with
    | .slj m => { p := .slj (n + m), ok := tk P xT = .sl e ∧ tsz P e = 1 ∧ zs.length = 1 ∧ n + m ≤ maxLen ∧ (n + m) * tby P e ≤ 140737488355328 }
    | q =>
      match q.apd 1 with
      | some fs => { p := .slj (n + fs.length), ok := apdT P xT q ∧ tsz P e = 1 ∧ zs.length = 1 ∧ n + fs.length ≤ maxLen ∧ (n + fs.length) * tby P e ≤ 140737488355328 }
      | none => bad
  | none => bad
def stAppK (P : Program) (nid : Nat) (e xT : TypeId) (p q : PV) (S : PS) : Dl :=
    match zc P e, q.apd (tsz P e) with
    | some zs, some fs =>
      match p with
      | .slt sz es k => { p := .slt sz (es ++ fs) nid, tk := [(nid, true), (k, false)], rdT := [k], ok := apdT P xT q ∧ tsz P e = sz ∧ 0 < sz ∧ zs.length = sz ∧ S.lv k = true ∧ nid ≠ k ∧ es.length + fs.length ≤ maxLen ∧ (es.length + fs.length) * tby P e ≤ 140737488355328 }
      | .bsl e' es k => { p := .bsl e (es ++ fs) nid, tk := [(nid, true), (k, false)], rdT := [k], ok := apdT P xT q ∧ e' = e ∧ tsz P e = 1 ∧ zs.length = 1 ∧ S.lv k = true ∧ nid ≠ k ∧ es.length + fs.length ≤ maxLen ∧ (es.length + fs.length) * tby P e ≤ 140737488355328 }
      | .slg id n sz =>
        match S.obj id with
        | some ps => { p := .slg nid (n + fs.length) sz, wr := [(nid, some (ps.take (n * sz) ++ fs.flatMap PV.cells)), (id, none)], rdB := [id], ok := apdT P xT q ∧ tsz P e = sz ∧ 0 < sz ∧ zs.length = sz ∧ n * sz ≤ ps.length ∧ 0 < fs.length ∧ n + fs.length ≤ maxLen ∧ (n + fs.length) * tby P e ≤ 140737488355328 }
        | none => bad
      | .sl0 sz => { sl0Dl nid sz fs with ok := apdT P xT q ∧ tsz P e = sz ∧ 0 < sz ∧ zs.length = sz ∧ fs.length ≤ maxLen ∧ fs.length * tby P e ≤ 140737488355328 }
      | .nilsl =>
        match GTab.bx e with
        | true => { p := .slg nid fs.length (tsz P e), wr := [(nid, some (fs.flatMap PV.cells))], ok := apdT P xT q ∧ 0 < tsz P e ∧ zs.length = tsz P e ∧ 0 < fs.length ∧ fs.length ≤ maxLen ∧ fs.length * tby P e ≤ 140737488355328 }
        | false => { p := .slt (tsz P e) fs nid, tk := [(nid, true)], ok := apdT P xT q ∧ 0 < tsz P e ∧ zs.length = tsz P e ∧ fs.length ≤ maxLen ∧ fs.length * tby P e ≤ 140737488355328 }
      | _ => bad
    | _, _ => bad
def stApp (P : Program) (nid : Nat) (t xT : TypeId) (p q : PV) (S : PS) : Dl :=
  match tk P t with
  | .sl e =>
    match p with
    | .slj n => stAppJ P e xT n q
    | .sl0 1 =>
      match q with
      | .slj m => stAppJ P e xT 0 (.slj m)
      | q => stAppK P nid e xT (.sl0 1) q S
    | p => stAppK P nid e xT p q S
  | _ => bad

/-- A range over a map; what comes next of it, where nothing is left; what came last. -/
def stRng (P : Program) (nid : Nat) (t : TypeId) (p : PV) : Dl :=
  match tk P t, rngPV p with
  | .map _ _, some es => { p := .iref nid, wr := [(nid, some [.tup [], .mobj es])], ok := True }
  | _, _ => bad
def stNext (p : PV) (b : Bool) (S : PS) : Dl :=
  match p, b with
  | .iref id, false =>
    match S.obj id with
    | some [_, .mobj []] => { p := .tup [.bool false], rdB := [id], ok := True }
    | _ => bad
  | _, _ => bad
def stEnt (p : PV) (S : PS) : Dl :=
  match p with
  | .iref id =>
    match S.obj id with
    | some [.tup [k, v], .mobj _] => { p := .tup [k, v], rdB := [id], ok := True }
    | _ => bad
  | _ => bad

def stMake' (P : Program) (nid : Nat) (t : TypeId) (r : Option PV) : Dl :=
  match r with
  | none => { p := .mref nid, wr := [(nid, some [.mobj []])], ok := True }
  | some (.int _ _) =>
    match tk P t with
    | .map _ _ => { p := .mref nid, wr := [(nid, some [.mobj []])], ok := True }
    | _ => bad
  | _ => bad
def stLook (P : Program) (t : TypeId) (p q : PV) (cok : Bool) (S : PS) : Dl :=
  match tk P t, mapPV S p with
  | .map kt et, some es =>
    match zvO P et with
    | some z => { p := if cok = true then .tup [mgetD es q (zdef es z), .bool (mhas es q)] else mgetD es q (zdef es z), rdB := mapRd p, ok := kTy P kt = true ∧ kAll P kt es = true ∧ kOk P kt q = true }
    | none => bad
  | _, _ => bad
def stMUp (P : Program) (t : TypeId) (m k x : PV) (S : PS) : Dl :=
  match tk P t, m with
  | .map kt et, .mref id =>
    match S.obj id with
    | some [.mobj es] => { p := .any, wr := [(id, some [.mobj (mset es k x.el)])], rdB := [id], ok := kTy P kt = true ∧ kAll P kt es = true ∧ kOk P kt k = true }
    | _ => bad
  | _, _ => bad
def stMDel (P : Program) (t : TypeId) (m k : PV) (S : PS) : Dl :=
  match tk P t, m with
  | .map kt et, .mref id =>
    match S.obj id with
    | some [.mobj es] => { p := .any, wr := [(id, some [.mobj (mdel es k)])], rdB := [id], ok := kTy P kt = true ∧ kAll P kt es = true ∧ kOk P kt k = true }
    | _ => bad
  | _, _ => bad
def stMM (b : Builtin) (p q : PV) : Dl :=
  match p, q with
  | .int k m, .int k' n => { p := .int k (if b = .min then (if n < m then n else m) else (if m < n then n else m)), ok := (b = .min ∨ b = .max) ∧ k = k' }
  | _, _ => bad

def stCopy (P : Program) (t : TypeId) (p q : PV) (S : PS) : Dl :=
  match p, q, tk P t with
  | .slb i off n sz, .slb j off2 n2 sz2, .sl e =>
    match S.obj i, S.obj j with
    | some ps, some qs => { p := .int .i64 (Nat.min n2 n : Nat), wr := [(i, some (setC ps off ((qs.drop off2).take (Nat.min n2 n))))], rdB := [i, j], ok := sz = 1 ∧ sz2 = 1 ∧ tsz P e = 1 ∧ off + n ≤ ps.length ∧ off2 + n2 ≤ qs.length }
    | _, _ => bad
  | .slt _ _ _, .nilsl, .sl e => { p := .int .i64 0, ok := 0 < tsz P e }
  | _, _, _ => bad

/-- A slice over a box is cleared: nothing is known of it. -/
def stClr (P : Program) (t : TypeId) (p : PV) (S : PS) : Dl :=
  match p, tk P t with
  | .slb i off n sz, .sl e =>
    match S.obj i, zc P e with
    | some ps, some zs => { p := .any, wr := [(i, some (setC ps off (List.replicate (n * sz) .any)))], rdB := [i], ok := zs.length = sz ∧ off + n * sz ≤ ps.length ∧ 0 < n }
    | _, _ => bad
  | _, _ => bad

def stCall (P : Program) (nid : Nat) (cal : Callee) (args : List Operand) (ats : List TypeId) (u : Operand → PV) (S : PS) : Dl :=
  match cal with
  | .builtin .len =>
    match args, ats with
    | [x], [t] => stLen P t (u x) S
    | _, _ => bad
  | .builtin .append =>
    match args, ats with
    | [x, y], [t, xT] => stApp P nid t xT (u x) (u y) S
    | _, _ => bad
  | .builtin .min =>
    match args with
    | [x, y] => stMM .min (u x) (u y)
    | _ => bad
  | .builtin .max =>
    match args with
    | [x, y] => stMM .max (u x) (u y)
    | _ => bad
  | .builtin .copy =>
    match args, ats with
    | [x, y], [t, _] => stCopy P t (u x) (u y) S
    | _, _ => bad
  | .builtin .delete =>
    match args, ats with
    | [x, y], [t, _] => stMDel P t (u x) (u y) S
    | _, _ => bad
  | .builtin .clear =>
    match args, ats with
    | [x], [t] => stClr P t (u x) S
    | _, _ => bad
  | _ => bad

/-- A strings.Builder: the type of its buffer's cells. -/
def bldE (P : Program) (t : TypeId) : Option TypeId :=
  match P.info? t with
  | some i =>
    match i.desc with
    | .named n _ =>
      match n == "strings.Builder", fld P t 1 with
      | true, some (_, ft) => match tk P ft with | .sl e => some e | _ => none
      | _, _ => none
    | _ => none
  | none => none
def stAlloc (P : Program) (nid : Nat) (t : TypeId) : Dl :=
  match zc P t with
  | some zs =>
    match bldE P t with
    | some e => { p := .box nid 0, wr := [(nid, some [.nbp t nid, .bsl e [] nid])], tk := [(nid, true)], ok := zs = [.nilptr, .nilsl] }
    | none => { p := .box nid 0, wr := [(nid, some zs)], ok := True }
  | none => bad
theorem alloc_bld {P : Program} {nid : Nat} {o : Oper} {ins : Operand → PV} {S : PS} {t e : TypeId} (h : o.op = .alloc t) (hz : zc P t = some [.nilptr, .nilsl]) {ok : Prop} :
    LTrip P nid o ins S { p := .box nid 0, wr := [(nid, some [.nbp t nid, .bsl e [] nid])], tk := [(nid, true)], ok := ok } := by
  refine .of_run fun g S' ρ w hI hr _ _ hf => ?_
  obtain ⟨i, z, hi, hz, hn, ho, hp⟩ := zc_spec hz
  obtain ⟨h1, h2, h3, h4⟩ := newBoxG hI hf (Pushed.alloc w (.cells z.cells t (0, 0))) (ps := [.nbp t nid, .bsl e [] nid]) (by rw [hn]; exact Nat.le_refl _) ho (fun g' hle hb hty i v p hv hq => by
      match i, hq with
      | 0, hq =>
        cases hq
        have e1 := hp g'.h 0 v .nilptr hv rfl
        cases e1
        exact .nbp _ _ _ _ hb (by rw [hty, hn]; rfl) (.inl rfl)
      | 1, hq =>
        cases hq
        have e1 := hp g'.h 1 v .nilsl hv rfl
        cases e1
        exact .bsl _ _ _ _ (.slnil 1) (fun b lo hi h => by simp [spare] at h) (fun a n c h => by cases h))
    (δ := { p := .any, wr := [(nid, some [.nbp t nid, .bsl e [] nid])], ok := True }) rfl rfl
  obtain ⟨k1, k2, k3⟩ := emptyTok' h1 (nid := nid) hf.2 (δ := { p := .any, tk := [(nid, true)], ok := True }) rfl ⟨[], rfl, by simp⟩
  refine ⟨.pointer (some ⟨w.heap.size, 0, none⟩), _, _, .inl ?_, k1, h2.trans k2, fun j hj h => k3 j hj (h3 j hj h), ?_⟩
  · simp [execOp, h, Instr.alloc, zeroValue, typeInfo, hi, hz, newVar, Go.newRow]
  · exact (h4 0).mono k2.le

def core (P : Program) (nid : Nat) (op : Op) (u : Operand → PV) (S : PS) : Dl :=
  match op with
  | .move x => { p := u x, ok := True }
  | .assign x => { p := u x, ok := True }
  | .alloc t => stAlloc P nid t
  | .box _ x => { p := .box nid 0, wr := [(nid, some (u x).cells)], ok := (u x).shaped = true }
  | .build t parts => stBuild P t (parts.toList.map fun (i, x) => (i, u x))
  | .buildSlice t len parts => stBS P nid t len (parts.toList.map (·.1)) (parts.toList.map fun x => u x.2)
  | .load t x => stLoad P t (u x) S
  | .store t x y => stStore P t (u x) (u y) S
  | .nilCheck x => stNil (u x)
  | .binOp b t x y _ => stBin P b t (u x) (u y)
  | .unOp b _ x => stUn b (u x)
  | .convert s d x => convS P s d (u x) S
  | .makeFunc (.func f) ⟨[]⟩ caps => { p := .fn f (caps.toList.map u), ok := True }
  | .makeSlice t x y => stMake P nid t (u x) (u y)
  | .slice t x lo hi none => stSlice P t (u x) (lo.map u) (hi.map u) false
  | .slice t x lo (some hi) (some mx) => stSlice3 P t (u x) (lo.map u) (u hi) (u mx)
  | .fieldAddr t x i => stFA P t (u x) i
  | .field t x i => stField P t (u x) i
  | .indexAddr t x y => stIA P t (u x) (u y)
  | .index t x y => stIx P t (u x) (u y)
  | .extract x i => stExt (u x) i
  | .makeMap t r => stMake' P nid t (r.map u)
  | .lookup t x y c => stLook P t (u x) (u y) c S
  | .range t x => stRng P nid t (u x)
  | .next x b => stNext (u x) b S
  | .entry x => stEnt (u x) S
  | .mapUpdate t m k x => stMUp P t (u m) (u k) (u x) S
  | .insert t m k x => stMUp P t (u m) (u k) (u x) S
  | .call c => stCall P nid c.callee c.args.toList c.argTypes.toList u S
  | _ => bad

theorem app_junk {P : Program} {nid : Nat} {o : Oper} {u : Operand → PV} {S : PS} {x y : Operand} {t xT e n : Nat} {q : PV} (hop : o.op = .call { callee := .builtin .append, args := #[x, y], argTypes := #[t, xT] }) (ht : tk P t = .sl e)
    (hx : u x = .slj n ∨ (u x = .sl0 1 ∧ n = 0)) (hy : u y = q) (h : (stAppJ P e xT n q).ok) : LTrip P nid o u S (stAppJ P e xT n q) := by
  unfold stAppJ at h ⊢
  split at h
  · rename_i zs hz
    split at h
    · rename_i m
      obtain ⟨q1, q2, q3, q4, q5⟩ := h
      exact append_junk hop hx (src_slj hy q1) ht q2 hz q3 q4 q5
    · split at h
      · rename_i fs hq
        obtain ⟨q1, q2, q3, q4, q5⟩ := h
        exact append_junk hop hx (src_apd (by rw [hy]; exact hq) (by rw [hy]; exact q1)) ht q2 hz q3 q4 q5
      · exact h.elim
  · exact h.elim
theorem app_old {P : Program} {nid : Nat} {o : Oper} {u : Operand → PV} {S : PS} {x y : Operand} {t xT e : Nat} (hop : o.op = .call { callee := .builtin .append, args := #[x, y], argTypes := #[t, xT] }) (ht : tk P t = .sl e)
    (h : (stAppK P nid e xT (u x) (u y) S).ok) : LTrip P nid o u S (stAppK P nid e xT (u x) (u y) S) := by
  unfold stAppK at h ⊢
  split at h
  · rename_i zs fs hz hq
    split at h
    · rename_i sz es k hx
      obtain ⟨q1, q2, q3, q4, q5, q6, q7, q8⟩ := h
      exact append_slt hop hx (by rw [← q2]; exact hq) q1 ht q2 q3 hz q4 q5 q6 q7 q8
    · rename_i e' es k hx
      obtain ⟨q1, rfl, q2, q4, q5, q6, q7, q8⟩ := h
      exact append_bsl hop hx (by rw [← q2]; exact hq) q1 ht q2 hz q4 q5 q6 q7 q8
    · rename_i id n sz hx
      split at h
      · rename_i ps hob
        obtain ⟨q1, q2, q3, q4, q5, q6, q7, q8⟩ := h
        exact append_slg hop hx hob q5 (by rw [← q2]; exact hq) q1 ht q2 q3 hz q4 q6 q7 q8
      · exact h.elim
    · rename_i sz hx
      obtain ⟨q1, q2, q3, q4, q5, q6⟩ := h
      exact append_sl0 hop hx (by rw [← q2]; exact hq) q1 ht q2 q3 hz q4 q5 q6
    · rename_i hx
      split at h
      · obtain ⟨q1, q2, q3, q4, q5, q6⟩ := h
        exact append_nilg hop hx hq q1 ht rfl q2 hz q3 q4 q5 q6
      · obtain ⟨q1, q2, q3, q4, q5⟩ := h
        exact append_nilsl hop hx hq q1 ht rfl q2 hz q3 q4 q5
    · exact h.elim
  · exact h.elim

theorem core_sound {P : Program} {nid : Nat} {o : Oper} {u : Operand → PV} {S : PS} (h : (core P nid o.op u S).ok) : LTrip P nid o u S (core P nid o.op u S) := by
  generalize hop : o.op = op at h
  cases op with
  | move x => exact lt_move hop
  | assign x => exact lt_assign hop
  | alloc t =>
    simp only [core, stAlloc] at h ⊢
    cases hz : zc P t with
    | none => rw [hz] at h; exact h.elim
    | some zs =>
      rw [hz] at h
      simp only at h ⊢
      cases hb : bldE P t with
      | none => exact alloc_ok hop hz
      | some e =>
        rw [hb] at h
        simp only at h ⊢
        exact alloc_bld hop (h ▸ hz)
  | box t x => exact box_ok hop rfl h
  | build t parts =>
    simp only [core, stBuild] at h ⊢
    cases hz : zc P t with
    | none => rw [hz] at h; exact h.elim
    | some zs =>
      rw [hz] at h
      simp only at h ⊢
      cases hk : tk P t <;> rw [hk] at h <;> try exact h.elim
      · rename_i n e
        simp only at h ⊢
        split at h
        · rename_i out hf; exact build_arr hop hz hk h hf
        · exact h.elim
      · simp only at h ⊢
        cases hp : plS P t with
        | none => rw [hp] at h; exact h.elim
        | some pl =>
          rw [hp] at h
          simp only at h ⊢
          split at h
          · rename_i out hf; exact build_st hop hz hp hf
          · exact h.elim
  | buildSlice t len parts =>
    simp only [core, stBS] at h ⊢
    cases hk : tk P t <;> rw [hk] at h <;> try exact h.elim
    rename_i e
    simp only at h ⊢
    cases hz : zc P e with
    | none => rw [hz] at h; exact h.elim
    | some zs =>
      rw [hz] at h
      obtain ⟨h1, h2, h3, h4, h5, h6⟩ := h
      exact buildSlice_ok hop hk rfl h1 hz h2 (by rw [List.length_map] at h3; exact h3) (by rw [← h4, List.length_map]) rfl (shB_all h5) h6
  | load t x =>
    simp only [core] at h ⊢
    cases hx : u x <;> rw [hx] at h <;> simp only [stLoad] at h ⊢ <;> try exact h.elim
    · exact load_loc hop hx h
    · rename_i id off
      cases ho : S.obj id with
      | none => rw [ho] at h; exact h.elim
      | some ps => rw [ho] at h; exact load_box hop hx ho h
  | store t x y =>
    simp only [core] at h ⊢
    cases hx : u x <;> rw [hx] at h <;> simp only [stStore] at h ⊢ <;> try exact h.elim
    rename_i id off
    cases ho : S.obj id with
    | none => rw [ho] at h; exact h.elim
    | some ps =>
      rw [ho] at h
      obtain ⟨h1, h2, h3, h4⟩ := h
      exact store_ok hop hx rfl ho h1 h2 h3 h4
  | nilCheck x =>
    simp only [core] at h ⊢
    cases hx : u x <;> rw [hx] at h <;> simp only [stNil] at h ⊢ <;> try exact h.elim
    · exact nilCheck_ok hop hx (.inr (.inl ⟨_, rfl⟩))
    · exact nilCheck_ok hop hx (.inl ⟨_, _, rfl⟩)
    · exact nilCheck_ok hop hx (.inr (.inr ⟨_, _, rfl⟩))
  | binOp b t x y yt =>
    simp only [core] at h ⊢
    unfold stBin at h ⊢
    split at h
    · rename_i k a k' b' hx hy
      by_cases hs : isSh b = true
      · rw [if_pos hs] at h
        simp only [hs, if_true]
        exact shI_sound hop hx hy (by cases b <;> simp [isSh] at hs ⊢) h
      · rw [if_neg hs] at h
        simp only [hs, if_false]
        obtain ⟨rfl, h2⟩ := h
        exact binI_sound hop hx hy (by cases b <;> simp [isSh] at hs ⊢) h2
    · rename_i a b' hx hy; exact binS_sound hop hx hy h
    · rename_i a b' hx hy; exact binB_sound hop hx hy h.1 h.2
    · rename_i ps qs hx hy
      split at h
      · rename_i b' hb
        obtain ⟨h1, h2⟩ := h
        simp only [Bool.and_eq_true, Bool.not_eq_true'] at h1
        exact agg_eq_sound hop hx hy hb h1.1 h1.2.1 h1.2.2 h2
      · exact h.elim
    · rename_i hy
      split at h
      · rename_i b' hb
        obtain ⟨⟨e, h1⟩, h2⟩ := h
        exact nil_sound hop hb hy h1 h2
      · exact h.elim
    · rename_i hy
      split at h
      · rename_i b' k e hb hk
        exact mnil_sound hop hb hy hk h
      · exact h.elim
    · rename_i hy
      split at h
      · rename_i b' hb
        exact fnil_sound hop hb hy h.1 h.2
      · exact h.elim
    · exact h.elim
  | unOp b t x =>
    simp only [core] at h ⊢
    unfold stUn at h ⊢
    split at h
    · rename_i b' hx; exact unop_not hop hx
    · rename_i k n hx; exact unop_neg hop hx
    · rename_i k n hx; exact unop_xor hop hx
    · exact h.elim
  | convert s d x =>
    simp only [core] at h ⊢
    cases hx : u x
    case slb id off n sz =>
      rw [hx] at h
      simp only [convS] at h ⊢
      cases hob : S.obj id <;> rw [hob] at h <;> try exact h.elim
      rename_i ps
      cases hs : tk P s <;> rw [hs] at h <;> try exact h.elim
      cases hd : tk P d <;> rw [hd] at h <;> try exact h.elim
      obtain ⟨h1, h2, h3, h4⟩ := h
      subst h1
      exact conv_slb hop hx hob hs h2 hd h3 h4
    case int k n =>
      rw [hx] at h
      simp only [convS, stConv] at h ⊢
      cases hk : tk P d <;> rw [hk] at h <;> try exact h.elim
      exact conv_int hop hx h hk
    case str b => rw [hx] at h; exact conv_str hop hx h.1 h.2
    all_goals
      rw [hx] at h
      simp only [convS, stConv, PV.asl] at h ⊢
    all_goals try exact h.elim
    all_goals
      cases hs : tk P s <;> rw [hs] at h <;> try exact h.elim
    all_goals
      cases hd : tk P d <;> rw [hd] at h <;> try exact h.elim
    all_goals
      obtain ⟨h1, h2, h3⟩ := h
      exact conv_bytes (u := 0) hop (by rw [hx, ← h1]; rfl) hs h2 hd h3
  | makeFunc fn first caps =>
    cases fn <;> try exact h.elim
    obtain ⟨fs⟩ := first
    cases fs with
    | nil => exact makeFunc_ok hop
    | cons => exact h.elim
  | makeSlice t x y =>
    simp only [core] at h ⊢
    unfold stMake at h ⊢
    split at h
    · rename_i k n k' c e hx hy ht
      cases hz : zc P e with
      | none => rw [hz] at h; exact h.elim
      | some zs =>
        rw [hz] at h
        cases hbx : GTab.bx e with
        | true =>
          rw [hbx] at h
          obtain ⟨h1, h2, rfl, h4, h5, h6⟩ := h
          simp only [hbx]
          exact makeSlice_boxg hop hx hy ht rfl h1 hz h2 h4 h5 h6
        | false =>
          rw [hbx] at h
          obtain ⟨h1, h2, h3, h4, h5, h6, h7, h8⟩ := h
          simp only [hbx]
          exact makeSlice_ok hop hx hy ht rfl h1 hz h2 h3 h4 h5 h6 h7 h8
    · exact h.elim
  | slice t x lo hi mx =>
    simp only [core] at h ⊢
    cases mx with
    | some m =>
      cases hi with
      | none => exact h.elim
      | some hi =>
        simp only at h ⊢
        unfold stSlice3 at h ⊢
        split at h
        · rename_i sz es e hx ht
          obtain ⟨q1, q2, q3, q4, q5, q6, q7, q8⟩ := h
          exact slice_sl3 hop hx ht q1 q2 (bnd_of q3) (bnd_of q4) (bnd_of q5) q6 q7 q8
        · exact h.elim
    | none =>
      simp only [stSlice, Bool.false_eq_true, if_false] at h ⊢
      cases hx : u x <;> rw [hx] at h <;> simp only at h ⊢ <;> try exact h.elim
      · obtain ⟨q0, q1, q2, q3, q4⟩ := h
        exact slice_str hop hx q0 (bnd_of q1) (bnd_of q2) q3 q4
      · cases ht : tk P t <;> rw [ht] at h <;> simp only at h ⊢ <;> try exact h.elim
        obtain ⟨q0, q1, q2, q3, q4⟩ := h
        rename_i e
        exact slice_nil hop hx ht q0 (by rw [bnd_of q1, q3]) (by rw [bnd_of q2, q4])
      · cases ht : tk P t <;> rw [ht] at h <;> simp only at h ⊢ <;> try exact h.elim
        obtain ⟨q1, q2, q3, q4, q5, q6⟩ := h
        exact slice_sl hop (by rw [hx]; rfl) ht q1 q2 (bnd_of q3) (bnd_of q4) q5 q6
      · cases ht : tk P t <;> rw [ht] at h <;> simp only at h ⊢ <;> try exact h.elim
        cases hi with
        | none =>
          simp only [Option.map_none] at h ⊢
          obtain ⟨q1, q2, q3, q4⟩ := h
          exact slice_slt hop hx ht q1 q2 (bnd_of q3) q4
        | some hh =>
          simp only [Option.map_some] at h ⊢
          obtain ⟨q1, q2, q3, q4, q5, q6⟩ := h
          exact slice_sl (hi := some hh) hop (by rw [hx]; rfl) ht q1 q2 (bnd_of q3) (bnd_of q4) q5 q6
      · cases ht : tk P t <;> rw [ht] at h <;> simp only at h ⊢ <;> try exact h.elim
        obtain ⟨q1, q2, q3, q4, q5, q6⟩ := h
        exact slice_sl hop (by rw [hx]; rfl) ht q1 q2 (bnd_of q3) (bnd_of q4) q5 q6
      · cases ht : tk P t <;> rw [ht] at h <;> simp only at h ⊢ <;> try exact h.elim
        obtain ⟨q1, q2, q3, q4, q5, q6, q7⟩ := h
        exact slice_box hop hx ht q1 (bnd_of q2) (bnd_of q3) q4 q5 q6 q7
      · cases ht : tk P t <;> rw [ht] at h <;> simp only at h ⊢ <;> try exact h.elim
        cases lo with
        | none =>
          simp only [Option.map_none] at h ⊢
          obtain ⟨q1, q2, q3, q4⟩ := h
          exact slice_slg0 hop hx ht q1 q2 (bnd_of q3) q4
        | some ll =>
          simp only [Option.map_some] at h ⊢
          obtain ⟨q1, q2, q3, q4, q5, q6⟩ := h
          exact slice_slgE (lo := some ll) hop hx ht q1 q2 (bnd_of q3) (bnd_of q4) q5 q6
  | fieldAddr t x i =>
    simp only [core] at h ⊢
    unfold stFA at h ⊢
    cases hf : fld P t i with
    | none => rw [hf] at h; exact h.elim
    | some ff =>
      obtain ⟨fo, ft⟩ := ff
      rw [hf] at h
      cases hx : u x <;> rw [hx] at h <;> try exact h.elim
      · exact fieldAddr_loc hop hx hf h
      · exact fieldAddr_box hop hx hf h
  | field t x i =>
    simp only [core] at h ⊢
    unfold stField at h ⊢
    cases hf : fld P t i with
    | none => rw [hf] at h; exact h.elim
    | some ff =>
      obtain ⟨fo, ft⟩ := ff
      rw [hf] at h
      cases hx : u x <;> rw [hx] at h <;> try exact h.elim
      exact field_agg hop hx hf h.1 h.2.1 h.2.2
  | indexAddr t x y =>
    simp only [core] at h ⊢
    unfold stIA at h ⊢
    cases hy : u y <;> rw [hy] at h <;> try exact h.elim
    simp only at h ⊢
    split at h
    · rename_i hx ht; exact indexAddr_arr hop hx hy ht h.1 h.2.1 h.2.2
    · rename_i hx ht; exact indexAddr_loc hop hx hy ht h.1 h.2.1 h.2.2
    · rename_i hx ht; exact indexAddr_slb hop hx hy ht h.1 h.2.1 h.2.2
    · rename_i hx ht; exact indexAddr_slg hop hx hy ht h.1 h.2.1 h.2.2
    · rename_i hx ht; exact indexAddr_sl hop (by rw [hx]; rfl) hy ht h.1 h.2.1 h.2.2.1 h.2.2.2
    · rename_i hx ht; exact indexAddr_sl hop (by rw [hx]; rfl) hy ht h.1 h.2.1 h.2.2.1 h.2.2.2
    · exact h.elim
  | index t x y =>
    simp only [core] at h ⊢
    unfold stIx at h ⊢
    cases hy : u y <;> rw [hy] at h <;> try exact h.elim
    simp only at h ⊢
    split at h
    · rename_i hx ht; exact index_str hop hx hy ht h.1 h.2
    · rename_i hx ht; exact index_agg hop hx hy ht h.1 h.2.1 h.2.2.1 h.2.2.2.1 h.2.2.2.2
    · exact h.elim
  | extract x i =>
    simp only [core] at h ⊢
    cases hx : u x <;> rw [hx] at h <;> simp only [stExt] at h ⊢ <;> try exact h.elim
    rename_i ps
    cases hp : ps[i]? with
    | none => rw [hp] at h; exact h.elim
    | some q => exact extract_tup hop hx hp
  | call c =>
    obtain ⟨cal, ⟨args⟩, ⟨ats⟩⟩ := c
    simp only [core, stCall] at h ⊢
    split at h
    · split at h
      · rename_i x t
        unfold stLen at h ⊢
        split at h
        · rename_i ht
          split at h
          · rename_i es hx; exact mlen_ok hop ht hx
          · exact h.elim
        · rename_i ht; exact len_arr hop ht
        · rename_i ht
          split at h
          · rename_i s hx; exact len_str hop hx ht
          · exact h.elim
        · rename_i ht
          split at h
          · rename_i hx; exact len_sl hop (by rw [hx]; rfl) ht
          · rename_i hx; exact len_sl hop (by rw [hx]; rfl) ht
          · rename_i hx; exact len_sl hop (by rw [hx]; rfl) ht
          · rename_i hx; exact len_sl0 hop hx ht
          · rename_i hx; exact len_nil hop hx ht
          · rename_i hx; exact len_slb hop hx ht
          · rename_i hx; exact len_slg hop hx ht
          · rename_i hx; exact len_bsl hop hx ht
          · exact h.elim
        · exact h.elim
      · exact h.elim
    · split at h
      · rename_i x y t xT
        unfold stApp at h ⊢
        cases ht : tk P t <;> rw [ht] at h <;> try exact h.elim
        rename_i e
        simp only at h ⊢
        have hK : ∀ {p q : PV}, u x = p → u y = q → (stAppK P nid e xT p q S).ok → LTrip P nid o u S (stAppK P nid e xT p q S) := by
          intro p q hx0 hy0 h
          subst hx0; subst hy0
          exact app_old hop ht h
        have hJ : ∀ {n : Nat} {q : PV}, (u x = .slj n ∨ (u x = .sl0 1 ∧ n = 0)) → u y = q → (stAppJ P e xT n q).ok → LTrip P nid o u S (stAppJ P e xT n q) := by
          intro n q hx0 hy0 h
          exact app_junk hop ht hx0 hy0 h
        split at h
        · rename_i n hx; exact hJ (.inl hx) rfl h
        · rename_i hx
          split at h
          · rename_i m hy; exact hJ (.inr ⟨hx, rfl⟩) hy h
          · exact hK hx rfl h
        · exact hK rfl rfl h
      · exact h.elim
    · split at h
      · unfold stMM at h ⊢
        split at h
        · rename_i k m k' n hx hy; obtain ⟨q1, rfl⟩ := h; exact minmax q1 hop hx hy
        · exact h.elim
      · exact h.elim
    · split at h
      · unfold stMM at h ⊢
        split at h
        · rename_i k m k' n hx hy; obtain ⟨q1, rfl⟩ := h; exact minmax q1 hop hx hy
        · exact h.elim
      · exact h.elim
    · split at h
      · rename_i x y t sT
        unfold stCopy at h ⊢
        split at h
        · rename_i i off n sz jj off2 n2 sz2 e hx hy ht
          split at h
          · rename_i ps qs hob hoj
            obtain ⟨rfl, rfl, q3, q4, q5⟩ := h
            simp only [hob, hoj]
            exact copy_slb hop hx hy ht q3 hob hoj q4 q5
          · exact h.elim
        · rename_i hx hy ht
          exact copy_nil hop hx hy ht h
        · exact h.elim
      · exact h.elim
    · split at h
      · rename_i x y t kT
        unfold stMDel at h ⊢
        split at h
        · rename_i kt et id ht hm
          split at h
          · rename_i es hob
            exact mdel_ok hop ht hm hob h.1 h.2.1 h.2.2
          · exact h.elim
        · exact h.elim
      · exact h.elim
    · split at h
      · rename_i x t
        unfold stClr at h ⊢
        split at h
        · rename_i i off n sz e hx ht
          split at h
          · rename_i ps zs hob hz
            exact clear_slb hop hx ht hz h.1 hob h.2.1 h.2.2
          · exact h.elim
        · exact h.elim
      · exact h.elim
    · exact h.elim
  | makeMap t r =>
    simp only [core, stMake'] at h ⊢
    cases r with
    | none => exact mmake_ok hop (by simp)
    | some x =>
      simp only [Option.map_some] at h ⊢
      cases hx : u x <;> rw [hx] at h <;> simp only at h ⊢ <;> try exact h.elim
      cases ht : tk P t <;> rw [ht] at h <;> simp only at h ⊢ <;> try exact h.elim
      exact mmake_ok hop (fun y hy => by cases hy; exact ⟨_, _, _, _, ht, hx⟩)
  | lookup t x y c =>
    simp only [core] at h ⊢
    unfold stLook at h ⊢
    split at h
    · rename_i kt et es ht hx
      split at h
      · rename_i z hz; exact lookup_ok hop ht hx h.1 h.2.1 h.2.2 hz
      · exact h.elim
    · exact h.elim
  | range t x =>
    simp only [core] at h ⊢
    unfold stRng at h ⊢
    split at h
    · rename_i kt et es ht hx; exact range_ok hop ht hx
    · exact h.elim
  | next x b =>
    simp only [core] at h ⊢
    unfold stNext at h ⊢
    split at h
    · rename_i id hx
      split at h
      · rename_i hob; exact next_end hop hx hob
      · exact h.elim
    · exact h.elim
  | entry x =>
    simp only [core] at h ⊢
    unfold stEnt at h ⊢
    split at h
    · rename_i id hx
      split at h
      · rename_i hob; exact entry_ok hop hx hob
      · exact h.elim
    · exact h.elim
  | mapUpdate t m k x =>
    simp only [core] at h ⊢
    unfold stMUp at h ⊢
    split at h
    · rename_i kt et id ht hm
      split at h
      · rename_i es hob
        exact mupd_ok (.inl hop) ht hm hob h.1 h.2.1 h.2.2
      · exact h.elim
    · exact h.elim
  | insert t m k x =>
    simp only [core] at h ⊢
    unfold stMUp at h ⊢
    split at h
    · rename_i kt et id ht hm
      split at h
      · rename_i es hob
        exact mupd_ok (.inr hop) ht hm hob h.1 h.2.1 h.2.2
      · exact h.elim
    · exact h.elim
  | _ => exact h.elim

end Go.Pv
