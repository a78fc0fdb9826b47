/- Abstract values: what one operation does to them. Nothing of any program. -/
import Derived.Test.YtbjeagcnakdmnaaPvA
import Derived.Laws.Strings
import Derived.Laws.Small
import Derived.Laws.StructEq
set_option linter.unusedSimpArgs false
set_option linter.unusedVariables false
set_option linter.unusedSectionVars false
namespace Go.Pv
variable [GTab]

/-! Types, as the operations ask for them. -/
inductive TK where
  | bool | int (k : IntKind) | str | ptr (e : TypeId) | sl (e : TypeId) | arr (n : Nat) (e : TypeId) | st | map (k e : TypeId) | ifc | fn | other
  deriving DecidableEq

def tk (P : Program) (t : TypeId) : TK :=
  match P.underlying t with
  | some .bool => .bool
  | some (.int k) => .int k
  | some .string => .str
  | some (.pointer e) => .ptr e
  | some (.slice e) => .sl e
  | some (.array n e) => .arr n e
  | some (.struct _) => .st
  | some (.map k e) => .map k e
  | some (.interface _) => .ifc
  | some (.func _ _ _) => .fn
  | _ => .other

def TK.isAgg : TK → Bool
  | .arr _ _ => true
  | .st => true
  | _ => false

def tsz (P : Program) (t : TypeId) : Nat := ((P.info? t).map (·.size)).getD 0
def tby (P : Program) (t : TypeId) : Nat := ((P.info? t).map (·.bytes)).getD 0
def fld (P : Program) (t : TypeId) (i : Nat) : Option (Nat × TypeId) :=
  match P.underlying t with
  | some (.struct fs) => fs[i]?.map fun f => (f.offset, f.type)
  | _ => none

def ofC1 : Value → PV
  | .bool b => .bool b
  | .int k n => .int k n
  | .string ⟨⟨s⟩⟩ => .str s
  | .pointer none => .nilptr
  | .slice none 0 0 => .nilsl
  | .nilFunc => .nilfn
  | .nilIface => .nilif
  | .map none => .nilm
  | _ => .any

theorem ofC1_rel (h : HMap) (v : Value) : PRel h v (ofC1 v) := by
  unfold ofC1; split <;> constructor

/-- A literal value. -/
def ofC : Value → PV
  | .agg ⟨cs⟩ => if cs.all (fun c => c.oneCell') then .agg (cs.map ofC1) else .any
  | v => ofC1 v

theorem ofC_rel (h : HMap) (v : Value) : PRel h v (ofC v) := by
  unfold ofC
  split
  · rename_i cs
    split
    · rename_i hf
      refine .agg _ _ (by simp) ?_ ?_
      · intro i v hv
        exact List.all_eq_true.1 hf v (List.mem_of_getElem? (by simpa using hv))
      · intro i v p hv hp
        simp only [List.getElem?_toArray] at hv
        rw [List.getElem?_map, hv] at hp
        cases hp
        exact ofC1_rel h v
    · exact .any _
  · exact ofC1_rel h _

def PV.un : PV → PV
  | .given _ p => p
  | p => p
def PV.cnd : PV → Bool
  | .given c _ => c
  | _ => true

theorem Rel.un {g : Gh} {v : Value} {p : PV} (r : Rel g v p) (h : p.cnd = true) : Rel g v p.un := by
  cases p <;> first | exact r | exact (r.given_inv).1 h

def PS.ev (S : PS) : Operand → PV
  | .tmp t => S.get t
  | .const v => ofC v
  | .global k => match gat GTab.tab k with | some ps => .loc ps | none => .any
  | .func f => .fn f []

/-- What an operation does: its value; boxes written or made; tokens used (false) or made (true); boxes and tokens that it looks at; what must hold. -/
structure Dl where
  p : PV
  wr : List (Nat × Option (List PV)) := []
  tk : List (Nat × Bool) := []
  rdB : List Nat := []
  rdT : List Nat := []
  ok : Prop

def PS.app (S : PS) (δ : Dl) : PS := { S with objs := δ.wr ++ S.objs, live := δ.tk ++ S.live }

/-- The operation's own triple, at whatever state agrees with S on what it looks at. -/
def LTrip (P : Program) (nid : Nat) (o : Oper) (ins : Operand → PV) (S : PS) (δ : Dl) : Prop :=
  ∀ (g : Gh) (S' : PS) (a : Act) (w : World) (next : Act → World → Prop) (Q : Exit → Act → World → Prop),
    InvW g S' w → (∀ x ∈ o.op.operands, Rel g (a.eval x) (ins x)) → (∀ i ∈ δ.rdB, S'.obj i = S.obj i) → (∀ k ∈ δ.rdT, S'.lv k = S.lv k) → (∀ j, nid ≤ j → j < nid + 4 → Fresh g j) →
    (∀ v g' w', InvW g' (S'.app δ) w' → Ext g S' w g' (S'.app δ) w' → (∀ j, j < nid ∨ nid + 4 ≤ j → Fresh g j → Fresh g' j) → Rel g' v δ.p → next (a.put o.dst v) w') →
    o.wp P a w next Q

/-- An operation that leaves the world as it is. -/
theorem LTrip.still {P : Program} {nid : Nat} {o : Oper} {ins : Operand → PV} {S : PS} {p : PV} {rdB : List Nat} {ok : Prop}
    (h : ∀ (g : Gh) (S' : PS) (ρ : Operand → Value) (w : World), InvW g S' w → (∀ x ∈ o.op.operands, Rel g (ρ x) (ins x)) → (∀ i ∈ rdB, S'.obj i = S.obj i) →
      ∃ v, (execOp ρ o).run P w = .ok (.value v) w ∧ Rel g v p) : LTrip P nid o ins S { p := p, rdB := rdB, ok := ok } := by
  intro g S' a w next Q hI ho hb _ _ hn
  obtain ⟨v, hr, hv⟩ := h g S' a.eval w hI ho hb
  have hS : S'.app { p := p, rdB := rdB, ok := ok } = S' := by simp [PS.app]
  unfold Oper.wp
  rw [hr]
  exact hn v g w (by rw [hS]; exact hI) (by rw [hS]; exact Ext.refl _ _ _) (fun _ _ h => h) hv

section
variable {P : Program} {nid : Nat} {o : Oper} {ins : Operand → PV} {S : PS}

theorem lt_move {x : Operand} {ok : Prop} (h : o.op = .move x) : LTrip P nid o ins S { p := ins x, ok := ok } :=
  .still fun g S' ρ w _ ho _ => ⟨ρ x, by simp [execOp, h], ho x (by simp [h, Op.operands])⟩
theorem lt_assign {x : Operand} {ok : Prop} (h : o.op = .assign x) : LTrip P nid o ins S { p := ins x, ok := ok } :=
  .still fun g S' ρ w _ ho _ => ⟨ρ x, by simp [execOp, h], ho x (by simp [h, Op.operands])⟩

/-! ### Two operands -/
def cmpI (op : BinOp) (a b : Int) : Option Bool :=
  match op with
  | .eql => some (a == b) | .neq => some (a != b) | .lss => some (decide (a < b)) | .leq => some (decide (a ≤ b)) | .gtr => some (decide (b < a)) | .geq => some (decide (b ≤ a))
  | _ => none
def bitsI (op : BinOp) (k : IntKind) (a b : Int) : Int :=
  let x := BitVec.ofInt k.bits a
  let y := BitVec.ofInt k.bits b
  match op with
  | .and => k.wrap (x &&& y).toNat
  | .or => k.wrap (x ||| y).toNat
  | .xor => k.wrap (x ^^^ y).toNat
  | _ => k.wrap (x &&& ~~~y).toNat

def binI (op : BinOp) (k : IntKind) (a b : Int) : PV × Prop :=
  match op with
  | .add => (.int k (k.wrap (a + b)), True)
  | .sub => (.int k (k.wrap (a - b)), True)
  | .mul => (.int k (k.wrap (a * b)), True)
  | .quo => (.int k (k.wrap (a.tdiv b)), b ≠ 0)
  | .rem => (.int k (a.tmod b), b ≠ 0)
  | .and => (.int k (bitsI .and k a b), True)
  | .or => (.int k (bitsI .or k a b), True)
  | .xor => (.int k (bitsI .xor k a b), True)
  | .andNot => (.int k (bitsI .andNot k a b), True)
  | .eql => (.bool (a == b), True)
  | .neq => (.bool (a != b), True)
  | .lss => (.bool (decide (a < b)), True)
  | .leq => (.bool (decide (a ≤ b)), True)
  | .gtr => (.bool (decide (b < a)), True)
  | .geq => (.bool (decide (b ≤ a)), True)
  | _ => (.any, False)

theorem run_eqGuard_int (w : World) (op : BinOp) (t : TypeId) (x y : Operand) (k k' : IntKind) (a b : Int) :
    (eqGuard op t x y (.int k a) (.int k' b)).run P w = .ok () w := by
  unfold eqGuard; simp

theorem binI_sound {op : BinOp} {t yt : TypeId} {x y : Operand} {k : IntKind} {a b : Int} (h : o.op = .binOp op t x y yt) (hx : ins x = .int k a) (hy : ins y = .int k b)
    (hop : op ≠ .shl ∧ op ≠ .shr) (hok : (binI op k a b).2) {ok : Prop} : LTrip P nid o ins S { p := (binI op k a b).1, ok := ok } := by
  refine .still fun g S' ρ w _ ho _ => ?_
  have h1 := ho x (by simp [h, Op.operands])
  have h2 := ho y (by simp [h, Op.operands])
  rw [hx] at h1; rw [hy] at h2
  have e1 := h1.int_inv; have e2 := h2.int_inv
  cases op <;> simp_all [execOp, binOp, binI, run_eqGuard_int, Op.intArith, Op.intDiv, Op.intBits, Op.intCmp, bitsI] <;> try exact .pure _ _ (by constructor)

def shI (op : BinOp) (k : IntKind) (a b : Int) : PV :=
  match op with
  | .shl => .int k (k.wrap (a * 2 ^ (min b.toNat k.bits)))
  | _ => .int k (a.fdiv (2 ^ (min b.toNat k.bits)))

theorem shI_sound {op : BinOp} {t yt : TypeId} {x y : Operand} {k k' : IntKind} {a b : Int} (h : o.op = .binOp op t x y yt) (hx : ins x = .int k a) (hy : ins y = .int k' b)
    (hop : op = .shl ∨ op = .shr) (hb : 0 ≤ b) {ok : Prop} : LTrip P nid o ins S { p := shI op k a b, ok := ok } := by
  refine .still fun g S' ρ w _ ho _ => ?_
  have h1 := ho x (by simp [h, Op.operands])
  have h2 := ho y (by simp [h, Op.operands])
  rw [hx] at h1; rw [hy] at h2
  have e1 := h1.int_inv; have e2 := h2.int_inv
  have hb' : ¬ b < 0 := by omega
  rcases hop with rfl | rfl <;> simp [execOp, binOp, run_eqGuard_int, Op.shift, shI, h, e1, e2, hb'] <;> exact .pure _ _ (by constructor)

theorem size_mk (s : List UInt8) : (⟨⟨s⟩⟩ : ByteArray).size = s.length := rfl
theorem baToList (s : List UInt8) : (⟨⟨s⟩⟩ : ByteArray).toList = s := by
  rw [ByteArray.toList_eq]
theorem baAppend (s t : List UInt8) : ((⟨⟨s⟩⟩ : ByteArray) ++ ⟨⟨t⟩⟩) = ⟨⟨s ++ t⟩⟩ := by
  apply ByteArray.ext
  simp [ByteArray.data_append]
theorem baExtract (s : List UInt8) (l h : Nat) : (⟨⟨s⟩⟩ : ByteArray).extract l h = ⟨⟨(s.drop l).take (h - l)⟩⟩ := by
  apply ByteArray.ext
  simp [ByteArray.data_extract]

def binS (op : BinOp) (a b : List UInt8) : PV × Prop :=
  match op with
  | .add => (.str (a ++ b), a.length + b.length ≤ 9223372036854775807)
  | .eql => (.bool (a == b), True)
  | .neq => (.bool (a != b), True)
  | .lss => (.bool (Op.bytesLess a b), True)
  | .leq => (.bool (Op.bytesLess a b || a == b), True)
  | .gtr => (.bool !(Op.bytesLess a b || a == b), True)
  | .geq => (.bool !(Op.bytesLess a b), True)
  | _ => (.any, False)

theorem binS_sound {op : BinOp} {t yt : TypeId} {x y : Operand} {a b : List UInt8} (h : o.op = .binOp op t x y yt) (hx : ins x = .str a) (hy : ins y = .str b)
    (hok : (binS op a b).2) {ok : Prop} : LTrip P nid o ins S { p := (binS op a b).1, ok := ok } := by
  refine .still fun g S' ρ w _ ho _ => ?_
  have h1 := ho x (by simp [h, Op.operands])
  have h2 := ho y (by simp [h, Op.operands])
  rw [hx] at h1; rw [hy] at h2
  have e1 := h1.str_inv; have e2 := h2.str_inv
  have hg : ∀ op, (eqGuard op t x y (.string ⟨⟨a⟩⟩) (.string ⟨⟨b⟩⟩)).run P w = .ok () w := by
    intro op; unfold eqGuard; simp
  have hm : IntKind.i64.max = 9223372036854775807 := by decide
  cases op <;> simp_all [execOp, binOp, binS, Op.stringOp, size_mk, baToList, baAppend, bne] <;> first
    | exact .pure _ _ (by constructor)
    | (rw [if_neg (by omega)]; exact ⟨_, rfl, .pure _ _ (by constructor)⟩)

def binB (op : BinOp) (a b : Bool) : PV × Prop :=
  match op with
  | .eql => (.bool (a == b), True)
  | .neq => (.bool (a != b), True)
  | _ => (.any, False)

theorem binB_sound {op : BinOp} {t yt : TypeId} {x y : Operand} {a b : Bool} (h : o.op = .binOp op t x y yt) (hx : ins x = .bool a) (hy : ins y = .bool b) (ht : tk P t = .bool)
    (hok : (binB op a b).2) {ok : Prop} : LTrip P nid o ins S { p := (binB op a b).1, ok := ok } := by
  refine .still fun g S' ρ w _ ho _ => ?_
  have h1 := ho x (by simp [h, Op.operands])
  have h2 := ho y (by simp [h, Op.operands])
  rw [hx] at h1; rw [hy] at h2
  have e1 := h1.bool_inv; have e2 := h2.bool_inv
  have hu : P.underlying t = some .bool := by
    unfold tk at ht; split at ht <;> simp_all
  have hg : ∀ op, (eqGuard op t x y (.bool a) (.bool b)).run P w = .ok () w := by
    intro op; unfold eqGuard; simp
  have he : (Op.equal t (.bool a) (.bool b)).run P w = .ok (a == b) w := by
    exact run_equal_bool w t a b hu
  cases op <;> simp_all [execOp, binOp, binB, bne] <;> exact .pure _ _ (by constructor)

end
end Go.Pv
