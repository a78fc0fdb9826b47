/- Abstract values: what an operation needs, as a truth value to be reckoned. Nothing of any program. -/
import Derived.Test.YtbjeagcnakdmnaaPvS
set_option linter.unusedSimpArgs false
set_option linter.unusedVariables false
set_option linter.unusedSectionVars false
namespace Go.Pv
variable [GTab]

def TK.isOther : TK → Bool
  | .other => true
  | _ => false
theorem TK.not_other {k : TK} (h : k.isOther = false) : k ≠ .other := by intro e; subst e; cases h
def TK.isBool : TK → Bool
  | .bool => true
  | _ => false
def TK.isStr : TK → Bool
  | .str => true
  | _ => false
def TK.isU8 : TK → Bool
  | .int .u8 => true
  | _ => false
def TK.isSl : TK → Bool
  | .sl _ => true
  | _ => false
theorem TK.bool_of {k : TK} (h : k.isBool = true) : k = .bool := by cases k <;> first | rfl | cases h
theorem TK.str_of {k : TK} (h : k.isStr = true) : k = .str := by cases k <;> first | rfl | cases h
theorem TK.sl_of {k : TK} (h : k.isSl = true) : ∃ e, k = .sl e := by cases k <;> first | exact ⟨_, rfl⟩ | cases h
theorem TK.u8_of {k : TK} (h : k.isU8 = true) : k = .int .u8 := by
  cases k <;> first | cases h | skip
  rename_i k
  cases k <;> first | rfl | cases h

def okBuild (P : Program) (t : TypeId) (parts : List (Nat × PV)) : Bool :=
  match zc P t with
  | none => false
  | some zs =>
    match tk P t with
    | .st =>
      match plS P t with
      | none => false
      | some pl => (fillPV (fun i => pl[i]?) zs parts).isSome
    | .arr _ e => (fillPV (fun i => some (i * tsz P e, tsz P e)) zs parts).isSome && Nat.blt 0 (tsz P e)
    | _ => false
theorem okBuild_ok {P t parts} (h : okBuild P t parts = true) : (stBuild P t parts).ok := by
  unfold okBuild at h
  unfold stBuild
  cases hz : zc P t with
  | none => rw [hz] at h; cases h
  | some zs =>
    rw [hz] at h
    simp only at h ⊢
    cases ht : tk P t <;> rw [ht] at h <;> simp only at h ⊢ <;> try cases h
    · rw [Bool.and_eq_true, Option.isSome_iff_exists] at h
      obtain ⟨⟨out, h1⟩, h2⟩ := h
      rw [h1]
      exact of_eq_true ((Nat.blt_eq).symm.trans (eq_true h2))
    · cases hp : plS P t with
      | none => rw [hp] at h; cases h
      | some pl =>
        rw [hp] at h
        simp only [Option.isSome_iff_exists] at h ⊢
        obtain ⟨out, h1⟩ := h
        rw [h1]
        trivial

def okBS (P : Program) (t : TypeId) (len : Nat) (ixs : List Nat) (ps : List PV) : Bool :=
  match tk P t with
  | .sl e =>
    match zc P e with
    | some zs => Nat.blt 0 (tsz P e) && Nat.beq zs.length (tsz P e) && (ixs == List.range' 0 ixs.length) && Nat.beq ixs.length len && (ps.all fun p => p.shaped && Nat.beq p.cells.length (tsz P e)) && Nat.ble (len * tsz P e) 16777216
    | none => false
  | _ => false
theorem okBS_ok {P nid t len ixs ps} (h : okBS P t len ixs ps = true) : (stBS P nid t len ixs ps).ok := by
  unfold okBS at h
  unfold stBS
  cases ht : tk P t <;> rw [ht] at h <;> simp only at h ⊢ <;> try cases h
  rename_i e
  cases hz : zc P e with
  | none => rw [hz] at h; cases h
  | some zs =>
    rw [hz] at h
    simp only [Bool.and_eq_true, Nat.blt_eq, Nat.beq_eq, Nat.ble_eq, List.all_eq_true, beq_iff_eq] at h ⊢
    obtain ⟨⟨⟨⟨⟨h1, h2⟩, h3⟩, h4⟩, h5⟩, h6⟩ := h
    exact ⟨h1, h2, h3, h4, shB_of h5, h6⟩

def okLd (P : Program) (t : TypeId) (ps : List PV) : Bool := !(tk P t).isOther && Nat.blt 0 (tsz P t) && Nat.ble (tsz P t) ps.length
theorem okLd_ok {P t ps} (h : okLd P t ps = true) : ldOk P t ps := by
  simp only [okLd, Bool.and_eq_true, Nat.blt_eq, Nat.ble_eq, Bool.not_eq_true'] at h
  exact ⟨TK.not_other h.1.1, h.1.2, h.2⟩

def okLoad (P : Program) (t : TypeId) (p : PV) (S : PS) : Bool :=
  match p with
  | .box id off =>
    match S.obj id with
    | some ps => okLd P t (ps.drop off)
    | none => false
  | .loc ps => okLd P t ps
  | _ => false
theorem okLoad_ok {P t p S} (h : okLoad P t p S = true) : (stLoad P t p S).ok := by
  unfold okLoad at h
  unfold stLoad
  cases p <;> simp only at h ⊢ <;> try cases h
  · exact okLd_ok h
  · rename_i id off
    cases ho : S.obj id with
    | none => rw [ho] at h; cases h
    | some ps => rw [ho] at h; exact okLd_ok h

def okStore (P : Program) (t : TypeId) (p q : PV) (S : PS) : Bool :=
  match p with
  | .box id off =>
    match S.obj id with
    | some ps => q.shaped && Nat.beq (tsz P t) q.cells.length && Nat.blt 0 q.cells.length && Nat.ble (off + q.cells.length) ps.length
    | none => false
  | _ => false
theorem okStore_ok {P t p q S} (h : okStore P t p q S = true) : (stStore P t p q S).ok := by
  unfold okStore at h
  unfold stStore
  cases p <;> simp only at h ⊢ <;> try cases h
  rename_i id off
  cases ho : S.obj id with
  | none => rw [ho] at h; cases h
  | some ps =>
    rw [ho] at h
    simp only [Bool.and_eq_true, Nat.blt_eq, Nat.ble_eq, Nat.beq_eq] at h ⊢
    exact ⟨h.1.1.1, h.1.1.2, h.1.2, h.2⟩

def okNil : PV → Bool
  | .box .. | .loc _ | .fn .. => true
  | _ => false
theorem okNil_ok {p} (h : okNil p = true) : (stNil p).ok := by
  cases p <;> simp [okNil, stNil] at h ⊢

def okI (op : BinOp) (b : Int) : Bool :=
  match op with
  | .quo | .rem => b != 0
  | .shl | .shr => false
  | _ => true
theorem okI_ok {op k a b} (h : okI op b = true) : (binI op k a b).2 := by
  cases op <;> simp_all [okI, binI]
def okS (op : BinOp) (a b : List UInt8) : Bool :=
  match op with
  | .add => Nat.ble (a.length + b.length) 9223372036854775807
  | .eql | .neq | .lss | .leq | .gtr | .geq => true
  | _ => false
theorem okS_ok {op a b} (h : okS op a b = true) : (binS op a b).2 := by
  cases op <;> simp_all [okS, binS]
def okE (op : BinOp) : Bool :=
  match op with
  | .eql | .neq => true
  | _ => false
theorem okE_ok {op a b} (h : okE op = true) : (binB op a b).2 := by
  cases op <;> simp_all [okE, binB]
def isKind : IntKind → IntKind → Bool
  | .i8, .i8 | .i16, .i16 | .i32, .i32 | .i64, .i64 | .u8, .u8 | .u16, .u16 | .u32, .u32 | .u64, .u64 => true
  | _, _ => false
theorem isKind_eq {a b : IntKind} (h : isKind a b = true) : a = b := by cases a <;> cases b <;> first | rfl | cases h
def le0 : Int → Bool
  | .ofNat _ => true
  | .negSucc _ => false
theorem le0_le {a : Int} (h : le0 a = true) : 0 ≤ a := by cases a <;> first | exact Int.natCast_nonneg _ | cases h

def okBin (P : Program) (op : BinOp) (t : TypeId) (p q : PV) : Bool :=
  match p, q with
  | .int k a, .int k' b => if isSh op then le0 b else isKind k k' && okI op b
  | .str a, .str b => okS op a b
  | .bool a, .bool b => (tk P t).isBool && okE op
  | .agg ps, .agg qs => (aggEq P t ps qs).isSome && ((tk P t).isAgg && (P.keyTypeAt 12 t && !P.eqGuardType P.depth t)) && okE op
  | p, .nilsl => (nilSl p).isSome && (tk P t).isSl && okE op
  | p, .nilm => (match nilMp p, tk P t with | some _, .map _ _ => true | _, _ => false) && okE op
  | p, .nilfn => (nilFn p).isSome && (match tk P t with | .fn => true | _ => false) && okE op
  | _, _ => false
theorem okBin_ok {P op t p q} (h : okBin P op t p q = true) : (stBin P op t p q).ok := by
  unfold okBin at h
  unfold stBin
  split at h
  · rename_i k a k' b
    simp only
    by_cases hs : isSh op = true
    · rw [if_pos hs] at h ⊢; exact le0_le h
    · rw [if_neg hs] at h ⊢
      rw [Bool.and_eq_true] at h
      exact ⟨isKind_eq h.1, okI_ok h.2⟩
  · exact okS_ok h
  · rw [Bool.and_eq_true] at h; exact ⟨TK.bool_of h.1, okE_ok h.2⟩
  · rename_i ps qs
    rw [Bool.and_eq_true, Bool.and_eq_true, Option.isSome_iff_exists] at h
    obtain ⟨⟨⟨b, hb⟩, h1⟩, h2⟩ := h
    have h3 : op = .eql ∨ op = .neq := by cases op <;> first | exact .inl rfl | exact .inr rfl | cases h2
    simp only [hb]
    exact ⟨h1, h3⟩
  · rename_i p _
    rw [Bool.and_eq_true, Bool.and_eq_true, Option.isSome_iff_exists] at h
    obtain ⟨⟨⟨b, hb⟩, h1⟩, h2⟩ := h
    have h3 : op = .eql ∨ op = .neq := by cases op <;> first | exact .inl rfl | exact .inr rfl | cases h2
    cases p <;> first | cases hb | (simp only [hb]; exact ⟨TK.sl_of h1, h3⟩)
  · rename_i p _
    rw [Bool.and_eq_true] at h
    obtain ⟨h1, h2⟩ := h
    have h3 : op = .eql ∨ op = .neq := by cases op <;> first | exact .inl rfl | exact .inr rfl | cases h2
    split at h1
    · rename_i b kt et hb ht
      cases p <;> first | (cases hb; done) | (simp only [hb, ht]; exact h3)
    · cases h1
  · rename_i p _ _
    rw [Bool.and_eq_true, Bool.and_eq_true, Option.isSome_iff_exists] at h
    obtain ⟨⟨⟨b, hb⟩, h1⟩, h2⟩ := h
    have h3 : op = .eql ∨ op = .neq := by cases op <;> first | exact .inl rfl | exact .inr rfl | cases h2
    have h4 : tk P t = .fn := by
      revert h1
      cases tk P t <;> intro h1 <;> first | rfl | cases h1
    cases p <;> first | (cases hb; done) | (simp only [hb]; exact ⟨h4, h3⟩)
  · cases h

def okUn (op : UnOp) (p : PV) : Bool :=
  match op, p with
  | .not, .bool _ => true
  | .neg, .int _ _ => true
  | .xor, .int _ _ => true
  | _, _ => false
theorem okUn_ok {op p} (h : okUn op p = true) : (stUn op p).ok := by
  unfold okUn at h
  split at h <;> first | trivial | cases h

def TK.isInt : TK → Bool
  | .int _ => true
  | _ => false
theorem TK.int_of {k : TK} (h : k.isInt = true) : ∃ e, k = .int e := by cases k <;> first | exact ⟨_, rfl⟩ | cases h

def okConv (P : Program) (s d : TypeId) (p : PV) : Bool :=
  match p with
  | .int k n => (tk P d).isInt && !(tk P s).isOther
  | .str b => (tk P s).isStr && (tk P d).isStr
  | _ =>
    match p.asl, tk P s with
    | some (sz, es), .sl e => (tk P d).isStr && Nat.beq sz 1 && (tk P e).isU8 && es.all isByte
    | _, _ => false
theorem okConv_s {P s d p S} (h : okConv P s d p = true) : convS P s d p S = stConv P s d p := by
  cases p <;> first | rfl | skip
  unfold okConv at h
  cases hs : tk P s <;> rw [hs] at h <;> simp [PV.asl] at h
theorem okConv_ok {P s d p} (h : okConv P s d p = true) : (stConv P s d p).ok := by
  unfold okConv at h
  unfold stConv
  split at h
  · rw [Bool.and_eq_true] at h
    obtain ⟨e, he⟩ := TK.int_of h.1
    simp only [he]
    exact TK.not_other (by simpa using h.2)
  · rw [Bool.and_eq_true] at h; exact ⟨TK.str_of h.1, TK.str_of h.2⟩
  · split at h
    · rename_i sz es e ha hs
      simp only [Bool.and_eq_true, Nat.beq_eq] at h
      obtain ⟨⟨⟨h1, h2⟩, h3⟩, h4⟩ := h
      simp only [ha, hs, TK.str_of h1]
      exact ⟨h2, TK.u8_of h3, h4⟩
    · cases h

def isOne1 : List PV → Bool
  | [.agg _] => false
  | [_] => true
  | _ => false
def okMake (P : Program) (t : TypeId) (p q : PV) : Bool :=
  match p, q, tk P t with
  | .int _ n, .int _ c, .sl e =>
    match zc P e with
    | some zs => match GTab.bx e with
      | true => Nat.blt 0 (tsz P e) && Nat.beq zs.length (tsz P e) && (le0 n && le0 (-n)) && le0 c && le0 (281474976710656 - (tby P e : Int) * c) && le0 (9223372036854775807 - c)
      | false => Nat.blt 0 (tsz P e) && Nat.beq zs.length (tsz P e) && ((tk P e).isAgg || isOne1 zs) && le0 n && le0 (c - n) && le0 (281474976710656 - (tby P e : Int) * c) && le0 (9223372036854775807 - c)
    | none => false
  | _, _, _ => false
theorem okMake_ok {P nid t p q} (h : okMake P t p q = true) : (stMake P nid t p q).ok := by
  unfold okMake at h
  unfold stMake
  split at h
  · rename_i k n k' c e ht
    simp only [ht] at h ⊢
    cases hz : zc P e with
    | none => rw [hz] at h; cases h
    | some zs =>
      rw [hz] at h
      cases hbx : GTab.bx e with
      | true =>
        rw [hbx] at h
        simp only [Bool.and_eq_true, Nat.beq_eq, Nat.blt_eq] at h ⊢
        obtain ⟨⟨⟨⟨⟨h1, h2⟩, h3⟩, h4⟩, h6⟩, h7⟩ := h
        have h3a := le0_le h3.1
        have h3b := le0_le h3.2
        have h6 := le0_le h6
        have h7 := le0_le h7
        exact ⟨h1, h2, by omega, le0_le h4, by omega, by omega⟩
      | false =>
      rw [hbx] at h
      simp only [Bool.and_eq_true, Nat.beq_eq, Nat.blt_eq, Bool.or_eq_true] at h ⊢
      obtain ⟨⟨⟨⟨⟨⟨h1, h2⟩, h3⟩, h4⟩, h5⟩, h6⟩, h7⟩ := h
      have h5 := le0_le h5
      have h6 := le0_le h6
      have h7 := le0_le h7
      refine ⟨h1, h2, ?_, le0_le h4, by omega, by omega, by omega, ?_⟩
      · rcases h3 with h3 | h3
        · exact .inl h3
        · refine .inr ?_
          rw [← h2]
          unfold isOne1 at h3
          split at h3 <;> first | rfl | cases h3
      · unfold zel
        by_cases ha : (tk P e).isAgg = true
        · rw [if_pos ha]; rfl
        · rw [if_neg ha]
          rcases h3 with h3 | h3
          · exact absurd h3 ha
          · unfold isOne1 at h3
            split at h3
            · cases h3
            · rename_i x hx
              show PV.cells x = [x]
              cases x <;> first | rfl | exact absurd rfl (hx _)
            · cases h3
  · cases h

def bndB : Option PV → Bool
  | some (.int _ n) => le0 n
  | some _ => false
  | none => true
theorem bndB_ok {x} (h : bndB x = true) : bndO x := by
  unfold bndB at h
  split at h
  · exact le0_le h
  · cases h
  · trivial

def okSlice3 (P : Program) (t : TypeId) (p : PV) (lo : Option PV) (h m : PV) : Bool :=
  match p.asl, tk P t with
  | some (sz, es), .sl e => Nat.blt 0 (tsz P e) && Nat.beq (tsz P e) sz && bndB lo && bndB (some h) && bndB (some m) && Nat.ble (bndV 0 lo) (bndV 0 (some h)) && Nat.ble (bndV 0 (some h)) (bndV 0 (some m)) && Nat.ble (bndV 0 (some m)) es.length
  | _, _ => false
theorem okSlice3_ok {P t p lo h m} (hh : okSlice3 P t p lo h m = true) : (stSlice3 P t p lo h m).ok := by
  unfold okSlice3 at hh
  unfold stSlice3
  split at hh
  · rename_i hx ht
    simp only [Bool.and_eq_true, Nat.ble_eq, Nat.blt_eq, Nat.beq_eq] at hh
    simp only [hx, ht]
    obtain ⟨⟨⟨⟨⟨⟨⟨h1, h2⟩, h3⟩, h4⟩, h5⟩, h6⟩, h7⟩, h8⟩ := hh
    exact ⟨h1, h2, bndB_ok h3, bndB_ok h4, bndB_ok h5, h6, h7, h8⟩
  · cases hh
def okSlice (P : Program) (t : TypeId) (p : PV) (lo hi : Option PV) (mx : Bool) : Bool :=
  if mx then false else
  match p with
  | .str s => (tk P t).isStr && bndB lo && bndB hi && Nat.ble (bndV 0 lo) (bndV s.length hi) && Nat.ble (bndV s.length hi) s.length
  | .sl sz es =>
    match tk P t with
    | .sl e => Nat.blt 0 (tsz P e) && Nat.beq (tsz P e) sz && bndB lo && bndB hi && Nat.ble (bndV 0 lo) (bndV es.length hi) && Nat.ble (bndV es.length hi) es.length
    | _ => false
  | .sln sz es =>
    match tk P t with
    | .sl e => Nat.blt 0 (tsz P e) && Nat.beq (tsz P e) sz && bndB lo && bndB hi && Nat.ble (bndV 0 lo) (bndV es.length hi) && Nat.ble (bndV es.length hi) es.length
    | _ => false
  | .slt sz es k =>
    match tk P t with
    | .sl e =>
      match hi with
      | none => Nat.blt 0 (tsz P e) && Nat.beq (tsz P e) sz && bndB lo && Nat.ble (bndV 0 lo) es.length
      | some h => Nat.blt 0 (tsz P e) && Nat.beq (tsz P e) sz && bndB lo && bndB (some h) && Nat.ble (bndV 0 lo) (bndV es.length (some h)) && Nat.ble (bndV es.length (some h)) es.length
    | _ => false
  | .nilsl =>
    match tk P t with
    | .sl e => Nat.blt 0 (tsz P e) && bndB lo && bndB hi && Nat.beq (bndV 0 lo) 0 && Nat.beq (bndV 0 hi) 0
    | _ => false
  | .box id off =>
    match tk P t with
    | .arr n e => Nat.blt 0 (tsz P e) && bndB lo && bndB hi && Nat.ble (bndV 0 lo) (bndV n hi) && Nat.ble (bndV n hi) n && Nat.blt (bndV 0 lo) n && Nat.ble n maxLen
    | _ => false
  | _ => false
theorem okSlice_ok {P t p lo hi mx} (h : okSlice P t p lo hi mx = true) : (stSlice P t p lo hi mx).ok := by
  unfold okSlice at h
  unfold stSlice
  cases mx with
  | true => cases h
  | false =>
    simp only [Bool.false_eq_true, if_false] at h ⊢
    split at h
    · simp only [Bool.and_eq_true, Nat.ble_eq] at h
      exact ⟨TK.str_of h.1.1.1.1, bndB_ok h.1.1.1.2, bndB_ok h.1.1.2, h.1.2, h.2⟩
    · split at h
      · rename_i ht
        simp only [Bool.and_eq_true, Nat.ble_eq, Nat.blt_eq, Nat.beq_eq] at h
        simp only [ht]
        exact ⟨h.1.1.1.1.1, h.1.1.1.1.2, bndB_ok h.1.1.1.2, bndB_ok h.1.1.2, h.1.2, h.2⟩
      · cases h
    · split at h
      · rename_i ht
        simp only [Bool.and_eq_true, Nat.ble_eq, Nat.blt_eq, Nat.beq_eq] at h
        simp only [ht]
        exact ⟨h.1.1.1.1.1, h.1.1.1.1.2, bndB_ok h.1.1.1.2, bndB_ok h.1.1.2, h.1.2, h.2⟩
      · cases h
    · split at h
      · rename_i ht
        simp only [ht]
        split at h
        · simp only [Bool.and_eq_true, Nat.ble_eq, Nat.blt_eq, Nat.beq_eq] at h
          exact ⟨h.1.1.1, h.1.1.2, bndB_ok h.1.2, h.2⟩
        · simp only [Bool.and_eq_true, Nat.ble_eq, Nat.blt_eq, Nat.beq_eq] at h
          exact ⟨h.1.1.1.1.1, h.1.1.1.1.2, bndB_ok h.1.1.1.2, bndB_ok h.1.1.2, h.1.2, h.2⟩
      · cases h
    · split at h
      · rename_i ht
        simp only [ht]
        simp only [Bool.and_eq_true, Nat.blt_eq, Nat.beq_eq] at h
        exact ⟨h.1.1.1.1, bndB_ok h.1.1.1.2, bndB_ok h.1.1.2, h.1.2, h.2⟩
      · cases h
    · split at h
      · rename_i ht
        simp only [ht]
        simp only [Bool.and_eq_true, Nat.ble_eq, Nat.blt_eq, Nat.beq_eq] at h
        exact ⟨h.1.1.1.1.1.1, bndB_ok h.1.1.1.1.1.2, bndB_ok h.1.1.1.1.2, h.1.1.1.2, h.1.1.2, h.1.2, h.2⟩
      · cases h
    · cases h

def okFA (P : Program) (t : TypeId) (p : PV) (i : Nat) : Bool :=
  match fld P t i with
  | none => false
  | some (fo, ft) =>
    match p with
    | .box _ _ | .loc _ => Nat.blt 0 (tsz P ft)
    | _ => false
theorem okFA_ok {P t p i} (h : okFA P t p i = true) : (stFA P t p i).ok := by
  unfold okFA at h
  unfold stFA
  split at h
  · cases h
  · rename_i fo ft hf
    simp only [hf]
    split at h
    · exact of_eq_true ((Nat.blt_eq).symm.trans (eq_true h))
    · exact of_eq_true ((Nat.blt_eq).symm.trans (eq_true h))
    · cases h

def okField (P : Program) (t : TypeId) (p : PV) (i : Nat) : Bool :=
  match fld P t i with
  | none => false
  | some (fo, ft) =>
    match p with
    | .agg ps => !(tk P ft).isOther && Nat.blt 0 (tsz P ft) && Nat.ble (fo + tsz P ft) ps.length
    | _ => false
theorem okField_ok {P t p i} (h : okField P t p i = true) : (stField P t p i).ok := by
  unfold okField at h
  unfold stField
  split at h
  · cases h
  · rename_i fo ft hf
    simp only [hf]
    split at h
    · simp only [Bool.and_eq_true, Nat.ble_eq, Nat.blt_eq, Bool.not_eq_true'] at h
      exact ⟨TK.not_other h.1.1, h.1.2, h.2⟩
    · cases h

def ltI (i : Int) (n : Nat) : Bool :=
  match i with
  | .ofNat i => Nat.blt i n
  | .negSucc _ => false
theorem ltI_lt {i : Int} {n : Nat} (h : ltI i n = true) : 0 ≤ i ∧ i < n := by
  cases i with
  | ofNat i =>
    have : i < n := of_eq_true ((Nat.blt_eq).symm.trans (eq_true h))
    simp only [Int.ofNat_eq_natCast]
    omega
  | negSucc => cases h

def okIA (P : Program) (t : TypeId) (p q : PV) : Bool :=
  match q with
  | .int _ i =>
    match p, tk P t with
    | .box _ _, .arr n e => Nat.blt 0 (tsz P e) && ltI i n
    | .loc _, .arr n e => Nat.blt 0 (tsz P e) && ltI i n
    | .slb _ _ n _, .sl e => Nat.blt 0 (tsz P e) && ltI i n
    | .sl sz es, .sl e => Nat.blt 0 (tsz P e) && Nat.beq (tsz P e) sz && ltI i es.length
    | .slt sz es _, .sl e => Nat.blt 0 (tsz P e) && Nat.beq (tsz P e) sz && ltI i es.length
    | _, _ => false
  | _ => false
theorem okIA_ok {P t p q} (h : okIA P t p q = true) : (stIA P t p q).ok := by
  unfold okIA at h
  unfold stIA
  split at h
  · rename_i k i
    split at h <;> (try cases h) <;> rename_i ht <;> simp only [ht] <;> simp only [Bool.and_eq_true, Nat.blt_eq, Nat.beq_eq] at h
    · exact ⟨h.1, ltI_lt h.2⟩
    · exact ⟨h.1, ltI_lt h.2⟩
    · exact ⟨h.1, ltI_lt h.2⟩
    · exact ⟨h.1.1, h.1.2, ltI_lt h.2⟩
    · exact ⟨h.1.1, h.1.2, ltI_lt h.2⟩
  · cases h

def okIx (P : Program) (t : TypeId) (p q : PV) : Bool :=
  match q with
  | .int _ i =>
    match p, tk P t with
    | .str s, .str => ltI i s.length
    | .agg ps, .arr n e => !(tk P e).isOther && Nat.blt 0 (tsz P e) && ltI i n && Nat.ble (i.toNat * tsz P e + tsz P e) ps.length
    | _, _ => false
  | _ => false
theorem okIx_ok {P t p q} (h : okIx P t p q = true) : (stIx P t p q).ok := by
  unfold okIx at h
  unfold stIx
  split at h
  · split at h <;> (try cases h) <;> rename_i ht <;> simp only [ht]
    · exact ltI_lt h
    · simp only [Bool.and_eq_true, Nat.ble_eq, Nat.blt_eq, Bool.not_eq_true'] at h
      exact ⟨TK.not_other h.1.1.1, h.1.1.2, (ltI_lt h.1.2).1, (ltI_lt h.1.2).2, h.2⟩
  · cases h

def okExt (p : PV) (i : Nat) : Bool :=
  match p with
  | .tup ps => (ps[i]?).isSome
  | _ => false
theorem okExt_ok {p i} (h : okExt p i = true) : (stExt p i).ok := by
  unfold okExt at h
  unfold stExt
  split at h
  · rw [Option.isSome_iff_exists] at h
    obtain ⟨q, hq⟩ := h
    simp only [hq]
  · cases h

def okAlloc (P : Program) (t : TypeId) : Bool :=
  match zc P t, bldE P t with
  | some _, none => true
  | some [.nilptr, .nilsl], some _ => true
  | _, _ => false
theorem okAlloc_ok {P nid t} (h : okAlloc P t = true) : (stAlloc P nid t).ok := by
  unfold okAlloc at h
  unfold stAlloc
  split at h
  · rename_i h1 h2; simp only [h1, h2]
  · rename_i h1 h2; simp only [h1, h2]
  · cases h

def okLen (P : Program) (t : TypeId) (p : PV) (S : PS) : Bool :=
  match tk P t, p with
  | .map _ _, p => (mapPV S p).isSome
  | .arr _ _, _ => true
  | .str, .str _ => true
  | .sl _, .sl _ _ => true
  | .sl _, .slt _ _ _ => true
  | .sl _, .sln _ _ => true
  | .sl _, .sl0 _ => true
  | .sl _, .nilsl => true
  | .sl _, .slb _ _ _ _ => true
  | .sl _, .bsl _ _ _ => true
  | _, _ => false
theorem okLen_ok {P t p S} (h : okLen P t p S = true) : (stLen P t p S).ok := by
  unfold okLen at h
  unfold stLen
  split at h
  · rename_i ht
    obtain ⟨es, he⟩ := Option.isSome_iff_exists.1 h
    simp only [ht, he]
  all_goals (try cases h)
  all_goals (rename_i ht; simp only [ht])

def apdB (P : Program) (xT : TypeId) : PV → Bool
  | .str _ => (tk P xT).isStr
  | _ => (tk P xT).isSl
theorem apdB_ok {P xT p} (h : apdB P xT p = true) : apdT P xT p := by
  unfold apdB at h
  unfold apdT
  split at h
  · exact TK.str_of h
  · rename_i hx
    split
    · exact absurd rfl (hx _)
    · exact TK.sl_of h

def okAppK (P : Program) (nid : Nat) (e xT : TypeId) (p q : PV) (S : PS) : Bool :=
    match zc P e, q.apd (tsz P e) with
    | some zs, some fs =>
      match p with
      | .slt sz es k => apdB P xT q && Nat.beq (tsz P e) sz && Nat.blt 0 sz && Nat.beq zs.length sz && S.lv k && !Nat.beq nid k && Nat.ble (es.length + fs.length) maxLen && Nat.ble ((es.length + fs.length) * tby P e) 140737488355328
      | .bsl e' es k => apdB P xT q && Nat.beq e' e && Nat.beq (tsz P e) 1 && Nat.beq zs.length 1 && S.lv k && !Nat.beq nid k && Nat.ble (es.length + fs.length) maxLen && Nat.ble ((es.length + fs.length) * tby P e) 140737488355328
      | .sl0 sz => apdB P xT q && Nat.beq (tsz P e) sz && Nat.blt 0 sz && Nat.beq zs.length sz && Nat.ble fs.length maxLen && Nat.ble (fs.length * tby P e) 140737488355328
      | .slg id n sz =>
        match S.obj id with
        | some ps => apdB P xT q && Nat.beq (tsz P e) sz && Nat.blt 0 sz && Nat.beq zs.length sz && Nat.ble (n * sz) ps.length && Nat.blt 0 fs.length && Nat.ble (n + fs.length) maxLen && Nat.ble ((n + fs.length) * tby P e) 140737488355328
        | none => false
      | .nilsl => (match GTab.bx e with | true => Nat.blt 0 fs.length | false => true) && apdB P xT q && Nat.blt 0 (tsz P e) && Nat.beq zs.length (tsz P e) && Nat.ble fs.length maxLen && Nat.ble (fs.length * tby P e) 140737488355328
      | _ => false
    | _, _ => false
theorem okAppK_ok {P nid e xT p q S} (h : okAppK P nid e xT p q S = true) : (stAppK P nid e xT p q S).ok := by
  unfold okAppK at h
  unfold stAppK
  split at h
  · rename_i zs fs hz hq
    simp only [hz, hq]
    split at h
    · simp only [Bool.and_eq_true, Nat.ble_eq, Nat.blt_eq, Nat.beq_eq, Bool.not_eq_true'] at h
      obtain ⟨⟨⟨⟨⟨⟨⟨h1, h2⟩, h3⟩, h4⟩, h5⟩, h6⟩, h7⟩, h8⟩ := h
      exact ⟨apdB_ok h1, h2, h3, h4, h5, fun e => (by rw [e, Nat.beq_refl] at h6; cases h6), h7, h8⟩
    · simp only [Bool.and_eq_true, Nat.ble_eq, Nat.blt_eq, Nat.beq_eq, Bool.not_eq_true'] at h
      obtain ⟨⟨⟨⟨⟨⟨⟨h1, h2⟩, h3⟩, h4⟩, h5⟩, h6⟩, h7⟩, h8⟩ := h
      exact ⟨apdB_ok h1, h2, h3, h4, h5, fun e => (by rw [e, Nat.beq_refl] at h6; cases h6), h7, h8⟩
    · simp only [Bool.and_eq_true, Nat.ble_eq, Nat.blt_eq, Nat.beq_eq] at h
      exact ⟨apdB_ok h.1.1.1.1.1, h.1.1.1.1.2, h.1.1.1.2, h.1.1.2, h.1.2, h.2⟩
    · split at h
      · simp only [Bool.and_eq_true, Nat.ble_eq, Nat.blt_eq, Nat.beq_eq] at h
        rename_i ps hps
        simp only [hps]
        obtain ⟨⟨⟨⟨⟨⟨⟨h1, h2⟩, h3⟩, h4⟩, h5⟩, h6⟩, h7⟩, h8⟩ := h
        exact ⟨apdB_ok h1, h2, h3, h4, h5, h6, h7, h8⟩
      · cases h
    · cases hbx : GTab.bx e with
      | true =>
        rw [hbx] at h
        simp only [Bool.and_eq_true, Nat.ble_eq, Nat.blt_eq, Nat.beq_eq] at h
        exact ⟨apdB_ok h.1.1.1.1.2, h.1.1.1.2, h.1.1.2, h.1.1.1.1.1, h.1.2, h.2⟩
      | false =>
        rw [hbx] at h
        simp only [Bool.and_eq_true, Nat.ble_eq, Nat.blt_eq, Nat.beq_eq, Bool.true_and] at h
        exact ⟨apdB_ok h.1.1.1.1, h.1.1.1.2, h.1.1.2, h.1.2, h.2⟩
    · cases h
  · cases h
def okAppJ (P : Program) (e xT : TypeId) (n : Nat) (q : PV) : Bool :=
  match zc P e with
  | some zs =>
    match q with
    | .slj m => (match tk P xT with | .sl e' => Nat.beq e' e | _ => false) && Nat.beq (tsz P e) 1 && Nat.beq zs.length 1 && Nat.ble (n + m) maxLen && Nat.ble ((n + m) * tby P e) 140737488355328
    | q =>
      match q.apd 1 with
      | some fs => apdB P xT q && Nat.beq (tsz P e) 1 && Nat.beq zs.length 1 && Nat.ble (n + fs.length) maxLen && Nat.ble ((n + fs.length) * tby P e) 140737488355328
      | none => false
  | none => false
theorem okAppJ_ok {P e xT n q} (h : okAppJ P e xT n q = true) : (stAppJ P e xT n q).ok := by
  unfold okAppJ at h
  unfold stAppJ
  split at h
  · rename_i zs hz
    simp only [hz]
    split at h
    · simp only [Bool.and_eq_true, Nat.ble_eq, Nat.beq_eq] at h
      obtain ⟨⟨⟨⟨h1, h2⟩, h3⟩, h4⟩, h5⟩ := h
      refine ⟨?_, h2, h3, h4, h5⟩
      split at h1
      · rename_i e' he; rw [he, Nat.eq_of_beq_eq_true h1]
      · cases h1
    · rename_i hq
      split
      · exact absurd rfl (hq _)
      · split at h
        · rename_i fs hf
          simp only [hf]
          simp only [Bool.and_eq_true, Nat.ble_eq, Nat.beq_eq] at h
          obtain ⟨⟨⟨⟨h1, h2⟩, h3⟩, h4⟩, h5⟩ := h
          exact ⟨apdB_ok h1, h2, h3, h4, h5⟩
        · cases h
  · cases h
def okApp (P : Program) (nid : Nat) (t xT : TypeId) (p q : PV) (S : PS) : Bool :=
  match tk P t with
  | .sl e =>
    match p with
    | .slj n => okAppJ P e xT n q
    | .sl0 1 =>
      match q with
      | .slj m => okAppJ P e xT 0 (.slj m)
      | q => okAppK P nid e xT (.sl0 1) q S
    | p => okAppK P nid e xT p q S
  | _ => false
theorem okApp_ok {P nid t xT p q S} (h : okApp P nid t xT p q S = true) : (stApp P nid t xT p q S).ok := by
  unfold okApp at h
  unfold stApp
  cases ht : tk P t <;> rw [ht] at h <;> try (cases h; done)
  rename_i e
  simp only at h ⊢
  split at h
  · exact okAppJ_ok h
  · split at h
    · exact okAppJ_ok h
    · rename_i hq
      cases q <;> first | exact okAppK_ok h | exact (hq _ rfl).elim
  · rename_i h1 h2
    split
    · exact (h1 _ rfl).elim
    · exact (h2 rfl).elim
    · exact okAppK_ok h

def okRng (P : Program) (t : TypeId) (p : PV) : Bool :=
  match tk P t, rngPV p with
  | .map _ _, some _ => true
  | _, _ => false
theorem okRng_ok {P nid t p} (h : okRng P t p = true) : (stRng P nid t p).ok := by
  unfold okRng at h
  unfold stRng
  split at h
  · rename_i k e es h1 h2; simp only [h1, h2]
  · cases h
def okNext (p : PV) (b : Bool) (S : PS) : Bool :=
  match p, b with
  | .iref id, false =>
    match S.obj id with
    | some [_, .mobj []] => true
    | _ => false
  | _, _ => false
theorem okNext_ok {p b S} (h : okNext p b S = true) : (stNext p b S).ok := by
  unfold okNext at h
  unfold stNext
  split at h
  · split at h
    · rename_i h1; simp only [h1]
    · cases h
  · cases h
def okEnt (p : PV) (S : PS) : Bool :=
  match p with
  | .iref id =>
    match S.obj id with
    | some [.tup [_, _], .mobj _] => true
    | _ => false
  | _ => false
theorem okEnt_ok {p S} (h : okEnt p S = true) : (stEnt p S).ok := by
  unfold okEnt at h
  unfold stEnt
  split at h
  · split at h
    · rename_i h1; simp only [h1]
    · cases h
  · cases h

def okMM (p q : PV) : Bool :=
  match p, q with
  | .int k _, .int k' _ => isKind k k'
  | _, _ => false
theorem okMM_ok {b p q} (h : okMM p q = true) (hb : b = .min ∨ b = .max) : (stMM b p q).ok := by
  unfold okMM at h
  unfold stMM
  split at h
  · exact ⟨hb, isKind_eq h⟩
  · cases h

def okCopy (P : Program) (t : TypeId) (p q : PV) (S : PS) : Bool :=
  match p, q, tk P t with
  | .slb i off n sz, .slb j off2 n2 sz2, .sl e =>
    match S.obj i, S.obj j with
    | some ps, some qs => Nat.beq sz 1 && Nat.beq sz2 1 && Nat.beq (tsz P e) 1 && Nat.ble (off + n) ps.length && Nat.ble (off2 + n2) qs.length
    | _, _ => false
  | _, _, _ => false
theorem okCopy_ok {P t p q S} (h : okCopy P t p q S = true) : (stCopy P t p q S).ok := by
  unfold okCopy at h
  unfold stCopy
  split at h
  · rename_i ht
    simp only [ht]
    split at h
    · rename_i hob hoj
      simp only [hob, hoj]
      simp only [Bool.and_eq_true, Nat.ble_eq, Nat.beq_eq] at h
      exact ⟨h.1.1.1.1, h.1.1.1.2, h.1.1.2, h.1.2, h.2⟩
    · cases h
  · cases h

def okMUp (P : Program) (t : TypeId) (m k : PV) (S : PS) : Bool :=
  match tk P t, m with
  | .map kt et, .mref id =>
    match S.obj id with
    | some [.mobj es] => kTy P kt && (kAll P kt es && kOk P kt k)
    | _ => false
  | _, _ => false
theorem okMUp_ok {P t m k x S} (h : okMUp P t m k S = true) : (stMUp P t m k x S).ok ∧ (stMDel P t m k S).ok := by
  unfold okMUp at h
  unfold stMUp stMDel
  split at h
  · rename_i kt et id ht
    split at h
    · rename_i es ho
      simp only [Bool.and_eq_true] at h
      simp only [ht, ho]
      exact ⟨⟨h.1, h.2.1, h.2.2⟩, ⟨h.1, h.2.1, h.2.2⟩⟩
    · cases h
  · cases h
def okLook (P : Program) (t : TypeId) (p q : PV) (S : PS) : Bool :=
  match tk P t, mapPV S p with
  | .map kt et, some es => (zvO P et).isSome && (kTy P kt && (kAll P kt es && kOk P kt q))
  | _, _ => false
theorem okLook_ok {P t p q c S} (h : okLook P t p q S = true) : (stLook P t p q c S).ok := by
  unfold okLook at h
  unfold stLook
  split at h
  · rename_i kt et es ht hx
    simp only [Bool.and_eq_true] at h
    obtain ⟨z, hz⟩ := Option.isSome_iff_exists.1 h.1
    simp only [ht, hx, hz]
    exact ⟨h.2.1, h.2.2.1, h.2.2.2⟩
  · cases h
def okMk (P : Program) (t : TypeId) (r : Option PV) : Bool :=
  match r with
  | none => true
  | some (.int _ _) => match tk P t with | .map _ _ => true | _ => false
  | _ => false
theorem okMk_ok {P nid t r} (h : okMk P t r = true) : (stMake' P nid t r).ok := by
  unfold okMk at h
  unfold stMake'
  split at h
  · trivial
  · split at h
    · rename_i ht; simp only [ht]
    · cases h
  · cases h
def okClr (P : Program) (t : TypeId) (p : PV) (S : PS) : Bool :=
  match p, tk P t with
  | .slb i off n sz, .sl e =>
    match S.obj i, zc P e with
    | some ps, some zs => Nat.beq zs.length sz && Nat.ble (off + n * sz) ps.length && Nat.blt 0 n
    | _, _ => false
  | _, _ => false
theorem okClr_ok {P t p S} (h : okClr P t p S = true) : (stClr P t p S).ok := by
  unfold okClr at h
  unfold stClr
  split at h
  · rename_i ht
    simp only [ht]
    split at h
    · rename_i hob hz
      simp only [hob, hz]
      simp only [Bool.and_eq_true, Nat.ble_eq, Nat.beq_eq, Nat.blt_eq] at h
      exact ⟨h.1.1, h.1.2, h.2⟩
    · cases h
  · cases h
def okCall (P : Program) (nid : Nat) (cal : Callee) (args : List Operand) (ats : List TypeId) (u : Operand → PV) (S : PS) : Bool :=
  match cal with
  | .builtin .len =>
    match args, ats with
    | [x], [t] => okLen P t (u x) S
    | _, _ => false
  | .builtin .append =>
    match args, ats with
    | [x, y], [t, xT] => okApp P nid t xT (u x) (u y) S
    | _, _ => false
  | .builtin .min =>
    match args with
    | [x, y] => okMM (u x) (u y)
    | _ => false
  | .builtin .max =>
    match args with
    | [x, y] => okMM (u x) (u y)
    | _ => false
  | .builtin .copy =>
    match args, ats with
    | [x, y], [t, _] => okCopy P t (u x) (u y) S
    | _, _ => false
  | .builtin .delete =>
    match args, ats with
    | [x, y], [t, _] => okMUp P t (u x) (u y) S
    | _, _ => false
  | .builtin .clear =>
    match args, ats with
    | [x], [t] => okClr P t (u x) S
    | _, _ => false
  | _ => false
theorem okCall_ok {P nid cal args ats u S} (h : okCall P nid cal args ats u S = true) : (stCall P nid cal args ats u S).ok := by
  unfold okCall at h
  unfold stCall
  split at h
  · split at h
    · exact okLen_ok h
    · cases h
  · split at h
    · exact okApp_ok h
    · cases h
  · split at h
    · exact okMM_ok h (.inl rfl)
    · cases h
  · split at h
    · exact okMM_ok h (.inr rfl)
    · cases h
  · split at h
    · exact okCopy_ok h
    · cases h
  · split at h
    · exact (okMUp_ok (x := .any) h).2
    · cases h
  · split at h
    · exact okClr_ok h
    · cases h
  · cases h

def okOp (P : Program) (nid : Nat) (op : Op) (u : Operand → PV) (S : PS) : Bool :=
  match op with
  | .move _ => true
  | .assign _ => true
  | .alloc t => okAlloc P t
  | .box _ x => (u x).shaped
  | .build t parts => okBuild P t (parts.toList.map fun (i, x) => (i, u x))
  | .buildSlice t len parts => okBS P t len (parts.toList.map (·.1)) (parts.toList.map fun x => u x.2)
  | .load t x => okLoad P t (u x) S
  | .store t x y => okStore P t (u x) (u y) S
  | .nilCheck x => okNil (u x)
  | .binOp b t x y _ => okBin P b t (u x) (u y)
  | .unOp b _ x => okUn b (u x)
  | .convert s d x => okConv P s d (u x)
  | .makeFunc (.func f) ⟨[]⟩ _ => true
  | .makeSlice t x y => okMake P t (u x) (u y)
  | .slice t x lo hi none => okSlice P t (u x) (lo.map u) (hi.map u) false
  | .slice t x lo (some hi) (some mx) => okSlice3 P t (u x) (lo.map u) (u hi) (u mx)
  | .fieldAddr t x i => okFA P t (u x) i
  | .field t x i => okField P t (u x) i
  | .indexAddr t x y => okIA P t (u x) (u y)
  | .index t x y => okIx P t (u x) (u y)
  | .extract x i => okExt (u x) i
  | .makeMap t r => okMk P t (r.map u)
  | .lookup t x y _ => okLook P t (u x) (u y) S
  | .range t x => okRng P t (u x)
  | .next x b => okNext (u x) b S
  | .entry x => okEnt (u x) S
  | .mapUpdate t m k _ => okMUp P t (u m) (u k) S
  | .insert t m k _ => okMUp P t (u m) (u k) S
  | .call c => okCall P nid c.callee c.args.toList c.argTypes.toList u S
  | _ => false
theorem okOp_ok {P nid op u S} (h : okOp P nid op u S = true) : (core P nid op u S).ok := by
  unfold okOp at h
  split at h <;> unfold core
  · trivial
  · trivial
  · exact okAlloc_ok h
  · exact h
  · exact okBuild_ok h
  · exact okBS_ok h
  · exact okLoad_ok h
  · exact okStore_ok h
  · exact okNil_ok h
  · exact okBin_ok h
  · exact okUn_ok h
  · show (convS _ _ _ _ _).ok; rw [okConv_s h]; exact okConv_ok h
  · trivial
  · exact okMake_ok h
  · exact okSlice_ok h
  · exact okSlice3_ok h
  · exact okFA_ok h
  · exact okField_ok h
  · exact okIA_ok h
  · exact okIx_ok h
  · exact okExt_ok h
  · exact okMk_ok h
  · exact okLook_ok h
  · exact okRng_ok h
  · exact okNext_ok h
  · exact okEnt_ok h
  · exact (okMUp_ok h).1
  · exact (okMUp_ok h).1
  · exact okCall_ok h
  · cases h

def okPick (a b c : PV) : Bool :=
  match a.un with
  | .bool x => a.cnd && (match x with | true => b.cnd && b.un.isB | false => c.cnd && c.un.isB)
  | _ => false
def okStep (P : Program) (nid : Nat) (o : Oper) (S : PS) : Bool :=
  match o.op with
  | .pick a b c => okPick (S.ev a) (S.ev b) (S.ev c)
  | op => cndAll S op.operands.toList && okOp P nid op (fun x => (S.ev x).un) S
theorem okStep_ok {P nid o S} (h : okStep P nid o S = true) : (stepD P nid o S).ok := by
  unfold okStep at h
  unfold stepD
  split at h
  · rename_i a b c hop
    simp only [hop]
    unfold okPick at h
    unfold stPick
    split at h
    · rename_i x ha
      simp only [ha]
      rw [Bool.and_eq_true] at h
      refine ⟨h.1, fun e => ?_, fun e => ?_⟩
      · subst e; exact h.2
      · subst e; exact h.2
    · cases h
  · rename_i hne
    rw [Bool.and_eq_true] at h
    split
    · rename_i a b c hop; exact absurd hop (hne _ _ _)
    · exact ⟨h.1, okOp_ok h.2⟩

end Go.Pv
