/- Abstract values: an iterator's code, by equations. Nothing of any program. -/
import Derived.Test.YtbjeagcnakdmnaaPvU
import Derived.Test.YtbjeagcnakdmnaaPvY
set_option linter.unusedSimpArgs false
set_option linter.unusedVariables false
set_option linter.unusedSectionVars false
namespace Go.Pv
variable [GTab]
section
variable {P : Program} {K : Yc} {Q : YPost} {S : PS} {pe : Option Code}
theorem PWP.rangeY {P : Program} {m : Nat} {Q : Post} {S : PS} (S0 : PS) (hw : Wk m S S0) {gop : Operand} {ps : Array Tmp} {assign body : Code} (gf : Nat) (caps : List PV) {fn : Func} {c : Code}
    (hg : S0.ev gop = .fn gf caps) (hf : P.funcs[gf]? = some fn) (hb : fn.body = some c) (hname : (fn.name == "runtime.NumGoroutine") = false) (hres : fn.results = #[]) (hn : caps.length + 1 ≤ fn.ntmps)
    (h : YWP P (ycOf S0 ps assign body) c (ryK S0 Q) (itS S0 fn.ntmps caps) none) : PWP P m (.rangeFunc gop ps assign body) Q S :=
  PWP.weak hw (PWP.rangeIn hg hf hb hname hres hn h)
/-- Operations that are reckoned, ahead of others. -/
theorem chain_yops {ops : Array Oper} (hno : ∀ S pe, ¬ Q .outgrown S pe) {nid0 : Nat} {rest : List Nat} : ∀ {os : List Oper} {i : Nat} {S S' : PS} {L : List Lk}, Chain P nid0 ops.toList os i S L S' → (∀ (k : Nat) (o : Oper), os[k]? = some o → ops[i + k]? = some o) →
    YOps P K ops Q rest S' (nid0 + 4 * (i + os.length)) pe → YOps P K ops Q (List.range' i os.length ++ rest) S (nid0 + 4 * i) pe
  | [], i, S, S', L, hC, hk, h => by
    cases hC
    simpa using h
  | o :: os, i, S, S', L, hC, hk, h => by
    cases hC with
    | cons _ _ _ _ c δ L' _ hg ht hr hd hC' =>
      have ho : ops[i]? = some o := by simpa using hk 0 o rfl
      have := chain_yops hno hC' (fun k x hx => by rw [show i + 1 + k = i + (k + 1) by omega]; exact hk (k + 1) x (by simpa using hx)) (by rw [show i + 1 + os.length = i + (os.length + 1) by omega]; exact h)
      show YOps P K ops Q (i :: (List.range' (i + 1) os.length ++ rest)) S (nid0 + 4 * i) pe
      exact YOps.op hno ho hg ht hr hd (by rwa [show nid0 + 4 * i + 4 = nid0 + 4 * (i + 1) by omega])
theorem PWPR.mono {m l n : Nat} {c : Code} {Q Q' : Post} {S : PS} (h : PWPR P m l n c Q S) (hq : ∀ e S', Q e S' → Q' e S') : PWPR P m l n c Q' S :=
  fun g a w hI hd hF hp => wpIn_mono (h g a w hI hd hF hp) (fun e a' w' ⟨g', S', h1, h2⟩ => ⟨g', S', hq _ _ h1, h2⟩)
def asY (P : Program) (K : Yc) (f : Bool → PS → Option Code → Prop) : Post := fun e S1 => e = .normal ∧ VC P K.k K.body (yrK f) S1
structure YcOk (K : Yc) : Prop where
  ra : rdOk K.assign = true
  rb : rdOk K.body = true
  ps : ∀ p ∈ K.ps.toList, p < K.n
/-- A round, from the state in which it begins. -/
def RndP (P : Program) (K : Yc) (f : Bool → PS → Option Code → Prop) (S : PS) : Prop := ∀ l, PWPR P K.k l 1 K.assign (yasK P K f) S
theorem yrK_mono {f f' : Bool → PS → Option Code → Prop} (hf : ∀ b S2 pe', f b S2 pe' → f' b S2 pe') : ∀ e S2, yrK f e S2 → yrK f' e S2 := by
  intro e S2 he
  cases e with
  | normal => exact hf _ _ _ he
  | exit j => exact hf _ _ _ he
  | ret => exact hf _ _ _ he
  | _ => exact he
theorem RndP.mono {f f' : Bool → PS → Option Code → Prop} (h : RndP P K f S) (hf : ∀ b S2 pe', f b S2 pe' → f' b S2 pe') : RndP P K f' S :=
  fun l => (h l).mono fun e S1 ⟨he, hb⟩ => ⟨he, fun l => (hb l).mono (yrK_mono hf)⟩
theorem RndP.of (hm : P.follows .mixedOrders = true) (hK : YcOk K) {f : Bool → PS → Option Code → Prop} (h : VC P K.k K.assign (asY P K f) S) : RndP P K f S := by
  intro l
  refine PWPR.mono (VC_round hm (l := l) (n := 1) hK.ra (fun S' hh => by cases hh.1) h) ?_
  rintro e S1 ⟨rfl, hb⟩
  exact ⟨rfl, fun l => VC_round hm (l := l) (n := 1) hK.rb (fun S' hh => hh) hb⟩
/-- A call of yield, and what stands behind it in the region. -/
def yldE (P : Program) (K : Yc) (ops : Array Oper) (p : Nat) (Q : YPost) (nid : Nat) (S : PS) : Prop :=
  ∃ o d qs, ops[p]? = some o ∧ yAt K ops.toList S o = some (d, qs) ∧ RndP P K (fun b S2 pe' =>
    regE P S2.nxt ops.toList (ops.toList.drop (p + 1)) (p + 1) (yst K S d b S2) (fun S3 _ => Q .normal { S3 with nxt := S2.nxt + 4 * ops.toList.length } pe') []) (ybeg K S qs nid)
theorem yldE_ops (hm : P.follows .mixedOrders = true) (hK : YcOk K) (hno : ∀ S pe, ¬ Q .outgrown S pe) {ops : Array Oper} {p nid : Nat} (hp : p < ops.size) (h : yldE P K ops p Q nid S) : YOps P K ops Q (List.range' p (ops.size - p)) S nid none := by
  obtain ⟨o, d, qs, h1, h2, h3⟩ := h
  obtain ⟨fo, as, ts, a1, a2, a3, a4, a5, a6, a7, a8, rfl⟩ := yAt_ok h2
  rw [show ops.size - p = (ops.size - (p + 1)) + 1 by omega, List.range'_succ]
  have key : ∀ b S2 pe', regE P S2.nxt ops.toList (ops.toList.drop (p + 1)) (p + 1) (yst K S d b S2) (fun S3 _ => Q .normal { S3 with nxt := S2.nxt + 4 * ops.toList.length } pe') [] → YOps P K ops Q (List.range' (p + 1) (ops.size - (p + 1))) (yst K S d b S2) S2.nxt pe' := by
    intro b S2 pe' h
    obtain ⟨L, S', hC, hQ⟩ := regE_chain h
    have hl : (ops.toList.drop (p + 1)).length = ops.size - (p + 1) := by simp
    have := chain_yops (K := K) (rest := []) hno hC (fun k x hx => by simpa using hx) (YOps.nil (nid := S2.nxt + 4 * (p + 1 + (ops.toList.drop (p + 1)).length)) (by
      rw [hl, show p + 1 + (ops.size - (p + 1)) = ops.toList.length by simp; omega]; exact hQ))
    rw [List.append_nil, hl] at this
    exact YOps.le (by omega) this
  exact YOps.yield h1 a1 a2 a3 a4 a5 a6 a7 a8 hK.ps (h3.mono key)
/-- A region in the text's order, with a call of yield at p. -/
theorem YWP.reg_y (p : Nat) (hm : P.follows .mixedOrders = true) (hK : YcOk K) (hno : ∀ S pe, ¬ Q .outgrown S pe) {id : Nat} {ops : Array Oper} (hp : p < ops.size)
    (h : regE P S.nxt ops.toList (ops.toList.take p) 0 S (fun S' _ => yldE P K ops p Q (S.nxt + 4 * p) S') []) : YWP P K (.region id ops false) Q S none := by
  obtain ⟨L, S', hC, hQ⟩ := regE_chain h
  have hl : (ops.toList.take p).length = p := by simp; omega
  have := chain_yops (K := K) (pe := none) (rest := List.range' p (ops.size - p)) hno hC (fun k x hx => by
    rw [List.getElem?_take] at hx
    split at hx
    · simpa using hx
    · cases hx) (by rw [hl, Nat.zero_add]; exact yldE_ops hm hK hno hp hQ)
  rw [hl] at this
  refine YWP.region ?_
  rw [List.range_eq_range', show List.range' 0 ops.size = List.range' 0 p ++ List.range' p (ops.size - p) by
    have := List.range'_append_1 (s := 0) (m := p) (n := ops.size - p)
    rw [Nat.zero_add] at this
    rw [this]; congr 1; omega]
  simpa using this
/-- .. that draws its order, but ends in it. -/
theorem YWP.reg_ys (p : Nat) (hm : P.follows .mixedOrders = true) (hK : YcOk K) (hno : ∀ S pe, ¬ Q .outgrown S pe) {id : Nat} {ops : Array Oper} (hp : p < ops.size) (hs : splitB ops p = true)
    (h : regE P S.nxt (ops.toList.take p) (ops.toList.take p) 0 S (fun S' trs => drawOk (ops.toList.take p).toArray trs ∧ yldE P K ops p Q (S.nxt + 4 * p) { S' with nxt := S.nxt + 4 * p }) []) : YWP P K (.region id ops true) Q S none := by
  obtain ⟨L, S', hC, hd, hQ⟩ := regE_chain h
  exact YWP.region_split hm hs hC (by simpa [drawOk] using hd) (yldE_ops hm hK hno hp hQ)
theorem YWP.reg (hm : P.follows .mixedOrders = true) {id : Nat} {ops : Array Oper} {d : Bool} (h : regE P S.nxt ops.toList ops.toList 0 S (regD d ops S.nxt (yregQ Q pe)) []) : YWP P K (.region id ops d) Q S pe := by
  obtain ⟨L, S', hC, hQ⟩ := regE_chain h
  exact YWP.region_chain hm hC (by unfold regD at hQ; simpa using hQ)
theorem yregQ_normal {Q : YPost} {pe : Option Code} {S : PS} : yregQ Q pe .normal S = Q .normal S pe := by simp [yregQ]

/-! ### Code -/
def yregV (P : Program) (K : Yc) (b : Bool) (id : Nat) (ops : Array Oper) (d : Bool) (Q : YPost) (S : PS) (pe : Option Code) : Prop :=
  match b with
  | true => YWP P K (.region id ops d) Q S pe
  | false => regE P S.nxt ops.toList ops.toList 0 S (regD d ops S.nxt (yregQ Q pe)) []
def VCY (P : Program) (K : Yc) : Code → YPost → PS → Option Code → Prop
  | .skip, Q, S, pe => Q .normal S pe
  | .label _, Q, S, pe => Q .normal S pe
  | .exit i, Q, S, pe => Q (.exit i) S pe
  | .ret, Q, S, pe => Q .ret S pe
  | .seq x y, Q, S, pe => VCY P K x (yseqK (VCY P K y) Q) S pe
  | .cond c x y, Q, S, pe => ∃ b, S.ev c = .bool b ∧ (b = true → VCY P K x Q S pe) ∧ (b = false → VCY P K y Q S pe)
  | .block i x, Q, S, pe => VCY P K x (yblkK i Q) S pe
  | .region id ops d, Q, S, pe => yregV P K (ops.toList.any fun o => isCallV o.op) id ops d Q S pe
  | c, Q, S, pe => YWP P K c Q S pe
theorem VCY_sound (hm : P.follows .mixedOrders = true) : ∀ {c : Code} {Q : YPost} {S : PS} {pe : Option Code}, VCY P K c Q S pe → YWP P K c Q S pe
  | .skip, _, _, _, h => YWP.skip h
  | .label _, _, _, _, h => YWP.label h
  | .exit _, _, _, _, h => YWP.exit h
  | .ret, _, _, _, h => YWP.ret h
  | .seq x y, Q, S, pe, h => by
    refine YWP.seq ((VCY_sound hm (c := x) h).mono ?_)
    intro e S' pe' he
    cases e with
    | normal => exact VCY_sound hm (c := y) he
    | _ => exact he
  | .cond c x y, Q, S, pe, h => by
    obtain ⟨b, h1, h2, h3⟩ := h
    exact YWP.cond h1 (fun e => VCY_sound hm (h2 e)) (fun e => VCY_sound hm (h3 e))
  | .block i x, Q, S, pe, h => YWP.block (VCY_sound hm (c := x) h)
  | .region id ops d, Q, S, pe, h => by
    have h : yregV P K (ops.toList.any fun o => isCallV o.op) id ops d Q S pe := h
    unfold yregV at h
    split at h
    · exact h
    · exact YWP.reg hm h
  | .loop _, _, _, _, h => h
  | .goto _, _, _, _, h => h
  | .scope _, _, _, _, h => h
  | .rangeFunc .., _, _, _, h => h
  | .refuse _, _, _, _, h => h
def seqY (P : Program) (K : Yc) (y : Code) (Q : YPost) : YPost := yseqK (VCY P K y) Q
def blkY (i : Nat) (Q : YPost) : YPost := yblkK i Q
def condY (P : Program) (K : Yc) (x y : Code) (Q : YPost) (S : PS) (pe : Option Code) (p : PV) : Prop := ∃ b, p = .bool b ∧ (b = true → VCY P K x Q S pe) ∧ (b = false → VCY P K y Q S pe)
theorem VCY_skip : VCY P K .skip Q S pe = Q .normal S pe := rfl
theorem VCY_exit {i} : VCY P K (.exit i) Q S pe = Q (.exit i) S pe := rfl
theorem VCY_ret : VCY P K .ret Q S pe = Q .ret S pe := rfl
theorem VCY_seq {x y} : VCY P K (.seq x y) Q S pe = VCY P K x (seqY P K y Q) S pe := rfl
theorem VCY_cond {c x y} : VCY P K (.cond c x y) Q S pe = condY P K x y Q S pe (S.ev c) := rfl
theorem VCY_block {i x} : VCY P K (.block i x) Q S pe = VCY P K x (blkY i Q) S pe := rfl
theorem VCY_region {id ops d} : VCY P K (.region id ops d) Q S pe = yregV P K (ops.toList.any fun o => isCallV o.op) id ops d Q S pe := rfl
theorem yregV_false {id ops d} : yregV P K false id ops d Q S pe = regE P S.nxt ops.toList ops.toList 0 S (regD d ops S.nxt (yregQ Q pe)) [] := rfl
theorem seqY_normal {y} : seqY P K y Q .normal S pe = VCY P K y Q S pe := rfl
theorem seqY_exit {y i} : seqY P K y Q (.exit i) S pe = Q (.exit i) S pe := rfl
theorem seqY_ret {y} : seqY P K y Q .ret S pe = Q .ret S pe := rfl
theorem blkY_normal {i} : blkY i Q .normal S pe = Q .normal S pe := rfl
theorem blkY_exit {i j} : blkY i Q (.exit j) S pe = if j = i then Q .normal S pe else Q (.exit j) S pe := rfl
theorem blkY_ret {i} : blkY i Q .ret S pe = Q .ret S pe := rfl
theorem condY_true {x y} : condY P K x y Q S pe (.bool true) = VCY P K x Q S pe := by
  unfold condY
  apply propext
  constructor
  · rintro ⟨b, h, h1, _⟩; cases h; exact h1 rfl
  · exact fun h => ⟨true, rfl, ⟨fun _ => h, fun e => (Bool.noConfusion e)⟩⟩
theorem condY_false {x y} : condY P K x y Q S pe (.bool false) = VCY P K y Q S pe := by
  unfold condY
  apply propext
  constructor
  · rintro ⟨b, h, _, h1⟩; cases h; exact h1 rfl
  · exact fun h => ⟨false, rfl, ⟨fun e => (Bool.noConfusion e), fun _ => h⟩⟩
/-- A call of yield, entered. -/
theorem yldE_of {ops : Array Oper} {p nid : Nat} (o : Oper) (fo : Operand) (as : Array Operand) (ts : Array TypeId) (d : Nat) (h1 : ops[p]? = some o) (hop : o.op = .call { callee := .value fo, args := as, argTypes := ts }) (hg : gcond ops.toList S o = some true) (hd : o.dst = some d)
    (hfo : (S.ev fo).un = .yld K.y) (hfc : (S.ev fo).cnd = true) (hc : cndAll S as.toList = true) (hl : as.toList.length = K.ps.toList.length) (hn : d < S.n)
    (h : RndP P K (fun b S2 pe' => regE P S2.nxt ops.toList (ops.toList.drop (p + 1)) (p + 1) (yst K S d b S2) (fun S3 _ => Q .normal { S3 with nxt := S2.nxt + 4 * ops.toList.length } pe') []) (ybeg K S (as.toList.map fun x => (S.ev x).un) nid)) : yldE P K ops p Q nid S := by
  refine ⟨o, d, _, h1, ?_, h⟩
  unfold yAt
  rw [hop, hg, hd]
  simp only [hfo, hfc, hc, hl, Nat.beq_refl, Bool.and_true, Bool.true_and]
  rw [show Nat.blt d S.n = true by rw [Nat.blt_eq]; exact hn]
theorem asY_normal {f : Bool → PS → Option Code → Prop} {S1 : PS} : asY P K f .normal S1 = VC P K.k K.body (yrK f) S1 := by simp [asY]
theorem yrK_normal {f : Bool → PS → Option Code → Prop} {S1 : PS} : yrK f .normal S1 = f true S1 none := rfl
theorem yrK_exit {f : Bool → PS → Option Code → Prop} {S1 : PS} {j} : yrK f (.exit j) S1 = f false S1 (some (.exit j)) := rfl
end
section
variable {k : Nat}
theorem kpE_nil : kpE k [] = [] := rfl
theorem kpE_cons {t : Nat} {p : PV} {l : List (Nat × PV)} : kpE k ((t, p) :: l) = (t, kp1 k p) :: kpE k l := rfl
theorem kp1_int {q n} : kp1 k (.int q n) = .int q n := rfl
theorem kp1_bool {b} : kp1 k (.bool b) = .bool b := rfl
theorem kp1_str {s} : kp1 k (.str s) = .str s := rfl
theorem kp1_sl {sz es} : kp1 k (.sl sz es) = .sl sz es := rfl
theorem kp1_box {i off} (h : i < k) : kp1 k (.box i off) = .box i off := by
  unfold kp1
  rw [show keepB k (.box i off) = true from by show Nat.blt i k = true; rw [Nat.blt_eq]; exact h]
theorem kp1_slg {i n sz} (h : i < k) : kp1 k (.slg i n sz) = .slg i n sz := by
  unfold kp1
  rw [show keepB k (.slg i n sz) = true from by show Nat.blt i k = true; rw [Nat.blt_eq]; exact h]
theorem kp1_yld {i} (h : i < k) : kp1 k (.yld i) = .yld i := by
  unfold kp1
  rw [show keepB k (.yld i) = true from by show Nat.blt i k = true; rw [Nat.blt_eq]; exact h]
theorem kp1_given {c p} : kp1 k (.given c p) = .any := rfl
theorem kp1_fn {f ps} : kp1 k (.fn f ps) = .any := by cases ps <;> rfl
theorem kp1_agg {ps} : kp1 k (.agg ps) = .any := rfl
end
attribute [push_cast] yst kpE_nil kpE_cons kp1_int kp1_bool kp1_str kp1_sl kp1_box kp1_slg kp1_yld kp1_given kp1_fn kp1_agg
attribute [push_cast] VCY_skip VCY_exit VCY_ret VCY_seq VCY_cond VCY_block VCY_region yregV_false seqY_normal seqY_exit seqY_ret blkY_normal blkY_exit blkY_ret condY_true condY_false yregQ_normal asY_normal yrK_normal yrK_exit List.any_cons List.any_nil
end Go.Pv
