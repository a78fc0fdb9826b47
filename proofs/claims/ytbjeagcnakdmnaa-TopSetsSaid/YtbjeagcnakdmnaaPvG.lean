/- Abstract values: slices, appends, literals. Nothing of any program. -/
import Derived.Test.YtbjeagcnakdmnaaPvF
set_option linter.unusedSimpArgs false
set_option linter.unusedVariables false
set_option linter.unusedSectionVars false
namespace Go.Pv
variable [GTab]

section
variable {P : Program} {nid : Nat} {o : Oper} {ins : Operand → PV} {S : PS} {ok : Prop}

/-! ### Slice expressions -/
/-- A bound that may be left out. -/
def bnd (d : Nat) : Option PV → Option Nat
  | none => some d
  | some (.int _ n) => if 0 ≤ n then some n.toNat else none
  | some _ => none


theorem sliceBound_ok (w : World) {v : Value} {k : IntKind} {n : Int} {y : Nat} {code : BoundsCode} (hv : v = .int k n) (h0 : 0 ≤ n) (h1 : n ≤ y) :
    (Instr.sliceBound v y code).run P w = .ok n.toNat w := by
  subst hv
  simp [Instr.sliceBound, asIntOf, h0, h1]

end
end Go.Pv
namespace Go.Pv
variable [GTab]
section
variable {P : Program} {nid : Nat} {o : Oper} {ins : Operand → PV} {S : PS} {ok : Prop}

/-- Bounds that are given, or not. -/
theorem bounds_ok (w : World) (isS : Bool) {len cap l h : Nat} {ρ : Operand → Value} {g : Gh} {lo hi : Option Operand} (hlo : ∀ x, lo = some x → Rel g (ρ x) (ins x)) (hhi : ∀ x, hi = some x → Rel g (ρ x) (ins x))
    (h1 : bnd 0 (lo.map ins) = some l) (h2 : bnd len (hi.map ins) = some h) (hlh : l ≤ h) (hc : h ≤ cap) :
    (Instr.sliceBounds isS len cap (lo.map ρ) (hi.map ρ) none).run P w = .ok (l, h, cap) w := by
  have hH : ∀ (x : Operand), hi = some x → ∃ k n, ρ x = .int k n ∧ 0 ≤ n ∧ n.toNat = h := by
    intro x hx
    subst hx
    simp only [Option.map_some] at h2
    have r := hhi x rfl
    cases hp : ins x <;> rw [hp] at h2 r <;> simp [bnd] at h2
    exact ⟨_, _, r.int_inv, h2.1, h2.2⟩
  have hL : ∀ (x : Operand), lo = some x → ∃ k n, ρ x = .int k n ∧ 0 ≤ n ∧ n.toNat = l := by
    intro x hx
    subst hx
    simp only [Option.map_some] at h1
    have r := hlo x rfl
    cases hp : ins x <;> rw [hp] at h1 r <;> simp [bnd] at h1
    exact ⟨_, _, r.int_inv, h1.1, h1.2⟩
  cases hi with
  | none =>
    simp [bnd] at h2; subst h2
    cases lo with
    | none => simp [bnd] at h1; subst h1; simp [Instr.sliceBounds]
    | some x =>
      obtain ⟨k, n, e, e0, e1⟩ := hL x rfl
      have hs := sliceBound_ok (P := P) w (code := .sliceB) e e0 (show n ≤ (len : Int) by omega)
      simp only [Instr.sliceBounds, Option.map_none, Option.map_some, Sem.run_bind, Sem.run_pure, Result.andThen_ok, Option.isSome_none, Bool.false_eq_true, if_false, hs, e1]
  | some y =>
    obtain ⟨k', n', f, f0, f1⟩ := hH y rfl
    have hs' : ∀ code, (Instr.sliceBound (ρ y) cap code).run P w = .ok n'.toNat w := fun code => sliceBound_ok (P := P) w f f0 (show n' ≤ (cap : Int) by omega)
    cases lo with
    | none =>
      simp [bnd] at h1; subst h1
      simp only [Instr.sliceBounds, Option.map_none, Option.map_some, Sem.run_bind, Sem.run_pure, Result.andThen_ok, hs', f1]
    | some x =>
      obtain ⟨k, n, e, e0, e1⟩ := hL x rfl
      have hs := sliceBound_ok (P := P) w (y := h) (code := .sliceB) e e0 (show n ≤ (h : Int) by omega)
      simp only [Instr.sliceBounds, Option.map_none, Option.map_some, Sem.run_bind, Sem.run_pure, Result.andThen_ok, Option.isSome_none, Bool.false_eq_true, if_false, hs', f1, hs, e1]

theorem slice_str {t : Nat} {x : Operand} {lo hi : Option Operand} {s : List UInt8} {l h : Nat} (ho : o.op = .slice t x lo hi none) (hx : ins x = .str s) (ht : tk P t = .str)
    (h1 : bnd 0 (lo.map ins) = some l) (h2 : bnd s.length (hi.map ins) = some h) (hlh : l ≤ h) (hc : h ≤ s.length) :
    LTrip P nid o ins S { p := .str ((s.drop l).take (h - l)), ok := ok } := by
  refine .still fun g S' ρ w hI hr hb => ?_
  have e1 := hr x (by simp [ho, Op.operands])
  rw [hx] at e1
  have hv := e1.str_inv
  have hbd := bounds_ok (P := P) (ins := ins) (ρ := ρ) (g := g) w false (cap := s.length) (fun y hy => hr y (by simp [ho, Op.operands, hy])) (fun y hy => hr y (by simp [ho, Op.operands, hy])) h1 h2 hlh hc
  refine ⟨.string ⟨⟨(s.drop l).take (h - l)⟩⟩, ?_, .pure _ _ (by constructor)⟩
  simp only [execOp, ho, hv, Instr.sliceAt, Sem.run_bind, run_underlying (tk_str ht), Result.andThen_ok, Instr.slice, Option.map_none, Option.isSome_none, Bool.false_eq_true, if_false, size_mk, hbd, baExtract, Sem.run_pure]

theorem PRel.sl_slice {hm : HMap} {a : Option Addr} {n cap sz l h : Nat} {es : List PV} (r : PRel hm (.slice a n cap) (.sl sz es)) (hn : n = es.length) (hlh : l ≤ h) (hc : h ≤ n) :
    PRel hm (.slice (if cap = l then a else a.map (·.add (l * sz))) (h - l) (cap - l)) (.sl sz ((es.drop l).take (h - l))) := by
  cases r with
  | slnil => have hh : h = 0 := by omega
             have hl : l = 0 := by omega
             subst hh; subst hl
             simp; exact .slnil sz
  | slx a => have hh : h = 0 := by omega
             have hl : l = 0 := by omega
             subst hh; subst hl
             simp; exact .slx a sz
  | sl b off n cap sz es vals hn' hcap hm' hsz hh ho hp =>
    have hlen : ((es.drop l).take (h - l)).length = h - l := by simp; omega
    have hsz' : ∀ p ∈ (es.drop l).take (h - l), p.cells.length = sz := fun p hp => hsz p (List.mem_of_mem_drop (List.mem_of_mem_take hp))
    by_cases e : cap = l
    · have h0 : h - l = 0 := by omega
      rw [if_pos e, h0]
      simp only [List.take_zero]
      refine .sl b off 0 (cap - l) sz [] vals rfl (by omega) (by omega) (by simp) (by simp) (by simp) (by simp)
    · rw [if_neg e, Option.map_some, Addr.add_lit]
      have hfl := flat_length hsz
      have hfl' := flat_length hsz'
      have hget : ∀ i, i < (((es.drop l).take (h - l)).flatMap PV.cells).length → (((es.drop l).take (h - l)).flatMap PV.cells)[i]? = (es.flatMap PV.cells)[l * sz + i]? ∧ l * sz + i < (es.flatMap PV.cells).length := by
        intro i hi
        rw [hfl', hlen] at hi
        have hle : h * sz ≤ es.length * sz := Nat.mul_le_mul_right _ (by omega)
        have hd : (h - l) * sz + l * sz = h * sz := by rw [← Nat.add_mul]; congr 1; omega
        refine ⟨?_, by rw [hfl]; omega⟩
        by_cases hz : sz = 0
        · subst hz; simp at hi
        · have hq : i / sz < h - l := Nat.div_lt_of_lt_mul (by rw [Nat.mul_comm]; exact hi)
          have hr : i % sz < sz := Nat.mod_lt _ (by omega)
          have hi' : i = (i / sz) * sz + i % sz := by rw [Nat.mul_comm]; exact (Nat.div_add_mod i sz).symm
          have h3 : ((es.drop l).take (h - l))[i / sz]? = es[l + i / sz]? := by rw [List.getElem?_take, if_pos hq, List.getElem?_drop]
          have h4 : l + i / sz < es.length := by omega
          rw [List.getElem?_eq_getElem h4] at h3
          have g1 := flat_get hsz' h3 hr
          have g2 := flat_get hsz (List.getElem?_eq_getElem h4) hr
          rw [← hi'] at g1
          rw [g1, ← g2]
          congr 1
          rw [Nat.add_mul]; omega
      refine .sl b (off + l * sz) (h - l) (cap - l) sz _ (fun i => vals (l * sz + i)) hlen.symm (by omega) (by omega) hsz' ?_ ?_ ?_
      · intro i hi; rw [Nat.add_assoc]; exact hh _ (hget i hi).2
      · intro i hi; exact ho _ (hget i hi).2
      · intro i p hi
        have hl := (List.getElem?_eq_some_iff.1 hi).1
        rw [(hget i hl).1] at hi
        exact hp _ _ hi

theorem run_sliceAt_sl (w : World) {t e : Nat} {a : Option Addr} {n cap l h : Nat} {lo hi : Option Value} (ht : tk P t = .sl e) (hz : 0 < tsz P e)
    (hb : (Instr.sliceBounds true n cap lo hi none).run P w = .ok (l, h, cap) w) :
    (Instr.sliceAt t (.slice a n cap) lo hi none).run P w = .ok (.slice (if cap = l then a else a.map (·.add (l * tsz P e))) (h - l) (cap - l)) w := by
  obtain ⟨m, hm⟩ : ∃ m, tsz P e = m + 1 := ⟨tsz P e - 1, by omega⟩
  simp only [Instr.sliceAt, Sem.run_bind, run_underlying (tk_sl ht), Result.andThen_ok, Instr.slice, hb, run_sizeOf w hm, Sem.run_pure, hm]

/-- A part of a slice: it can be read. -/
theorem slice_sl {t e sz : Nat} {x : Operand} {lo hi : Option Operand} {es : List PV} {l h : Nat} (ho : o.op = .slice t x lo hi none) (hx : (ins x).asl = some (sz, es)) (ht : tk P t = .sl e)
    (hz : 0 < tsz P e) (hs : tsz P e = sz) (h1 : bnd 0 (lo.map ins) = some l) (h2 : bnd es.length (hi.map ins) = some h) (hlh : l ≤ h) (hc : h ≤ es.length) :
    LTrip P nid o ins S { p := .sl sz ((es.drop l).take (h - l)), ok := ok } := by
  refine .still fun g S' ρ w hI hr hb => ?_
  have e1 := (hr x (by simp [ho, Op.operands])).asl hx
  obtain ⟨a, cap, hv, hcap, _⟩ := e1.sl_view
  have hbd := bounds_ok (P := P) (ins := ins) (ρ := ρ) (g := g) w true (len := es.length) (cap := cap) (fun y hy => hr y (by simp [ho, Op.operands, hy])) (fun y hy => hr y (by simp [ho, Op.operands, hy])) h1 h2 hlh (by omega)
  rw [hv] at e1
  refine ⟨_, ?_, .pure _ _ (e1.sl_slice rfl hlh hc)⟩
  simp only [execOp, ho, hv, Option.map_none, Sem.run_bind, run_sliceAt_sl w ht hz hbd, hs, Result.andThen_ok, Sem.run_pure]

theorem flat_take (es : List PV) (m i : Nat) (h : i < ((es.take m).flatMap PV.cells).length) : ((es.take m).flatMap PV.cells)[i]? = (es.flatMap PV.cells)[i]? ∧ i < (es.flatMap PV.cells).length := by
  have e : es.flatMap PV.cells = (es.take m).flatMap PV.cells ++ (es.drop m).flatMap PV.cells := by
    rw [← List.flatMap_append, List.take_append_drop]
  rw [e]
  exact ⟨(List.getElem?_append_left h).symm, by rw [List.length_append]; omega⟩
theorem PRel.sl_take {hm : HMap} {a : Option Addr} {n cap sz m : Nat} {es : List PV} (r : PRel hm (.slice a n cap) (.sl sz es)) (hn : n = es.length) (hmn : m ≤ n) : PRel hm (.slice a m m) (.sl sz (es.take m)) := by
  cases r with
  | slnil => have hh : m = 0 := by omega
             subst hh
             simp; exact .slnil sz
  | slx a => have hh : m = 0 := by omega
             subst hh
             simp; exact .slx a sz
  | sl b off n cap sz es vals hn' hcap hm' hsz hh ho hp =>
    refine .sl b off m m sz _ vals (by simp; omega) (Nat.le_refl _) (by omega) (fun p hp => hsz p (List.mem_of_mem_take hp)) (fun i hi => hh i (flat_take es m i hi).2) (fun i hi => ho i (flat_take es m i hi).2) ?_
    intro i p hi
    have hl := (List.getElem?_eq_some_iff.1 hi).1
    rw [(flat_take es m i hl).1] at hi
    exact hp i p hi
theorem bounds_ok3 (w : World) {len cap l h m : Nat} {ρ : Operand → Value} {g : Gh} {lo : Option Operand} {hi mx : Operand} (hlo : ∀ x, lo = some x → Rel g (ρ x) (ins x)) (hhi : Rel g (ρ hi) (ins hi)) (hmx : Rel g (ρ mx) (ins mx))
    (h1 : bnd 0 (lo.map ins) = some l) (h2 : bnd 0 (some (ins hi)) = some h) (h3 : bnd 0 (some (ins mx)) = some m) (hlh : l ≤ h) (hc : h ≤ m) (hcc : m ≤ cap) :
    (Instr.sliceBounds true len cap (lo.map ρ) (some (ρ hi)) (some (ρ mx))).run P w = .ok (l, h, m) w := by
  have hI : ∀ (x : Operand) (c : Nat), Rel g (ρ x) (ins x) → bnd 0 (some (ins x)) = some c → ∃ k n, ρ x = .int k n ∧ 0 ≤ n ∧ n.toNat = c := by
    intro x c r hb
    cases hp : ins x <;> rw [hp] at hb r <;> simp [bnd] at hb
    exact ⟨_, _, r.int_inv, hb.1, hb.2⟩
  obtain ⟨k2, n2, f, f0, f1⟩ := hI hi h hhi h2
  obtain ⟨k3, n3, u, u0, u1⟩ := hI mx m hmx h3
  have hs3 : (Instr.sliceBound (ρ mx) cap .slice3Acap).run P w = .ok m w := by
    have := sliceBound_ok (P := P) w (code := .slice3Acap) u u0 (show n3 ≤ (cap : Int) by omega)
    rwa [u1] at this
  have hs2 : (Instr.sliceBound (ρ hi) m .slice3B).run P w = .ok h w := by
    have := sliceBound_ok (P := P) w (code := .slice3B) f f0 (show n2 ≤ (m : Int) by omega)
    rwa [f1] at this
  cases lo with
  | none =>
    simp [bnd] at h1; subst h1
    simp only [Instr.sliceBounds, Option.map_none, Sem.run_bind, Sem.run_pure, Result.andThen_ok, if_true, hs3, hs2]
  | some x =>
    obtain ⟨k, n, e, e0, e1⟩ := hI x l (hlo x rfl) (by simpa using h1)
    have hs : (Instr.sliceBound (ρ x) h .slice3C).run P w = .ok l w := by
      have := sliceBound_ok (P := P) w (code := .slice3C) e e0 (show n ≤ (h : Int) by omega)
      rwa [e1] at this
    simp only [Instr.sliceBounds, Option.map_some, Sem.run_bind, Sem.run_pure, Result.andThen_ok, Option.isSome_some, if_true, hs3, hs2, hs]
theorem run_sliceAt_sl3 (w : World) {t e : Nat} {a : Option Addr} {n cap l h m' : Nat} {lo hi mx : Option Value} (ht : tk P t = .sl e) (hz : 0 < tsz P e)
    (hb : (Instr.sliceBounds true n cap lo hi mx).run P w = .ok (l, h, m') w) :
    (Instr.sliceAt t (.slice a n cap) lo hi mx).run P w = .ok (.slice (if m' = l then a else a.map (·.add (l * tsz P e))) (h - l) (m' - l)) w := by
  obtain ⟨m, hm⟩ : ∃ m, tsz P e = m + 1 := ⟨tsz P e - 1, by omega⟩
  simp only [Instr.sliceAt, Sem.run_bind, run_underlying (tk_sl ht), Result.andThen_ok, Instr.slice, hb, run_sizeOf w hm, Sem.run_pure, hm]
/-- .. whose room ends, too. -/
theorem slice_sl3 {t e sz : Nat} {x : Operand} {lo : Option Operand} {hi mx : Operand} {es : List PV} {l h m : Nat} (ho : o.op = .slice t x lo (some hi) (some mx)) (hx : (ins x).asl = some (sz, es)) (ht : tk P t = .sl e)
    (hz : 0 < tsz P e) (hs : tsz P e = sz) (h1 : bnd 0 (lo.map ins) = some l) (h2 : bnd 0 (some (ins hi)) = some h) (h3 : bnd 0 (some (ins mx)) = some m) (hlh : l ≤ h) (hc : h ≤ m) (hcc : m ≤ es.length) :
    LTrip P nid o ins S { p := .sl sz ((es.drop l).take (h - l)), ok := ok } := by
  refine .still fun g S' ρ w hI hr hb => ?_
  have e1 := (hr x (by simp [ho, Op.operands])).asl hx
  obtain ⟨a, cap, hv, hcap, _⟩ := e1.sl_view
  have hbd := bounds_ok3 (P := P) (ins := ins) (ρ := ρ) (g := g) w (len := es.length) (cap := cap) (fun y hy => hr y (by simp [ho, Op.operands, hy])) (hr hi (by simp [ho, Op.operands])) (hr mx (by simp [ho, Op.operands])) h1 h2 h3 hlh hc (by omega)
  rw [hv] at e1
  have e2 := e1.sl_take rfl hcc
  have e3 := e2.sl_slice (l := l) (h := h) (by simp; omega) hlh hc
  rw [show ((es.take m).drop l).take (h - l) = (es.drop l).take (h - l) by
    rw [List.drop_take, List.take_take]; congr 1; omega] at e3
  refine ⟨_, ?_, .pure _ _ e3⟩
  simp only [execOp, ho, hv, Option.map_some, Sem.run_bind, run_sliceAt_sl3 w ht hz hbd, hs, Result.andThen_ok, Sem.run_pure]

/-- A slice's tail keeps the token. -/
theorem slice_slt {t e sz k : Nat} {x : Operand} {lo : Option Operand} {es : List PV} {l : Nat} (ho : o.op = .slice t x lo none none) (hx : ins x = .slt sz es k) (ht : tk P t = .sl e)
    (hz : 0 < tsz P e) (hs : tsz P e = sz) (h1 : bnd 0 (lo.map ins) = some l) (hlh : l ≤ es.length) :
    LTrip P nid o ins S { p := .slt sz (es.drop l) k, ok := ok } := by
  refine .still fun g S' ρ w hI hr hb => ?_
  have e0 := hr x (by simp [ho, Op.operands])
  rw [hx] at e0
  obtain ⟨e1, htok⟩ := e0.slt_inv
  obtain ⟨a, cap, hv, hcap, hmax, hsz, hnone, hsome⟩ := e1.sl_view
  have hbd := bounds_ok (P := P) (ins := ins) (ρ := ρ) (g := g) (hi := none) (h := es.length) w true (len := es.length) (cap := cap) (fun y hy => hr y (by simp [ho, Op.operands, hy])) (fun y hy => by cases hy) h1 rfl hlh (by omega)
  rw [hv] at e1 htok
  simp only [Option.map_none] at hbd
  have e2 := e1.sl_slice rfl hlh (Nat.le_refl _)
  rw [show (es.drop l).take (es.length - l) = es.drop l by rw [List.take_of_length_le]; simp] at e2
  refine ⟨_, ?_, .slt _ sz _ k e2 ?_⟩
  · simp only [execOp, ho, hv, Option.map_none, Sem.run_bind, run_sliceAt_sl w ht hz hbd, hs, Result.andThen_ok, Sem.run_pure]
  · intro b lo' hi' hsp hl
    refine htok b lo' hi' ?_ hl
    cases a with
    | none => rw [Option.map_none] at hsp; split at hsp <;> simp [spare] at hsp
    | some a =>
      obtain ⟨hspot, _⟩ := hsome a rfl
      obtain ⟨b0, off, spot⟩ := a
      by_cases hc0 : cap = 0
      · subst hc0
        split at hsp <;> simp [spare] at hsp
      replace hspot : spot = none := hspot.resolve_right (fun h => hc0 h.2)
      subst hspot
      split at hsp
      · rename_i e; subst e
        simp [spare] at hsp
      · simp only [Option.map_some, Addr.add_lit, spare] at hsp ⊢
        split at hsp
        · cases hsp
        rename_i hcl
        rw [if_neg (by omega)]
        simp only [Option.some.injEq, Prod.mk.injEq] at hsp ⊢
        obtain ⟨rfl, rfl, rfl⟩ := hsp
        refine ⟨rfl, ?_, ?_⟩ <;> rw [Nat.add_assoc, ← Nat.add_mul] <;> congr 2 <;> omega

theorem slice_nil {t e : Nat} {x : Operand} {lo hi : Option Operand} (ho : o.op = .slice t x lo hi none) (hx : ins x = .nilsl) (ht : tk P t = .sl e)
    (hz : 0 < tsz P e) (h1 : bnd 0 (lo.map ins) = some 0) (h2 : bnd 0 (hi.map ins) = some 0) :
    LTrip P nid o ins S { p := .nilsl, ok := ok } := by
  refine .still fun g S' ρ w hI hr hb => ?_
  have e0 := hr x (by simp [ho, Op.operands])
  rw [hx] at e0
  have hv := e0.nilsl_inv
  have hbd := bounds_ok (P := P) (ins := ins) (ρ := ρ) (g := g) w true (len := 0) (cap := 0) (fun y hy => hr y (by simp [ho, Op.operands, hy])) (fun y hy => hr y (by simp [ho, Op.operands, hy])) h1 h2 (Nat.le_refl _) (Nat.le_refl _)
  refine ⟨.slice none 0 0, ?_, .pure _ _ (by constructor)⟩
  simp only [execOp, ho, hv, Option.map_none, Sem.run_bind, run_sliceAt_sl w ht hz hbd, Result.andThen_ok, Sem.run_pure]
  simp

/-- A part of an array in a box. -/
theorem slice_box {t n e id off : Nat} {x : Operand} {lo hi : Option Operand} {l h : Nat} (ho : o.op = .slice t x lo hi none) (hx : ins x = .box id off) (ht : tk P t = .arr n e)
    (hz : 0 < tsz P e) (h1 : bnd 0 (lo.map ins) = some l) (h2 : bnd n (hi.map ins) = some h) (hlh : l ≤ h) (hc : h ≤ n) (hl : l < n) (hm : n ≤ maxLen) :
    LTrip P nid o ins S { p := .slb id (off + l * tsz P e) (h - l) (tsz P e), ok := ok } := by
  refine .still fun g S' ρ w hI hr hb => ?_
  have e0 := hr x (by simp [ho, Op.operands])
  rw [hx] at e0
  obtain ⟨b, hb1, hv⟩ := e0.box_inv
  have hbd := bounds_ok (P := P) (ins := ins) (ρ := ρ) (g := g) w false (len := n) (cap := n) (fun y hy => hr y (by simp [ho, Op.operands, hy])) (fun y hy => hr y (by simp [ho, Op.operands, hy])) h1 h2 hlh hc
  obtain ⟨m, hm'⟩ : ∃ m, tsz P e = m + 1 := ⟨tsz P e - 1, by omega⟩
  refine ⟨.slice (some ⟨b, off + l * tsz P e, none⟩) (h - l) (n - l), ?_, .slb id _ _ _ _ b hb1 (e0.box_ty hb1) (by omega) (by omega)⟩
  have hne : ¬ (n = l) := by omega
  simp only [execOp, ho, hv, Instr.sliceAt, Option.map_none, Sem.run_bind, run_underlying (tk_arr ht), Result.andThen_ok, Instr.sureAddr, Sem.run_pure, hbd, run_sizeOf w hm', if_neg hne, Addr.add_lit, hm']

/-- A part of a slice that grows: over its box. -/
theorem slice_slg {t e id n sz : Nat} {x : Operand} {lo hi : Option Operand} {l h : Nat} (ho : o.op = .slice t x lo hi none) (hx : ins x = .slg id n sz) (ht : tk P t = .sl e)
    (hz : 0 < tsz P e) (hs : tsz P e = sz) (h1 : bnd 0 (lo.map ins) = some l) (h2 : bnd n (hi.map ins) = some h) (hlh : l < h) (hc : h ≤ n) :
    LTrip P nid o ins S { p := .slb id (l * sz) (h - l) sz, ok := ok } := by
  refine .still fun g S' ρ w hI hr hb => ?_
  have e0 := hr x (by simp [ho, Op.operands])
  rw [hx] at e0
  obtain ⟨b, cap, T, m, hb1, hv, hcap, hmax, hty, hroom⟩ := e0.slg_inv
  have hbd := bounds_ok (P := P) (ins := ins) (ρ := ρ) (g := g) w true (len := n) (cap := cap) (fun y hy => hr y (by simp [ho, Op.operands, hy])) (fun y hy => hr y (by simp [ho, Op.operands, hy])) h1 h2 (Nat.le_of_lt hlh) (by omega)
  refine ⟨.slice (some ⟨b, l * sz, none⟩) (h - l) (cap - l), ?_, .slb id _ _ _ _ b hb1 (by rw [hty]; simp) (by omega) (by omega)⟩
  have hne : ¬ (cap = l) := by omega
  simp only [execOp, ho, hv, Option.map_none, Sem.run_bind, run_sliceAt_sl w ht hz hbd, hs, Result.andThen_ok, Sem.run_pure, if_neg hne, Option.map_some, Addr.add_lit, Nat.zero_add]
/-- .. from its begin on: it may grow still. -/
theorem slice_slg0 {t e id n sz : Nat} {x : Operand} {hi : Option Operand} {h : Nat} (ho : o.op = .slice t x none hi none) (hx : ins x = .slg id n sz) (ht : tk P t = .sl e)
    (hz : 0 < tsz P e) (hs : tsz P e = sz) (h2 : bnd n (hi.map ins) = some h) (hc : h ≤ n) :
    LTrip P nid o ins S { p := .slg id h sz, ok := ok } := by
  refine .still fun g S' ρ w hI hr hb => ?_
  have e0 := hr x (by simp [ho, Op.operands])
  rw [hx] at e0
  obtain ⟨b, cap, T, m, hb1, hv, hcap, hmax, hty, hroom⟩ := e0.slg_inv
  have hbd := bounds_ok (P := P) (ins := ins) (ρ := ρ) (g := g) w true (len := n) (cap := cap) (lo := none) (fun y hy => by cases hy) (fun y hy => hr y (by simp [ho, Op.operands, hy])) (l := 0) rfl h2 (Nat.zero_le _) (by omega)
  refine ⟨.slice (some ⟨b, 0, none⟩) h cap, ?_, .slg id _ _ _ b T m hb1 hty (by omega) hmax hroom⟩
  rw [Option.map_none] at hbd
  simp only [execOp, ho, hv, Option.map_none, Sem.run_bind, run_sliceAt_sl w ht hz hbd, hs, Result.andThen_ok, Sem.run_pure, Nat.zero_mul, Option.map_some, Addr.add_lit, Nat.add_zero, Nat.sub_zero]
  by_cases h0 : cap = 0
  · rw [if_pos h0]
  · rw [if_neg h0]

/-- .. empty, or not. -/
theorem slice_slgE {t e id n sz : Nat} {x : Operand} {lo hi : Option Operand} {l h : Nat} (ho : o.op = .slice t x lo hi none) (hx : ins x = .slg id n sz) (ht : tk P t = .sl e)
    (hz : 0 < tsz P e) (hs : tsz P e = sz) (h1 : bnd 0 (lo.map ins) = some l) (h2 : bnd n (hi.map ins) = some h) (hlh : l ≤ h) (hc : h ≤ n) :
    LTrip P nid o ins S { p := if h = l then .sl sz [] else .slb id (l * sz) (h - l) sz, ok := ok } := by
  by_cases he : h = l
  · rw [if_pos he]
    subst he
    refine .still fun g S' ρ w hI hr hb => ?_
    have e0 := hr x (by simp [ho, Op.operands])
    rw [hx] at e0
    obtain ⟨b, cap, T, m, hb1, hv, hcap, hmax, hty, hroom⟩ := e0.slg_inv
    have hbd := bounds_ok (P := P) (ins := ins) (ρ := ρ) (g := g) w true (len := n) (cap := cap) (fun y hy => hr y (by simp [ho, Op.operands, hy])) (fun y hy => hr y (by simp [ho, Op.operands, hy])) h1 h2 (Nat.le_refl _) (by omega)
    refine ⟨.slice (some (if cap = h then ⟨b, 0, none⟩ else ⟨b, h * sz, none⟩)) 0 (cap - h), ?_, ?_⟩
    · simp only [execOp, ho, hv, Option.map_none, Sem.run_bind, run_sliceAt_sl w ht hz hbd, hs, Result.andThen_ok, Sem.run_pure, Option.map_some, Addr.add_lit, Nat.zero_add, Nat.sub_self]
      by_cases hch : cap = h
      · rw [if_pos hch, if_pos hch]
      · rw [if_neg hch, if_neg hch]
    · by_cases hch : cap = h
      · rw [if_pos hch]
        exact .pure _ _ (.sl b 0 0 (cap - h) sz [] (fun _ => .bool false) rfl (Nat.zero_le _) (by omega) (fun p hp => by cases hp) (fun i hi => by simp at hi) (fun i hi => by simp at hi) (fun i p hp => by simp at hp))
      · rw [if_neg hch]
        exact .pure _ _ (.sl b (h * sz) 0 (cap - h) sz [] (fun _ => .bool false) rfl (Nat.zero_le _) (by omega) (fun p hp => by cases hp) (fun i hi => by simp at hi) (fun i hi => by simp at hi) (fun i p hp => by simp at hp))
  · rw [if_neg he]
    exact slice_slg ho hx ht hz hs h1 h2 (by omega) hc
/-! ### Lengths -/
theorem len_str {t : Nat} {x : Operand} {s : List UInt8} (ho : o.op = .call { callee := .builtin .len, args := #[x], argTypes := #[t] }) (hx : ins x = .str s) (ht : tk P t = .str) :
    LTrip P nid o ins S { p := .int .i64 s.length, ok := ok } := by
  refine .still fun g S' ρ w hI hr hb => ?_
  have e0 := hr x (by simp [ho, Op.operands, Call.operands])
  rw [hx] at e0
  exact ⟨.int .i64 s.length, by simp [execOp, ho, resolve, invoke, builtin, Builtin.len_, e0.str_inv, run_underlying (tk_str ht), goInt, size_mk], .pure _ _ (by constructor)⟩
theorem len_sl {t e sz : Nat} {x : Operand} {es : List PV} (ho : o.op = .call { callee := .builtin .len, args := #[x], argTypes := #[t] }) (hx : (ins x).asl = some (sz, es)) (ht : tk P t = .sl e) :
    LTrip P nid o ins S { p := .int .i64 es.length, ok := ok } := by
  refine .still fun g S' ρ w hI hr hb => ?_
  have e0 := (hr x (by simp [ho, Op.operands, Call.operands])).asl hx
  obtain ⟨a, cap, hv, _⟩ := e0.sl_view
  exact ⟨.int .i64 es.length, by simp [execOp, ho, resolve, invoke, builtin, Builtin.len_, hv, run_underlying (tk_sl ht), goInt], .pure _ _ (by constructor)⟩
theorem len_nil {t e : Nat} {x : Operand} (ho : o.op = .call { callee := .builtin .len, args := #[x], argTypes := #[t] }) (hx : ins x = .nilsl) (ht : tk P t = .sl e) :
    LTrip P nid o ins S { p := .int .i64 0, ok := ok } := by
  refine .still fun g S' ρ w hI hr hb => ?_
  have e0 := hr x (by simp [ho, Op.operands, Call.operands])
  rw [hx] at e0
  exact ⟨.int .i64 0, by simp [execOp, ho, resolve, invoke, builtin, Builtin.len_, e0.nilsl_inv, run_underlying (tk_sl ht), goInt], .pure _ _ (by constructor)⟩
theorem len_slb {t e id off n cap : Nat} {x : Operand} (ho : o.op = .call { callee := .builtin .len, args := #[x], argTypes := #[t] }) (hx : ins x = .slb id off n cap) (ht : tk P t = .sl e) :
    LTrip P nid o ins S { p := .int .i64 n, ok := ok } := by
  refine .still fun g S' ρ w hI hr hb => ?_
  have e0 := hr x (by simp [ho, Op.operands, Call.operands])
  rw [hx] at e0
  obtain ⟨b, _, _, hv, _⟩ := e0.slb_inv
  exact ⟨.int .i64 n, by simp [execOp, ho, resolve, invoke, builtin, Builtin.len_, hv, run_underlying (tk_sl ht), goInt], .pure _ _ (by constructor)⟩
theorem len_slg {t e id n sz : Nat} {x : Operand} (ho : o.op = .call { callee := .builtin .len, args := #[x], argTypes := #[t] }) (hx : ins x = .slg id n sz) (ht : tk P t = .sl e) :
    LTrip P nid o ins S { p := .int .i64 n, ok := ok } := by
  refine .still fun g S' ρ w hI hr hb => ?_
  have e0 := hr x (by simp [ho, Op.operands, Call.operands])
  rw [hx] at e0
  obtain ⟨b, _, _, _, _, hv, _⟩ := e0.slg_inv
  exact ⟨.int .i64 n, by simp [execOp, ho, resolve, invoke, builtin, Builtin.len_, hv, run_underlying (tk_sl ht), goInt], .pure _ _ (by constructor)⟩
theorem len_arr {t n e : Nat} {x : Operand} (ho : o.op = .call { callee := .builtin .len, args := #[x], argTypes := #[t] }) (ht : tk P t = .arr n e) :
    LTrip P nid o ins S { p := .int .i64 n, ok := ok } := by
  refine .still fun g S' ρ w hI hr hb => ?_
  exact ⟨.int .i64 n, by simp [execOp, ho, resolve, invoke, builtin, Builtin.len_, run_underlying (tk_arr ht), goInt], .pure _ _ (by constructor)⟩

theorem minmax {b : Builtin} {ts : Array TypeId} {x y : Operand} {k : IntKind} {m n : Int} (hb : b = .min ∨ b = .max) (ho : o.op = .call { callee := .builtin b, args := #[x, y], argTypes := ts })
    (hx : ins x = .int k m) (hy : ins y = .int k n) : LTrip P nid o ins S { p := .int k (if b = .min then (if n < m then n else m) else (if m < n then n else m)), ok := ok } := by
  refine .still fun g S' ρ w hI hr _ => ?_
  have e0 := hr x (by simp [ho, Op.operands, Call.operands])
  have e1 := hr y (by simp [ho, Op.operands, Call.operands])
  rw [hx] at e0; rw [hy] at e1
  refine ⟨_, ?_, .pure _ _ (by constructor)⟩
  rcases hb with rfl | rfl
  · simp [execOp, ho, resolve, invoke, builtin, Builtin.min_, Builtin.min2, e0.int_inv, e1.int_inv]
  · simp [execOp, ho, resolve, invoke, builtin, Builtin.max_, Builtin.max2, e0.int_inv, e1.int_inv]

theorem makeFunc_ok {f : FuncId} {caps : Array Operand} (ho : o.op = .makeFunc (.func f) #[] caps) :
    LTrip P nid o ins S { p := .fn f (caps.toList.map ins), ok := ok } := by
  refine .still fun g S' ρ w hI hr hb => ?_
  refine ⟨.func (.func f) #[] (caps.map ρ), by simp [execOp, ho, Instr.makeFunc], .fn f _ _ (by simp) ?_⟩
  intro i v p hv hp
  rw [Array.getElem?_map] at hv
  rw [List.getElem?_map] at hp
  cases hc : caps[i]? with
  | none => rw [hc] at hv; cases hv
  | some x =>
    rw [hc] at hv; cases hv
    rw [Array.getElem?_toList, hc] at hp; cases hp
    exact hr x (by simp only [ho, Op.operands, Array.empty_append]; exact Array.mem_of_getElem? hc)

end
end Go.Pv
