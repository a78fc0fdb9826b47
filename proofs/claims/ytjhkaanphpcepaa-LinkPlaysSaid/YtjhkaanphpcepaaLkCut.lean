/- slices.Clone of pieces, as a box; Tick and Cut. -/
import Derived.Test.YtjhkaanphpcepaaLkGot
set_option maxRecDepth 100000
set_option linter.unusedSimpArgs false
set_option linter.unusedVariables false
namespace Go.Proofs.Lk
open Go.Pv


theorem of_slcell {P : Program} {f : FuncId} {bs bs' : List (List PV)} {nt nt' : Nat} {sz i : Nat} {es ps args : List PV} {r : PV} [GTab] (hi : ps[i]? = some (.sl sz es)) (h1 : es = [] → Fsp P f bs nt (.agg (ps.set i .nilsl) :: args) bs' nt' r)
    (h2 : Fsp P f bs nt (.agg (ps.set i (.sln sz es)) :: args) bs' nt' r) : Fsp P f bs nt (.agg ps :: args) bs' nt' r where
  len := h2.len
  fn := h2.fn
  calls := fun g w vs hI hb ht hs ha => by
    obtain ⟨v, hv⟩ : ∃ v, vs[0]? = some v := ⟨vs[0]'(by rw [hs]; simp), by simp⟩
    obtain ⟨cs, rfl, hn, ho, hp⟩ := (ha 0 v _ hv rfl).agg_inv
    have rest : ∀ (q : PV), Rel g (.agg cs) q → ∀ (i : Nat) (v' : Value) (p : PV), vs[i]? = some v' → (q :: args)[i]? = some p → Rel g v' p := by
      intro q hq i v' p hv' hp
      cases i with
      | zero => rw [hv] at hv'; cases hv'; cases hp; exact hq
      | succ i => exact ha (i + 1) v' p hv' (by simpa using hp)
    have hil : i < ps.length := (List.getElem?_eq_some_iff.1 hi).1
    obtain ⟨x, hx⟩ : ∃ x, cs[i]? = some x := ⟨cs[i]'(by omega), by simp⟩
    have key : ∀ q, Rel g x q → Rel g (.agg cs) (.agg (ps.set i q)) := by
      intro q hq
      refine .agg cs _ (by rw [hn, List.length_set]) ho fun j v p hv hp' => ?_
      rw [List.getElem?_set] at hp'
      split at hp'
      · rename_i e
        subst e
        cases hp'
        rw [hx] at hv; cases hv
        exact hq
      · exact hp j v p hv hp'
    have hr := (hp i x _ hx hi).sl_inv
    cases hr with
    | slnil => exact (h1 rfl).calls g w vs hI hb ht (by simpa using hs) (rest _ (key _ (.pure _ _ .nilsl)))
    | sl b off n cap _ _ vals hn hc hm hsz hh ho hp => exact h2.calls g w vs hI hb ht (by simpa using hs) (rest _ (key _ (.pure _ _ (.sln _ _ _ _ _ _ (.sl b off n cap sz es vals hn hc hm hsz hh ho hp)))))
theorem clone_emp : Fsp Try.prog 33 [] 0 [.sln 3 []] [] 0 (.sl0 3) := by
  (refine Fsp.of (nx := 0) mixed Try.func33 rfl (by decide) (by first | exact Nat.le_refl _ | simp) (by simp [Try.f33]) ⟨by decide, by decide⟩ ?_; simp -implicitDefEqProofs only [push_cast, Try.f33, Int.reduceBEq, Int.reduceBNe, Int.reduceEq, Int.reduceNe, Int.reducePow, Nat.reduceAdd, Nat.reduceMul, Nat.reduceSub, Nat.reduceLT, Nat.reduceLeDiff, Nat.reduceEqDiff, Nat.reduceBEq, Int.reduceLT, Int.reduceLE, Int.reduceAdd, Int.reduceSub, Int.reduceMul, Int.reduceToNat, Int.reduceNeg, reduceIte, reduceCtorEq, reduceBEq])
  refine callE_sl0 (by rfl) tk_26 tsz_73 (by decide) zc_73 rfl (by first | rfl | simp [gdOk]) ?_
  simp -implicitDefEqProofs only [push_cast, sl0Dl, Int.reduceBEq, Int.reduceBNe, Int.reduceEq, Int.reduceNe, Int.reducePow, Nat.reduceAdd, Nat.reduceMul, Nat.reduceSub, Nat.reduceLT, Nat.reduceLeDiff, Nat.reduceEqDiff, Nat.reduceBEq, Int.reduceLT, Int.reduceLE, Int.reduceAdd, Int.reduceSub, Int.reduceMul, Int.reduceToNat, Int.reduceNeg, reduceIte, reduceCtorEq, reduceBEq]
/-- The cells of pieces, one behind the other. -/
def pcF (l : List Pc) : List PV := (l.map Pc.pv).flatMap PV.cells
theorem pcF_len (l : List Pc) : (pcF l).length = l.length * 3 := by
  rw [pcF, flat_length (pcs_one l), List.length_map]
theorem pcF_cons (p : Pc) (l : List Pc) : pcF (p :: l) = .int .i64 p.n :: .str p.b :: .bool p.due :: pcF l := rfl
theorem pcF_set (b : Bool) : ∀ (l : List Pc) (i : Nat), i < l.length → List.take (0 + i * 3 + 2) (pcF l) ++ .bool b :: List.drop (0 + i * 3 + 2 + 1) (pcF l) = pcF (l.set i { l.getD i pc0 with due := b })
  | [], i, h => absurd h (Nat.not_lt_zero _)
  | p :: l, 0, _ => by simp [pcF_cons]
  | p :: l, i + 1, h => by
    have ih := pcF_set b l i (by simpa using h)
    rw [show 0 + (i + 1) * 3 + 2 = (0 + i * 3 + 2) + 3 by omega, show 0 + i * 3 + 2 + 3 + 1 = (0 + i * 3 + 2 + 1) + 3 by omega, pcF_cons]
    simp only [List.take_succ_cons, List.drop_succ_cons, List.set_cons_succ, List.getD_cons_succ, pcF_cons, List.cons_append]
    rw [← ih]
theorem wkL_pcF (τ γ : List Nat) : ∀ l : List Pc, wkL (res1 τ γ) (pcF l) (pcF l)
  | [] => trivial
  | p :: l => by
    rw [pcF_cons]
    exact ⟨rfl, rfl, rfl, wkL_pcF τ γ l⟩
theorem wkC_pcF (β τ : List (Nat × Nat)) (em : List Nat) : ∀ l : List Pc, wkL (wkC β τ em) (pcF l) (pcF l)
  | [] => trivial
  | p :: l => by
    rw [pcF_cons]
    exact ⟨rfl, rfl, rfl, wkC_pcF β τ em l⟩
theorem tl_pcF (n m nb : Nat) : ∀ (l : List Pc), ∀ q ∈ pcF l, tokLt1 n m nb q = true
  | [], q, h => by cases h
  | p :: l, q, h => by
    rw [pcF_cons] at h
    simp only [List.mem_cons] at h
    rcases h with rfl | rfl | rfl | h
    · rfl
    · rfl
    · rfl
    · exact tl_pcF n m nb l q h
theorem back_pcF (β : List Nat) (nid m : Nat) : ∀ (l : List Pc), (pcF l).map (PV.back1 β nid m) = pcF l
  | [] => rfl
  | p :: l => by
    rw [pcF_cons, List.map_cons, List.map_cons, List.map_cons, back_pcF β nid m l]
    rfl
theorem clone_box (p : Pc) (l : List Pc) (hl : l.length ≤ 1000000) : Fsp Try.prog 33 [] 0 [.sln 3 ((p :: l).map Pc.pv)] [pcF (p :: l)] 0 (.slb 0 0 (l.length + 1) 3) := by
  (refine Fsp.of (nx := 0) mixed Try.func33 rfl (by decide) (by first | exact Nat.le_refl _ | simp) (by simp [Try.f33]) ⟨by decide, by decide⟩ ?_; simp -implicitDefEqProofs only [push_cast, Try.f33, Int.reduceBEq, Int.reduceBNe, Int.reduceEq, Int.reduceNe, Int.reducePow, Nat.reduceAdd, Nat.reduceMul, Nat.reduceSub, Nat.reduceLT, Nat.reduceLeDiff, Nat.reduceEqDiff, Nat.reduceBEq, Int.reduceLT, Int.reduceLE, Int.reduceAdd, Int.reduceSub, Int.reduceMul, Int.reduceToNat, Int.reduceNeg, reduceIte, reduceCtorEq, reduceBEq])
  refine callE_sl0 (by rfl) tk_26 tsz_73 (by decide) zc_73 rfl (by first | rfl | simp [gdOk]) ?_
  simp -implicitDefEqProofs only [push_cast, sl0Dl, Int.reduceBEq, Int.reduceBNe, Int.reduceEq, Int.reduceNe, Int.reducePow, Nat.reduceAdd, Nat.reduceMul, Nat.reduceSub, Nat.reduceLT, Nat.reduceLeDiff, Nat.reduceEqDiff, Nat.reduceBEq, Int.reduceLT, Int.reduceLE, Int.reduceAdd, Int.reduceSub, Int.reduceMul, Int.reduceToNat, Int.reduceNeg, reduceIte, reduceCtorEq, reduceBEq]
  refine ⟨by simp; omega, by simp; omega, ?_⟩
  rw [List.length_map]
  refine endK_box [] [20] rfl rfl (by simp) rfl rfl rfl (fun i j ps h1 h2 => ?_) ⟨by simp [resOk, PS.ev, PS.get, lkp_hit, PV.cnd], by simp [resPV], by simp [resOf, resPV, one', res3, res2, res1, PS.get, lkp_hit, PV.un]⟩
  cases i with
  | zero =>
    simp at h1 h2
    subst h1; subst h2
    exact ⟨pcF (p :: l), by simp [PS.obj, lkp_hit]; rfl, wkL_pcF _ _ _⟩
  | succ i => simp at h1
def tickL (l : List Pc) : List Pc := l.map fun p => { p with due := true }
def En.tick (e : En) : En := { e with way := tickL e.way }
structure TiS (l : List Pc) where
  i : Nat
  hi : i ≤ l.length
def TiS.w {l : List Pc} (a : TiS l) : List Pc := tickL (l.take a.i) ++ l.drop a.i
def TiS.st (e : En) (p : Pc) (l : List Pc) (a : TiS (p :: l)) : PS := { n := 21, env := [(11, .int .i64 a.i), (10, .int .i64 ((l.length : Int) + 1)), (2, .box 4 0), (1, .box 0 0)], objs := [(4, some (End0.cs .nilsl)), (16, some (pcF a.w)), (0, some (e.cs (.slb 16 0 (l.length + 1) 3)))], live := [], nxt := 60 }
theorem TiS.w_len {l : List Pc} (a : TiS l) : a.w.length = l.length := by
  have := a.hi
  simp [TiS.w, tickL]; omega
theorem TiS.w_set {l : List Pc} (i : Nat) (h : i < l.length) : (tickL (l.take i) ++ l.drop i).set i { (tickL (l.take i) ++ l.drop i).getD i pc0 with due := true } = tickL (l.take (i + 1)) ++ l.drop (i + 1) := by
  have hl : (tickL (l.take i)).length = i := by simp [tickL]; omega
  have hd : l.drop i = l[i] :: l.drop (i + 1) := (List.getElem_cons_drop h).symm
  rw [List.set_append_right _ _ (by omega), hl, Nat.sub_self, hd, List.set_cons_zero, List.getD_eq_getElem?_getD, List.getElem?_append_right (by omega), hl, Nat.sub_self, List.getElem?_cons_zero, Option.getD_some,
    List.take_succ_eq_append_getElem h, tickL, tickL, List.map_append, List.append_assoc]
  rfl
theorem tick_box (e : En) (p : Pc) (l : List Pc) (hl : l.length ≤ 1000) : Fsp Try.prog 25 [] 0 [.agg (e.cs (.sln 3 ((p :: l).map Pc.pv)))] [pcF (tickL (p :: l))] 0 (.agg (e.cs (.slb 0 0 (l.length + 1) 3))) := by
  (refine Fsp.of (nx := 0) mixed Try.func25 rfl (by decide) (by first | exact Nat.le_refl _ | simp) (by simp [Try.f25]) ⟨by decide, by decide⟩ ?_; simp -implicitDefEqProofs only [push_cast, Try.f25, En.cs, Int.reduceBEq, Int.reduceBNe, Int.reduceEq, Int.reduceNe, Int.reducePow, Nat.reduceAdd, Nat.reduceMul, Nat.reduceSub, Nat.reduceLT, Nat.reduceLeDiff, Nat.reduceEqDiff, Nat.reduceBEq, Int.reduceLT, Int.reduceLE, Int.reduceAdd, Int.reduceSub, Int.reduceMul, Int.reduceToNat, Int.reduceNeg, reduceIte, reduceCtorEq, reduceBEq])
  refine callE_new (clone_box p l (by omega)) (by rfl) (by rfl) (by rfl) (by decide) (by simp) (by rfl) (by simpa using tl_pcF 0 0 1 (p :: l)) (fun _ => by rfl) (by first | rfl | simp [gdOk, newToks]) ?_
  simp -implicitDefEqProofs only [push_cast, back_pcF, upto, Int.reduceBEq, Int.reduceBNe, Int.reduceEq, Int.reduceNe, Int.reducePow, Nat.reduceAdd, Nat.reduceMul, Nat.reduceSub, Nat.reduceLT, Nat.reduceLeDiff, Nat.reduceEqDiff, Nat.reduceBEq, Int.reduceLT, Int.reduceLE, Int.reduceAdd, Int.reduceSub, Int.reduceMul, Int.reduceToNat, Int.reduceNeg, reduceIte, reduceCtorEq, reduceBEq]
  refine loopC_of (α := TiS (p :: l)) (TiS.st e p l) (fun a => l.length + 1 - a.i) ⟨0, by omega⟩ ?_ ?_
  · (simp only [TiS.st, En.cs, End0]; exact Wk.by _ _ _ [(0, 0), (4, 4), (16, 16)] [] [] (by simp) (by simp [wkV, PV.el, PV.weak, PS.get, PS.obj, PS.lv, lkp_hit, lkp_miss, lkp_nil, lko, wkC_pcF, TiS.w, tickL]) (by simp [PS.get, PS.obj, PS.lv, lkp_hit, lkp_miss, lkp_nil, lko, wkL, wkC, PV.weak, wkC_pcF, TiS.w, tickL]) (by simp [PS.get, PS.obj, PS.lv, lkp_hit, lkp_miss, lkp_nil, lko]) (by rfl) (by rfl) (by simp [lko]) (by simp) (by simp) (by simp) (fun i hi => absurd hi (Nat.not_lt_zero i)))
  · rintro ⟨i, hi⟩
    have hil : i ≤ l.length + 1 := hi
    have hwl : (TiS.w ⟨i, hi⟩).length = l.length + 1 := TiS.w_len _
    simp -implicitDefEqProofs only [push_cast, TiS.st, En.cs, End0, Int.reduceBEq, Int.reduceBNe, Int.reduceEq, Int.reduceNe, Int.reducePow, Nat.reduceAdd, Nat.reduceMul, Nat.reduceSub, Nat.reduceLT, Nat.reduceLeDiff, Nat.reduceEqDiff, Nat.reduceBEq, Int.reduceLT, Int.reduceLE, Int.reduceAdd, Int.reduceSub, Int.reduceMul, Int.reduceToNat, Int.reduceNeg, reduceIte, reduceCtorEq, reduceBEq]
    refine condC_split (fun h2 => ?_) (fun h2 => ?_)
    · have hlt : i < l.length + 1 := by simp at h2; omega
      simp -implicitDefEqProofs only [push_cast, pcF_len, hwl, Int.reduceBEq, Int.reduceBNe, Int.reduceEq, Int.reduceNe, Int.reducePow, Nat.reduceAdd, Nat.reduceMul, Nat.reduceSub, Nat.reduceLT, Nat.reduceLeDiff, Nat.reduceEqDiff, Nat.reduceBEq, Int.reduceLT, Int.reduceLE, Int.reduceAdd, Int.reduceSub, Int.reduceMul, Int.reduceToNat, Int.reduceNeg, reduceIte, reduceCtorEq, reduceBEq]
      refine ⟨by omega, by omega, ⟨i + 1, by simp; omega⟩, by simp only; omega, ?_⟩
      rw [show IntKind.i64.wrap ((i : Int) + 1) = ((i + 1 : Nat) : Int) by (rw [wrap_i64_id (by omega) (by omega)]; rfl)]
      have hst := pcF_set true (TiS.w ⟨i, hi⟩) i (by rw [hwl]; exact hlt)
      rw [Nat.zero_add] at hst
      rw [hst, TiS.w, TiS.w_set i (by simpa using hlt)]
      (simp only [TiS.st, En.cs, End0]; exact Wk.by _ _ _ [(0, 0), (4, 4), (16, 16)] [] [] (by simp) (by simp [wkV, PV.el, PV.weak, PS.get, PS.obj, PS.lv, lkp_hit, lkp_miss, lkp_nil, lko, wkC_pcF, TiS.w]) (by simp [PS.get, PS.obj, PS.lv, lkp_hit, lkp_miss, lkp_nil, lko, wkL, wkC, PV.weak, wkC_pcF, TiS.w]) (by simp [PS.get, PS.obj, PS.lv, lkp_hit, lkp_miss, lkp_nil, lko]) (by rfl) (by rfl) (by simp [lko]) (by simp) (by simp) (by simp) (fun i hi => absurd hi (Nat.not_lt_zero i)))
    · have hie : i = (p :: l).length := by simp at h2; simp; omega
      subst hie
      have hw : ∀ hh, TiS.w (l := p :: l) ⟨l.length + 1, hh⟩ = tickL (p :: l) := fun hh => by
        show tickL ((p :: l).take (p :: l).length) ++ (p :: l).drop (p :: l).length = _
        rw [List.take_length, List.drop_length, List.append_nil]
      simp -implicitDefEqProofs only [push_cast, hw, Int.reduceBEq, Int.reduceBNe, Int.reduceEq, Int.reduceNe, Int.reducePow, Nat.reduceAdd, Nat.reduceMul, Nat.reduceSub, Nat.reduceLT, Nat.reduceLeDiff, Nat.reduceEqDiff, Nat.reduceBEq, Int.reduceLT, Int.reduceLE, Int.reduceAdd, Int.reduceSub, Int.reduceMul, Int.reduceToNat, Int.reduceNeg, reduceIte, reduceCtorEq, reduceBEq]
      refine endK_box [] [16] rfl rfl (by simp) rfl rfl rfl (fun i j ps h1 h2 => ?_) ⟨by simp -implicitDefEqProofs only [push_cast, Int.reduceBEq, Int.reduceBNe, Int.reduceEq, Int.reduceNe, Int.reducePow, Nat.reduceAdd, Nat.reduceMul, Nat.reduceSub, Nat.reduceLT, Nat.reduceLeDiff, Nat.reduceEqDiff, Nat.reduceBEq, Int.reduceLT, Int.reduceLE, Int.reduceAdd, Int.reduceSub, Int.reduceMul, Int.reduceToNat, Int.reduceNeg, reduceIte, reduceCtorEq, reduceBEq], by simp -implicitDefEqProofs only [push_cast, Int.reduceBEq, Int.reduceBNe, Int.reduceEq, Int.reduceNe, Int.reducePow, Nat.reduceAdd, Nat.reduceMul, Nat.reduceSub, Nat.reduceLT, Nat.reduceLeDiff, Nat.reduceEqDiff, Nat.reduceBEq, Int.reduceLT, Int.reduceLE, Int.reduceAdd, Int.reduceSub, Int.reduceMul, Int.reduceToNat, Int.reduceNeg, reduceIte, reduceCtorEq, reduceBEq], by (simp -implicitDefEqProofs only [push_cast, wkL, lko, idx, Int.reduceBEq, Int.reduceBNe, Int.reduceEq, Int.reduceNe, Int.reducePow, Nat.reduceAdd, Nat.reduceMul, Nat.reduceSub, Nat.reduceLT, Nat.reduceLeDiff, Nat.reduceEqDiff, Nat.reduceBEq, Int.reduceLT, Int.reduceLE, Int.reduceAdd, Int.reduceSub, Int.reduceMul, Int.reduceToNat, Int.reduceNeg, reduceIte, reduceCtorEq, reduceBEq]; exact ⟨_, rfl, by simp [wkL, res1, PV.weak]⟩)⟩
      cases i with
      | zero =>
        simp at h1 h2
        subst h1; subst h2
        exact ⟨pcF (tickL (p :: l)), by simp [PS.obj, lkp_hit, lkp_miss], wkL_pcF _ _ _⟩
      | succ i => simp at h1
theorem chunk_pcF : ∀ l : List Pc, chunk 3 l.length (pcF l) = l.map Pc.pv
  | [] => rfl
  | p :: l => by
    rw [pcF_cons, List.length_cons, chunk, List.map_cons, ← chunk_pcF l]
    rfl
theorem frz_pcF (m : Nat) (p : Pc) (l : List Pc) : frz1 m (pcF (p :: l)) (.slb m 0 (l.length + 1) 3) = pcs (p :: l) := by
  have h := chunk_pcF (p :: l)
  rw [List.length_cons] at h
  rw [frz1, if_pos rfl, if_pos (by rw [pcF_len]; simp), List.drop_zero, h]
  rfl
theorem tickL_len (l : List Pc) : (tickL l).length = l.length := by simp [tickL]
theorem tick_fs (e : En) (hw : e.way.length ≤ 1000) : Fsp Try.prog 25 [] 0 [e.pv] [] 0 e.tick.pv := by
  refine of_slcell (i := 1) (sz := 3) (es := e.way.map Pc.pv) rfl (fun hn => ?_) ?_
  · have hway : e.way = [] := by simpa using hn
    have hr : e.tick.pv = .agg (e.cs (.sl 3 [])) := by rw [En.tick, En.pv, hway]; rfl
    rw [hr]
    show Fsp Try.prog 25 [] 0 [.agg (e.cs .nilsl)] [] 0 _
    (refine Fsp.of (nx := 0) mixed Try.func25 rfl (by decide) (by first | exact Nat.le_refl _ | simp) (by simp [Try.f25]) ⟨by decide, by decide⟩ ?_; simp -implicitDefEqProofs only [push_cast, Try.f25, En.cs, Int.reduceBEq, Int.reduceBNe, Int.reduceEq, Int.reduceNe, Int.reducePow, Nat.reduceAdd, Nat.reduceMul, Nat.reduceSub, Nat.reduceLT, Nat.reduceLeDiff, Nat.reduceEqDiff, Nat.reduceBEq, Int.reduceLT, Int.reduceLE, Int.reduceAdd, Int.reduceSub, Int.reduceMul, Int.reduceToNat, Int.reduceNeg, reduceIte, reduceCtorEq, reduceBEq])
    refine callE_pure clone_nil (by rfl) (by rfl) (by rfl) (by decide) (by rfl) (fun _ => by rfl) (by first | rfl | simp [gdOk, newToks]) ?_
    simp -implicitDefEqProofs only [push_cast, Int.reduceBEq, Int.reduceBNe, Int.reduceEq, Int.reduceNe, Int.reducePow, Nat.reduceAdd, Nat.reduceMul, Nat.reduceSub, Nat.reduceLT, Nat.reduceLeDiff, Nat.reduceEqDiff, Nat.reduceBEq, Int.reduceLT, Int.reduceLE, Int.reduceAdd, Int.reduceSub, Int.reduceMul, Int.reduceToNat, Int.reduceNeg, reduceIte, reduceCtorEq, reduceBEq]
    refine loopC_un 1 ?_
    simp -implicitDefEqProofs only [push_cast, Int.reduceBEq, Int.reduceBNe, Int.reduceEq, Int.reduceNe, Int.reducePow, Nat.reduceAdd, Nat.reduceMul, Nat.reduceSub, Nat.reduceLT, Nat.reduceLeDiff, Nat.reduceEqDiff, Nat.reduceBEq, Int.reduceLT, Int.reduceLE, Int.reduceAdd, Int.reduceSub, Int.reduceMul, Int.reduceToNat, Int.reduceNeg, reduceIte, reduceCtorEq, reduceBEq]
    exact ⟨_, rfl, by simp [wkL, res2, res1, PV.weak, PV.el]⟩
  · show Fsp Try.prog 25 [] 0 [.agg (e.cs (.sln 3 (e.way.map Pc.pv)))] [] 0 _
    cases hway : e.way with
    | nil =>
      have hr : e.tick.pv = .agg (e.cs (.sl 3 [])) := by rw [En.tick, En.pv, hway]; rfl
      rw [hr, List.map_nil]
      (refine Fsp.of (nx := 0) mixed Try.func25 rfl (by decide) (by first | exact Nat.le_refl _ | simp) (by simp [Try.f25]) ⟨by decide, by decide⟩ ?_; simp -implicitDefEqProofs only [push_cast, Try.f25, En.cs, Int.reduceBEq, Int.reduceBNe, Int.reduceEq, Int.reduceNe, Int.reducePow, Nat.reduceAdd, Nat.reduceMul, Nat.reduceSub, Nat.reduceLT, Nat.reduceLeDiff, Nat.reduceEqDiff, Nat.reduceBEq, Int.reduceLT, Int.reduceLE, Int.reduceAdd, Int.reduceSub, Int.reduceMul, Int.reduceToNat, Int.reduceNeg, reduceIte, reduceCtorEq, reduceBEq])
      refine callE_pure clone_emp (by rfl) (by rfl) (by rfl) (by decide) (by rfl) (fun _ => by rfl) (by first | rfl | simp [gdOk, newToks]) ?_
      simp -implicitDefEqProofs only [push_cast, Int.reduceBEq, Int.reduceBNe, Int.reduceEq, Int.reduceNe, Int.reducePow, Nat.reduceAdd, Nat.reduceMul, Nat.reduceSub, Nat.reduceLT, Nat.reduceLeDiff, Nat.reduceEqDiff, Nat.reduceBEq, Int.reduceLT, Int.reduceLE, Int.reduceAdd, Int.reduceSub, Int.reduceMul, Int.reduceToNat, Int.reduceNeg, reduceIte, reduceCtorEq, reduceBEq]
      refine loopC_un 1 ?_
      simp -implicitDefEqProofs only [push_cast, Int.reduceBEq, Int.reduceBNe, Int.reduceEq, Int.reduceNe, Int.reducePow, Nat.reduceAdd, Nat.reduceMul, Nat.reduceSub, Nat.reduceLT, Nat.reduceLeDiff, Nat.reduceEqDiff, Nat.reduceBEq, Int.reduceLT, Int.reduceLE, Int.reduceAdd, Int.reduceSub, Int.reduceMul, Int.reduceToNat, Int.reduceNeg, reduceIte, reduceCtorEq, reduceBEq]
      exact ⟨_, rfl, by simp [wkL, res2, res1, PV.weak, PV.el]⟩
    | cons p l =>
      have h := (tick_box e p l (by rw [hway] at hw; simp at hw; omega)).freeze (bs' := []) (Nat.le_refl _)
      have hr : frz3 ([] : List (List PV)).length (pcF (tickL (p :: l))) (.agg (e.cs (.slb 0 0 (l.length + 1) 3))) = e.tick.pv := by
        have hz := frz_pcF 0 { p with due := true } (tickL l)
        rw [tickL_len] at hz
        show PV.agg (List.map (frz1 0 _) (e.cs _)) = PV.agg (e.cs (pcs (tickL e.way)))
        rw [hway, show tickL (p :: l) = { p with due := true } :: tickL l from rfl, ← hz]
        rfl
      rw [hr] at h
      exact h
end Go.Proofs.Lk

/- Cut. -/
set_option maxRecDepth 100000
set_option linter.unusedSimpArgs false
set_option linter.unusedVariables false
namespace Go.Proofs.Lk
open Go.Pv


def En.cut (e : En) : En := if e.most = 0 then e else { e.tick with ack := true }
theorem cut_fs (e : En) (hw : e.way.length ≤ 1000) : Fsp Try.prog 27 [] 0 [e.pv] [] 0 e.cut.pv := by
  (refine Fsp.of (nx := 0) mixed Try.func27 rfl (by decide) (by first | exact Nat.le_refl _ | simp) (by simp [Try.f27]) ⟨by decide, by decide⟩ ?_; simp -implicitDefEqProofs only [push_cast, Try.f27, En.pv, En.cs, pcs, Int.reduceBEq, Int.reduceBNe, Int.reduceEq, Int.reduceNe, Int.reducePow, Nat.reduceAdd, Nat.reduceMul, Nat.reduceSub, Nat.reduceLT, Nat.reduceLeDiff, Nat.reduceEqDiff, Nat.reduceBEq, Int.reduceLT, Int.reduceLE, Int.reduceAdd, Int.reduceSub, Int.reduceMul, Int.reduceToNat, Int.reduceNeg, reduceIte, reduceCtorEq, reduceBEq])
  refine condC_split (fun h => ?_) (fun h => ?_)
  · have h0 : e.most = 0 := by simpa using h
    rw [En.cut, if_pos h0]
    simp -implicitDefEqProofs only [push_cast, En.pv, En.cs, pcs, true_or, Int.reduceBEq, Int.reduceBNe, Int.reduceEq, Int.reduceNe, Int.reducePow, Nat.reduceAdd, Nat.reduceMul, Nat.reduceSub, Nat.reduceLT, Nat.reduceLeDiff, Nat.reduceEqDiff, Nat.reduceBEq, Int.reduceLT, Int.reduceLE, Int.reduceAdd, Int.reduceSub, Int.reduceMul, Int.reduceToNat, Int.reduceNeg, reduceIte, reduceCtorEq, reduceBEq]
    skip
  · have h0 : ¬ e.most = 0 := by simpa using h
    rw [En.cut, if_neg h0]
    simp -implicitDefEqProofs only [push_cast, En.cs, Int.reduceBEq, Int.reduceBNe, Int.reduceEq, Int.reduceNe, Int.reducePow, Nat.reduceAdd, Nat.reduceMul, Nat.reduceSub, Nat.reduceLT, Nat.reduceLeDiff, Nat.reduceEqDiff, Nat.reduceBEq, Int.reduceLT, Int.reduceLE, Int.reduceAdd, Int.reduceSub, Int.reduceMul, Int.reduceToNat, Int.reduceNeg, reduceIte, reduceCtorEq, reduceBEq]
    have ht := tick_fs e hw
    rw [En.pv, En.cs, pcs] at ht
    refine callE_pure ht (by rfl) (by rfl) (by rfl) (by decide) (by rfl) (fun _ => by rfl) (by first | rfl | simp [gdOk, newToks]) ?_
    simp -implicitDefEqProofs only [push_cast, En.pv, En.cs, En.tick, pcs, true_or, Int.reduceBEq, Int.reduceBNe, Int.reduceEq, Int.reduceNe, Int.reducePow, Nat.reduceAdd, Nat.reduceMul, Nat.reduceSub, Nat.reduceLT, Nat.reduceLeDiff, Nat.reduceEqDiff, Nat.reduceBEq, Int.reduceLT, Int.reduceLE, Int.reduceAdd, Int.reduceSub, Int.reduceMul, Int.reduceToNat, Int.reduceNeg, reduceIte, reduceCtorEq, reduceBEq]
    skip
end Go.Proofs.Lk
