/- The law's windows and selections, made. -/
import Derived.Test.YtnaldfmohncbhaaDoorRtD
import Derived.Test.YtnaldfmohncbhaaDoorPvYb
import Derived.Test.YtnaldfmohncbhaaDoorRtG
set_option maxRecDepth 100000
set_option linter.unusedSimpArgs false
set_option linter.unusedVariables false
namespace Go.Proofs.Sh
open Go.Pv
theorem Tm.kc_weak (t : Tm) : (Tm.kc t).weak = Tm.kc t := by cases t <;> rfl
theorem Tm.kc_cells (t : Tm) : (Tm.kc t).cells = [Tm.kc t] := by cases t <;> rfl
theorem Tm.kc_one (t : Tm) : (Tm.kc t).one = true := by cases t <;> rfl
theorem Tm.kc_back1 (t : Tm) (β : List Nat) (n m : Nat) : PV.back1 β n m (Tm.kc t) = Tm.kc t := by cases t <;> rfl
theorem Tm.kc_tok1 (t : Tm) (a b c : Nat) : tokLt1 a b c (Tm.kc t) = true := by cases t <;> rfl
theorem Tm.kc_wkC (t : Tm) (β τ : List (Nat × Nat)) (em : List Nat) : wkC β τ em (Tm.kc t) (Tm.kc t) = True := by cases t <;> simp [Tm.kc, wkC, PV.weak]
theorem Tm.kc_res1 (t : Tm) (τ γ : List Nat) : res1 τ γ (Tm.kc t) (Tm.kc t) = True := by cases t <;> simp [Tm.kc, res1, PV.weak]
theorem Tm.uc_weak (t : Tm) : (Tm.uc t).weak = Tm.uc t := by cases t <;> rfl
theorem Tm.uc_cells (t : Tm) : (Tm.uc t).cells = [Tm.uc t] := by cases t <;> rfl
theorem Tm.uc_one (t : Tm) : (Tm.uc t).one = true := by cases t <;> rfl
theorem Tm.uc_back1 (t : Tm) (β : List Nat) (n m : Nat) : PV.back1 β n m (Tm.uc t) = Tm.uc t := by cases t <;> rfl
theorem Tm.uc_tok1 (t : Tm) (a b c : Nat) : tokLt1 a b c (Tm.uc t) = true := by cases t <;> rfl
theorem Tm.uc_wkC (t : Tm) (β τ : List (Nat × Nat)) (em : List Nat) : wkC β τ em (Tm.uc t) (Tm.uc t) = True := by cases t <;> simp [Tm.uc, wkC, PV.weak]
theorem Tm.uc_res1 (t : Tm) (τ γ : List Nat) : res1 τ γ (Tm.uc t) (Tm.uc t) = True := by cases t <;> simp [Tm.uc, res1, PV.weak]
theorem Cm.mc_weak (t : Cm) : (Cm.mc t).weak = Cm.mc t := by cases t <;> rfl
theorem Cm.mc_cells (t : Cm) : (Cm.mc t).cells = [Cm.mc t] := by cases t <;> rfl
theorem Cm.mc_one (t : Cm) : (Cm.mc t).one = true := by cases t <;> rfl
theorem Cm.mc_back1 (t : Cm) (β : List Nat) (n m : Nat) : PV.back1 β n m (Cm.mc t) = Cm.mc t := by cases t <;> rfl
theorem Cm.mc_tok1 (t : Cm) (a b c : Nat) : tokLt1 a b c (Cm.mc t) = true := by cases t <;> rfl
theorem Cm.mc_wkC (t : Cm) (β τ : List (Nat × Nat)) (em : List Nat) : wkC β τ em (Cm.mc t) (Cm.mc t) = True := by cases t <;> simp [Cm.mc, wkC, PV.weak]
theorem Cm.mc_res1 (t : Cm) (τ γ : List Nat) : res1 τ γ (Cm.mc t) (Cm.mc t) = True := by cases t <;> simp [Cm.mc, res1, PV.weak]
theorem Cm.sc_weak (t : Cm) : (Cm.sc t).weak = Cm.sc t := by cases t <;> rfl
theorem Cm.sc_cells (t : Cm) : (Cm.sc t).cells = [Cm.sc t] := by cases t <;> rfl
theorem Cm.sc_one (t : Cm) : (Cm.sc t).one = true := by cases t <;> rfl
theorem Cm.sc_back1 (t : Cm) (β : List Nat) (n m : Nat) : PV.back1 β n m (Cm.sc t) = Cm.sc t := by cases t <;> rfl
theorem Cm.sc_tok1 (t : Cm) (a b c : Nat) : tokLt1 a b c (Cm.sc t) = true := by cases t <;> rfl
theorem Cm.sc_wkC (t : Cm) (β τ : List (Nat × Nat)) (em : List Nat) : wkC β τ em (Cm.sc t) (Cm.sc t) = True := by cases t <;> simp [Cm.sc, wkC, PV.weak]
theorem Cm.sc_res1 (t : Cm) (τ γ : List Nat) : res1 τ γ (Cm.sc t) (Cm.sc t) = True := by cases t <;> simp [Cm.sc, res1, PV.weak]
theorem wkC_int (β τ : List (Nat × Nat)) (em : List Nat) (q : PV) (k : IntKind) (n : Int) : wkC β τ em q (.int k n) = (q.weak = .int k n) := rfl
theorem wkC_bool (β τ : List (Nat × Nat)) (em : List Nat) (q : PV) (b : Bool) : wkC β τ em q (.bool b) = (q.weak = .bool b) := rfl
theorem wkC_sl (β τ : List (Nat × Nat)) (em : List Nat) (q : PV) (z : Nat) (l : List PV) : wkC β τ em q (.sl z l) = (q.weak = .sl z l) := rfl
theorem wkC_any (β τ : List (Nat × Nat)) (em : List Nat) (q : PV) : wkC β τ em q .any = True := rfl
theorem wkC_nilm (β τ : List (Nat × Nat)) (em : List Nat) (q : PV) : wkC β τ em q .nilm = (q.weak = .nilm) := rfl
/-- A window to be made. -/
structure Wd where
  c : UInt8
  u : UInt8
def Wd.pv (w : Wd) : PV := .agg [.int .u8 w.c.toNat, .int .u8 w.u.toNat]
def wdL (l : List Wd) : List PV := l.map Wd.pv
/-- A selection. -/
structure Sl where
  c : UInt8
  o : UInt8
  m : Int
def Sl.pv (w : Sl) : PV := .agg [.int .u8 w.c.toNat, .int .u8 w.o.toNat, .int .i64 w.m]
def slL (l : List Sl) : List PV := l.map Sl.pv
def us (l : List Int) : List PV := l.map (PV.int .u32 ·)
theorem wdL_length (l : List Wd) : (wdL l).length = l.length := List.length_map _
theorem slL_length (l : List Sl) : (slL l).length = l.length := List.length_map _
theorem us_length (l : List Int) : (us l).length = l.length := List.length_map _
def wd0 : Wd := ⟨0, 0⟩
def sl0' : Sl := ⟨0, 0, 0⟩
theorem wd_at {X : List Wd} {i : Nat} (h : i < X.length) : (wdL X).getD i PV.any = (X.getD i wd0).pv := by
  rw [wdL, List.getD_eq_getElem?_getD, List.getElem?_map, List.getElem?_eq_getElem h, List.getD_eq_getElem?_getD, List.getElem?_eq_getElem h]; rfl
theorem sl_at {X : List Sl} {i : Nat} (h : i < X.length) : (slL X).getD i PV.any = (X.getD i sl0').pv := by
  rw [slL, List.getD_eq_getElem?_getD, List.getElem?_map, List.getElem?_eq_getElem h, List.getD_eq_getElem?_getD, List.getElem?_eq_getElem h]; rfl
theorem us_at {X : List Int} {i : Nat} (h : i < X.length) : (us X).getD i PV.any = .int .u32 (X.getD i 0) := by
  rw [us, List.getD_eq_getElem?_getD, List.getElem?_map, List.getElem?_eq_getElem h, List.getD_eq_getElem?_getD, List.getElem?_eq_getElem h]; rfl
theorem us_app (a : List Int) (x : Int) : us a ++ [.int .u32 x] = us (a ++ [x]) := by simp [us]
/-- One window more. -/
def Wd.id (w : Wd) (n : Nat) : Int := ((w.c.toNat % 3 : Nat) + 1 : Int) * 1048576 + n
def Wd.up (w : Wd) (ids : List Int) : Int := ids.getD (w.u.toNat % ids.length) 0
def wstep (a : Tm × List Int) (w : Wd) : Tm × List Int := (a.1.add (w.id a.2.length) (w.up a.2), a.2 ++ [w.id a.2.length])
def madeW (l : List Wd) : Tm × List Int := l.foldl wstep (.nil, [1])
def cstep (ids : List Int) (c : Cm) (x : Sl) : Cm := (c.set ((x.c.toNat % 3 : Nat) + 1) (ids.getD (x.o.toNat % ids.length) 0) x.m).1
def madeC (ids : List Int) (s : List Sl) : Cm := s.foldl (cstep ids) .nil
theorem madeW_sn (l : List Wd) (w : Wd) : madeW (l ++ [w]) = wstep (madeW l) w := by simp [madeW]
theorem madeC_sn (ids : List Int) (l : List Sl) (w : Sl) : madeC ids (l ++ [w]) = cstep ids (madeC ids l) w := by simp [madeC]
theorem take_sn {α : Type} {X : List α} {i : Nat} (d : α) (h : i < X.length) : X.take (i + 1) = X.take i ++ [X.getD i d] := by
  rw [List.take_succ_eq_append_getElem h, List.getD_eq_getElem?_getD, List.getElem?_eq_getElem h]; rfl
/-- What holds of the windows that are made. -/
structure WOk (n : Nat) (a : Tm × List Int) : Prop where
  t : TmOk a.1
  l : a.2.length = n + 1
  h : ∀ p ∈ a.2, a.1.has p = true
  r : ∀ p ∈ a.2, 1 ≤ p ∧ p < 4294967296 ∧ (clS p).2 = true ∧ (p ≠ 1 → 1 ≤ (clS p).1 ∧ (clS p).1 ≤ 8) 
  k : ∀ x ∈ a.1.ups, x.1 % 1048576 ≤ n ∧ 1048576 ≤ x.1
  v : ∀ x ∈ a.1.ups, x.2 ∈ a.2
  un : a.1.ups.length ≤ n
  j : ∀ x ∈ a.1.kds, x.2 < n
theorem wid_r (w : Wd) (n : Nat) (hn : n < 100) (h0 : 0 < n) : 1048576 ≤ w.id n ∧ w.id n < 4294967296 ∧ (clS (w.id n)).2 = true ∧ 1 ≤ (clS (w.id n)).1 ∧ (clS (w.id n)).1 ≤ 8 ∧ w.id n % 1048576 = n ∧ (clS (w.id n)).1 = (w.c.toNat % 3 : Nat) + 1 := by
  have h3 : w.c.toNat % 3 < 3 := Nat.mod_lt _ (by decide)
  generalize hk : w.c.toNat % 3 = k at *
  have hid : w.id n = ((k : Nat) + 1 : Int) * 1048576 + n := by rw [Wd.id, hk]
  have h4 : w.id n / 1048576 = k + 1 := by rw [hid]; omega
  have h5 : w.id n % 1048576 = n := by rw [hid]; omega
  have hc : clS (w.id n) = ((k : Int) + 1, true) := by
    rw [clS, if_neg (by rw [hid]; omega), if_neg, h4]
    rw [h4, h5]
    rintro (h | h)
    · omega
    · simp [isCl] at h; omega
  rw [hc]
  refine ⟨by rw [hid]; omega, by rw [hid]; omega, rfl, by simp only; omega, by simp only; omega, h5, rfl⟩
theorem getU_none {m : List (Int × Int)} {k : Int} (h : ∀ x ∈ m, x.1 ≠ k) : getU m k = none := by
  induction m with
  | nil => rfl
  | cons x m ih =>
    rw [getU, if_neg (fun e => h x (by simp) e.symm)]
    exact ih (fun y hy => h y (List.mem_cons_of_mem _ hy))
theorem getU_some {m : List (Int × Int)} {k p : Int} (h : getU m k = some p) : (k, p) ∈ m := by
  induction m with
  | nil => cases h
  | cons x m ih =>
    rw [getU] at h
    split at h
    · rename_i e; cases h; subst e; exact List.mem_cons_self ..
    · exact List.mem_cons_of_mem _ (ih h)
theorem getU_set (m : List (Int × Int)) (k v i : Int) : getU (setU m k v) i = if i = k then some v else getU m i := by
  rw [setU, getU]
  split
  · rfl
  · rename_i hne
    induction m with
    | nil => rfl
    | cons x m ih =>
      rw [List.filter_cons]
      split
      · rw [getU, getU, ih]
      · rename_i h
        simp at h
        rw [getU, if_neg (by rw [← h]; exact hne), ih]
theorem mem_setU {m : List (Int × Int)} {k v : Int} {x : Int × Int} (h : x ∈ setU m k v) : x = (k, v) ∨ x ∈ m := by
  rcases List.mem_cons.1 h with h | h
  · exact .inl h
  · exact .inr (List.mem_filter.1 h).1
theorem mem_setJ {m : List (Int × Nat)} {k : Int} {v : Nat} {x : Int × Nat} (h : x ∈ setJ m k v) : x = (k, v) ∨ x ∈ m := by
  rcases List.mem_cons.1 h with h | h
  · exact .inl h
  · exact .inr (List.mem_filter.1 h).1
theorem getJ_le {m : List (Int × Nat)} {n : Nat} (h : ∀ x ∈ m, x.2 < n) (k : Int) : getJ m k ≤ n := by
  induction m with
  | nil => simp [getJ]
  | cons x m ih =>
    simp only [getJ]
    split
    · have := h x (by simp); omega
    · exact ih (fun y hy => h y (List.mem_cons_of_mem _ hy))
theorem setU_nodup {m : List (Int × Int)} (h : (m.map Prod.fst).Nodup) (k v : Int) : ((setU m k v).map Prod.fst).Nodup := by
  rw [setU, List.map_cons, List.nodup_cons]
  refine ⟨fun hm => ?_, (List.filter_sublist.map _).nodup h⟩
  obtain ⟨x, hx, e⟩ := List.mem_map.1 hm
  have := (List.mem_filter.1 hx).2
  rw [e] at this
  simp at this
theorem setJ_nodup {m : List (Int × Nat)} (h : (m.map Prod.fst).Nodup) (k : Int) (v : Nat) : ((setJ m k v).map Prod.fst).Nodup := by
  rw [setJ, List.map_cons, List.nodup_cons]
  refine ⟨fun hm => ?_, (List.filter_sublist.map _).nodup h⟩
  obtain ⟨x, hx, e⟩ := List.mem_map.1 hm
  have := (List.mem_filter.1 hx).2
  rw [e] at this
  simp at this
theorem wok0 : WOk 0 (.nil, [1]) := by
  refine ⟨⟨by simp [Tm.kds], by simp [Tm.ups], by simp [Tm.kds]⟩, rfl, ?_, ?_, by simp [Tm.ups], by simp [Tm.ups], by simp [Tm.ups], by simp [Tm.kds]⟩
  · intro p hp
    simp at hp; subst hp
    simp [Tm.has]
  · intro p hp
    simp at hp; subst hp
    exact ⟨by decide, by decide, by decide, fun h => absurd rfl h⟩
theorem up_mem (w : Wd) {ids : List Int} (h : 0 < ids.length) : w.up ids ∈ ids := by
  have hl : w.u.toNat % ids.length < ids.length := Nat.mod_lt _ h
  rw [Wd.up, List.getD_eq_getElem?_getD, List.getElem?_eq_getElem hl]
  exact List.getElem_mem hl
theorem new_id {n : Nat} {a : Tm × List Int} (h : WOk n a) (hn : n < 50) (w : Wd) : a.1.has (w.id a.2.length) = false := by
  have hr := wid_r w a.2.length (by rw [h.l]; omega) (by rw [h.l]; omega)
  have hg : getU a.1.ups (w.id a.2.length) = none := getU_none (fun x hx e => by
    have := h.k x hx
    rw [e, hr.2.2.2.2.2.1, h.l] at this
    omega)
  rw [Tm.has, hg]
  simp
  omega
theorem wok_step {n : Nat} {a : Tm × List Int} (h : WOk n a) (hn : n < 50) (w : Wd) : WOk (n + 1) (wstep a w) := by
  have hr := wid_r w a.2.length (by rw [h.l]; omega) (by rw [h.l]; omega)
  have hl := h.l
  have hj := getJ_le h.j (w.up a.2)
  have hus : (wstep a w).1.ups = setU a.1.ups (w.id a.2.length) (w.up a.2) := rfl
  have hks : (wstep a w).1.kds = setJ a.1.kds (w.up a.2) (getJ a.1.kds (w.up a.2)) := rfl
  have hid : (wstep a w).2 = a.2 ++ [w.id a.2.length] := rfl
  have hhas : ∀ p, (wstep a w).1.has p = (decide (p = w.id a.2.length) || a.1.has p) := by
    intro p
    rw [Tm.has, hus, getU_set, Tm.has]
    by_cases e : p = w.id a.2.length
    · simp [e]
    · simp [e]
  refine ⟨⟨by rw [hks]; exact setJ_nodup h.t.k _ _, by rw [hus]; exact setU_nodup h.t.u _ _, ?_⟩, by rw [hid, List.length_append, hl]; rfl, ?_, ?_, ?_, ?_, ?_, ?_⟩
  · rw [hks]
    intro x hx
    rcases mem_setJ hx with rfl | hx
    · show getJ _ _ < 100; omega
    · have := h.j x hx; omega
  · rw [hid]
    intro p hp
    rw [hhas]
    rcases List.mem_append.1 hp with hp | hp
    · rw [h.h p hp]; simp
    · simp at hp; simp [hp]
  · rw [hid]
    intro p hp
    rcases List.mem_append.1 hp with hp | hp
    · exact h.r p hp
    · simp at hp; subst hp
      exact ⟨by omega, hr.2.1, hr.2.2.1, fun _ => ⟨hr.2.2.2.1, hr.2.2.2.2.1⟩⟩
  · rw [hus]
    intro x hx
    rcases mem_setU hx with rfl | hx
    · refine ⟨?_, hr.1⟩
      show w.id a.2.length % 1048576 ≤ _
      rw [hr.2.2.2.2.2.1, hl]; omega
    · have := h.k x hx; omega
  · rw [hus, hid]
    intro x hx
    rcases mem_setU hx with rfl | hx
    · exact List.mem_append_left _ (up_mem w (by rw [hl]; omega))
    · exact List.mem_append_left _ (h.v x hx)
  · rw [hus]
    have h1 := h.un
    have h2 : (setU a.1.ups (w.id a.2.length) (w.up a.2)).length ≤ a.1.ups.length + 1 := by
      rw [setU, List.length_cons]
      have := List.length_filter_le (fun x : Int × Int => !decide (w.id a.2.length = x.1)) a.1.ups
      omega
    omega
  · rw [hks]
    intro x hx
    rcases mem_setJ hx with rfl | hx
    · show getJ _ _ < _; omega
    · have := h.j x hx; omega
theorem wok : ∀ (n : Nat) (l : List Wd), l.length = n → n < 50 → WOk n (madeW l)
  | 0, l, h, _ => by rw [List.length_eq_zero_iff.1 h]; exact wok0
  | n + 1, l, h, hn => by
    obtain ⟨l', w, rfl⟩ : ∃ l' w, l = l' ++ [w] := ⟨l.dropLast, l.getLast (by intro e; rw [e] at h; cases h), (List.dropLast_concat_getLast _).symm⟩
    rw [madeW_sn]
    exact wok_step (wok n l' (by simpa using h) (by omega)) (by omega) w
end Go.Proofs.Sh

/- The law's function made. -/
set_option maxRecDepth 100000
set_option linter.unusedSimpArgs false
set_option linter.unusedVariables false
namespace Go.Proofs.Sh
open Go.Pv
theorem new_fs : Fsp Tryd.prog 21 [] 0 [] [] 0 (.agg [.nilm, .nilm]) := by
  (refine Fsp.ofs (nx := 0) mixed Tryd.func21 rfl (by simp [Tryd.f21]) ?_; simp -implicitDefEqProofs only [push_cast, Tryd.f21, seval])
  all_goals (first | done | rfl | exact ⟨_, rfl, by simp [wkL, res2, res1, PV.weak, PV.el]⟩ | (simp [wkL, res2, res1, PV.weak, PV.el]; done))
def madeR (l : List Wd) (s : List Sl) : PV := if l.length ≤ 12 ∧ s.length ≤ 12 then .tup [(madeW l).1.pv, .sl 1 (us (madeW l).2), (madeC (madeW l).2 s).pv, .bool true] else .tup [.agg [.nilm, .nilm], .sl 1 (us [1]), .agg [.nilm, .nilm], .bool false]
theorem madeNo_fs (l : List Wd) (s : List Sl) (hl : l.length < 1000000000000001) (hs : s.length < 1000000000000001) (h : ¬ (l.length ≤ 12 ∧ s.length ≤ 12)) : Fsp Tryd.prog 9 [] 0 [.sl 2 (wdL l), .sl 3 (slL s)] [] 1 (.tup [.agg [.nilm, .nilm], .slt 1 (us [1]) 0, .agg [.nilm, .nilm], .bool false]) := by
  have hn := new_fs
  cases k1 : decide ((12 : Int) < (l.length : Int)) <;> cases k2 : decide ((12 : Int) < (s.length : Int))
  · exact absurd (by simp at k1 k2; omega) h
  · (refine Fsp.ofs (nx := 0) mixed Tryd.func9 rfl (by simp [Tryd.f9]) ?_; simp -implicitDefEqProofs only [push_cast, Tryd.f9, seval])
    refine callE_p hn ?_
    simp -implicitDefEqProofs only [push_cast, wdL_length, slL_length, k1, k2, seval]
    refine ⟨by (unfold drawOk; kernel_rfl), ?_⟩
    exact endK_toks [28] rfl rfl (by simp [PS.lv, lkp_hit, lkp_miss, lkp_nil]) ⟨by simp [resOk, PS.get, PS.obj, lkp_hit, lkp_miss, lkp_nil, PS.ev, ldPV, ldOk, ofC, ofC1, TK.isAgg, PV.cnd, tk_29, tsz_29, tk_34, tsz_34, us], by simp [resPV, PS.get, PS.obj, lkp_hit, lkp_miss, lkp_nil, PS.ev, ldPV, ldOk, ofC, ofC1, TK.isAgg, PV.cnd, tk_29, tsz_29, tk_34, tsz_34, us], by simp [resOf, resPV, one', res3, res2, res1, PV.weak, PV.el, wkL, idx, PV.un, PS.get, PS.obj, lkp_hit, lkp_miss, lkp_nil, PS.ev, ldPV, ldOk, ofC, ofC1, TK.isAgg, PV.cnd, tk_29, tsz_29, tk_34, tsz_34, us]⟩
  · (refine Fsp.ofs (nx := 0) mixed Tryd.func9 rfl (by simp [Tryd.f9]) ?_; simp -implicitDefEqProofs only [push_cast, Tryd.f9, seval])
    refine callE_p hn ?_
    simp -implicitDefEqProofs only [push_cast, wdL_length, slL_length, k1, k2, seval]
    refine ⟨by (unfold drawOk; kernel_rfl), ?_⟩
    exact endK_toks [28] rfl rfl (by simp [PS.lv, lkp_hit, lkp_miss, lkp_nil]) ⟨by simp [resOk, PS.get, PS.obj, lkp_hit, lkp_miss, lkp_nil, PS.ev, ldPV, ldOk, ofC, ofC1, TK.isAgg, PV.cnd, tk_29, tsz_29, tk_34, tsz_34, us], by simp [resPV, PS.get, PS.obj, lkp_hit, lkp_miss, lkp_nil, PS.ev, ldPV, ldOk, ofC, ofC1, TK.isAgg, PV.cnd, tk_29, tsz_29, tk_34, tsz_34, us], by simp [resOf, resPV, one', res3, res2, res1, PV.weak, PV.el, wkL, idx, PV.un, PS.get, PS.obj, lkp_hit, lkp_miss, lkp_nil, PS.ev, ldPV, ldOk, ofC, ofC1, TK.isAgg, PV.cnd, tk_29, tsz_29, tk_34, tsz_34, us]⟩
  · (refine Fsp.ofs (nx := 0) mixed Tryd.func9 rfl (by simp [Tryd.f9]) ?_; simp -implicitDefEqProofs only [push_cast, Tryd.f9, seval])
    refine callE_p hn ?_
    simp -implicitDefEqProofs only [push_cast, wdL_length, slL_length, k1, k2, seval]
    refine ⟨by (unfold drawOk; kernel_rfl), ?_⟩
    exact endK_toks [28] rfl rfl (by simp [PS.lv, lkp_hit, lkp_miss, lkp_nil]) ⟨by simp [resOk, PS.get, PS.obj, lkp_hit, lkp_miss, lkp_nil, PS.ev, ldPV, ldOk, ofC, ofC1, TK.isAgg, PV.cnd, tk_29, tsz_29, tk_34, tsz_34, us], by simp [resPV, PS.get, PS.obj, lkp_hit, lkp_miss, lkp_nil, PS.ev, ldPV, ldOk, ofC, ofC1, TK.isAgg, PV.cnd, tk_29, tsz_29, tk_34, tsz_34, us], by simp [resOf, resPV, one', res3, res2, res1, PV.weak, PV.el, wkL, idx, PV.un, PS.get, PS.obj, lkp_hit, lkp_miss, lkp_nil, PS.ev, ldPV, ldOk, ofC, ofC1, TK.isAgg, PV.cnd, tk_29, tsz_29, tk_34, tsz_34, us]⟩
theorem up_facts (n : Nat) (hn : n < 256) (ids : List Int) (h : 0 < ids.length) : IntKind.i64.wrap (n : Int) = (n : Int) ∧ Int.tmod (n : Int) (ids.length : Int) = (n : Int) % (ids.length : Int) ∧ us ids ≠ [] ∧
    (us ids).getD ((n : Int) % (ids.length : Int)).toNat PV.any = .int .u32 (ids.getD (n % ids.length) 0) ∧ 0 ≤ (n : Int) % (ids.length : Int) ∧ (n : Int) % (ids.length : Int) < ids.length := by
  have hml : n % ids.length < ids.length := Nat.mod_lt _ h
  have hc : (n : Int) % (ids.length : Int) = ((n % ids.length : Nat) : Int) := (Int.natCast_emod _ _).symm
  refine ⟨wrap_i64_id (by omega) (by omega), Int.tmod_eq_emod_of_nonneg (by omega), ?_, ?_, by rw [hc]; omega, by rw [hc]; omega⟩
  · intro e
    have := congrArg List.length e
    rw [us_length] at this
    simp at this
    rw [this] at h
    exact absurd h (by decide)
  · rw [hc, Int.toNat_natCast]; exact us_at hml
theorem id_facts (w : Wd) (i : Nat) (h : i < 50) : Int.tmod (w.c.toNat : Int) 3 = (w.c.toNat : Int) % 3 ∧ IntKind.i64.wrap ((w.c.toNat : Int) % 3) = (w.c.toNat : Int) % 3 ∧
    IntKind.i64.wrap ((w.c.toNat : Int) % 3 + 1) = (w.c.toNat : Int) % 3 + 1 ∧ IntKind.i64.wrap (((w.c.toNat : Int) % 3 + 1) * 1048576) = ((w.c.toNat : Int) % 3 + 1) * 1048576 ∧
    IntKind.i64.wrap (((w.c.toNat : Int) % 3 + 1) * 1048576 + (i : Int)) = ((w.c.toNat : Int) % 3 + 1) * 1048576 + (i : Int) ∧
    IntKind.i64.wrap (((w.c.toNat : Int) % 3 + 1) * 1048576 + (i : Int) + 1) = ((w.c.toNat : Int) % 3 + 1) * 1048576 + (i : Int) + 1 ∧
    IntKind.u32.wrap (((w.c.toNat : Int) % 3 + 1) * 1048576 + (i : Int) + 1) = w.id (i + 1) := by
  have a0 : Int.tmod (w.c.toNat : Int) 3 = (w.c.toNat : Int) % 3 := Int.tmod_eq_emod_of_nonneg (by omega)
  have hid : w.id (i + 1) = ((w.c.toNat : Int) % 3 + 1) * 1048576 + (i : Int) + 1 := by rw [Wd.id]; omega
  refine ⟨a0, ?_⟩
  rw [hid]
  have k0 : 0 ≤ (w.c.toNat : Int) % 3 := by omega
  have k3 : (w.c.toNat : Int) % 3 < 3 := by omega
  clear a0 hid
  generalize (w.c.toNat : Int) % 3 = k at *
  exact ⟨wrap_i64_id (by omega) (by omega), wrap_i64_id (by omega) (by omega), wrap_i64_id (by omega) (by omega), wrap_i64_id (by omega) (by omega), wrap_i64_id (by omega) (by omega), wrap_u32_id (by omega) (by omega)⟩
structure M1 (l : List Wd) where
  i : Nat
  h : i ≤ l.length
def M1.st (l : List Wd) (s : List Sl) (a : M1 l) : PS := { n := 110, env := [(35, .int .i64 a.i), (34, .int .i64 l.length), (33, .sl 2 (wdL l)), (10, .box 10 0), (9, .slt 1 (us (madeW (l.take a.i)).2) 50), (8, .box 8 0), (7, .bool false), (6, .box 6 0), (5, .nilsl), (4, .box 4 0), (1, .sl 3 (slL s))], objs := [(4, some [.nilm, .nilm]), (6, some [.nilm, .nilm]), (8, some [(madeW (l.take a.i)).1.kc, (madeW (l.take a.i)).1.uc]), (10, some [.nilm, .nilm])], live := [(50, true)], nxt := 60 }
theorem madeC_0 (ids : List Int) : madeC ids [] = .nil := rfl
theorem mc_nil : Cm.nil.mc = .nilm := rfl
theorem sc_nil : Cm.nil.sc = .nilm := rfl
theorem sel_mem (n : Nat) {ids : List Int} (h : 0 < ids.length) : ids.getD (n % ids.length) 0 ∈ ids := by
  have hl : n % ids.length < ids.length := Nat.mod_lt _ h
  rw [List.getD_eq_getElem?_getD, List.getElem?_eq_getElem hl]
  exact List.getElem_mem hl
theorem set_ne {c : Cm} {cl i m : Int} (h : (c.set cl i m).2 ≠ 0) : (c.set cl i m).1 = c := by
  unfold Cm.set at h ⊢
  split
  · rename_i h1
    rw [if_pos h1] at h
    split
    · rfl
    · rename_i h2
      rw [if_neg h2] at h
      exact absurd rfl h
  · rfl
theorem madeC_ok {n : Nat} {t : Tm} {ids : List Int} (hw : WOk n (t, ids)) (s : List Sl) (hs : s.length < 900) : CmOk (madeC ids s) ∧ (madeC ids s).ms.length ≤ s.length := by
  have : ∀ (k : Nat) (s : List Sl), s.length = k → k < 900 → CmOk (madeC ids s) ∧ (madeC ids s).ms.length ≤ s.length := by
    intro k
    induction k with
    | zero =>
      intro s h _
      rw [List.length_eq_zero_iff.1 h]
      exact ⟨⟨by simp [madeC, Cm.ms], by simp [madeC, Cm.ms], by simp [madeC, Cm.ms]⟩, by simp [madeC, Cm.ms]⟩
    | succ k ih =>
      intro s h hk
      obtain ⟨s', x, rfl⟩ : ∃ s' x, s = s' ++ [x] := ⟨s.dropLast, s.getLast (by intro e; rw [e] at h; cases h), (List.dropLast_concat_getLast _).symm⟩
      have hl : s'.length = k := by simpa using h
      obtain ⟨h1, h2⟩ := ih s' hl (by omega)
      rw [madeC_sn]
      have hil : ids.length = n + 1 := hw.l
      have hr := hw.r _ (sel_mem x.o.toNat (ids := ids) (by omega))
      have := h1.set (cl := ((x.c.toNat % 3 : Nat) : Int) + 1) (i := ids.getD (x.o.toNat % ids.length) 0) (m := x.m) (by omega) ⟨by omega, hr.2.1⟩ (by omega)
      refine ⟨this.1, ?_⟩
      have h3 := this.2
      rw [List.length_append]
      exact Nat.le_trans h3 (by simp; exact h2)
  exact this s.length s rfl hs
structure M2 (s : List Sl) where
  i : Nat
  h : i ≤ s.length
def M2.st (t : Tm) (ids : List Int) (s : List Sl) (a : M2 s) : PS := { n := 110, env := [(78, .int .i64 a.i), (77, .int .i64 s.length), (76, .sl 3 (slL s)), (10, .box 10 0), (9, .slt 1 (us ids) 50), (8, .box 8 0), (7, .bool false), (6, .box 6 0), (5, .nilsl), (4, .box 4 0)], objs := [(4, some [.nilm, .nilm]), (6, some [.nilm, .nilm]), (8, some [t.kc, t.uc]), (10, some [(madeC ids (s.take a.i)).mc, (madeC ids (s.take a.i)).sc])], live := [(50, true)], nxt := 80 }
set_option maxHeartbeats 4000000 in
theorem madeOk_fs (l : List Wd) (s : List Sl) (hl : l.length ≤ 12) (hs : s.length ≤ 12) : Fsp Tryd.prog 9 [] 0 [.sl 2 (wdL l), .sl 3 (slL s)] [] 1 (.tup [(madeW l).1.pv, .slt 1 (us (madeW l).2) 0, (madeC (madeW l).2 s).pv, .bool true]) := by
  have hn := new_fs
  have k1 : decide ((12 : Int) < (l.length : Int)) = false := by (simp; omega)
  have k2 : decide ((12 : Int) < (s.length : Int)) = false := by (simp; omega)
  (refine Fsp.ofs (nx := 0) mixed Tryd.func9 rfl (by simp [Tryd.f9]) ?_; simp -implicitDefEqProofs only [push_cast, Tryd.f9, seval])
  refine callE_p hn ?_
  simp -implicitDefEqProofs only [push_cast, wdL_length, slL_length, k1, k2, seval]
  refine loopC_of (α := M1 l) (M1.st l s) (fun a => l.length - a.i) ⟨0, by omega⟩ ?_ ?_
  · (simp only [M1.st, List.take_zero]; exact Wk.at _ _ _ [(4, 0), (6, 8), (8, 20), (10, 36)] [(50, 28)] [] (by simp) (by simp [wkV, PV.el, PV.weak, PS.get, PS.obj, PS.lv, lkp_hit, lkp_miss, lkp_nil, lko, wkL, wkC, res1, madeW, Tm.kc, Tm.uc, us]) (by simp [PS.get, PS.obj, PS.lv, lkp_hit, lkp_miss, lkp_nil, lko, wkL, wkC, PV.weak, wkL, wkC, res1, madeW, Tm.kc, Tm.uc, us]))
  · rintro ⟨i, hi⟩
    simp only [M1.st]
    simp -implicitDefEqProofs only [push_cast, wdL_length, seval]
    refine condC_split (fun g1 => ?_) (fun g1 => ?_)
    · have hlt : i < l.length := by simp at g1; omega
      have hwi : IntKind.i64.wrap ((i : Int) + 1) = ((i + 1 : Nat) : Int) := by (rw [wrap_i64_id (by omega) (by omega)]; rfl)
      have hg := wd_at hlt
      have hsn := take_sn wd0 hlt
      have hw := wok i (l.take i) (by rw [List.length_take]; omega) (by omega)
      have hm := madeW_sn (l.take i) (l.getD i wd0)
      rw [← hsn] at hm
      have hi50 : i < 50 := by omega
      generalize l.getD i wd0 = w at *
      generalize madeW (l.take i) = a at *
      obtain ⟨t, ids⟩ := a
      have hil : ids.length = i + 1 := hw.l
      have hil0 : 0 < ids.length := by rw [hil]; exact Nat.succ_pos i
      have hil1 : ids.length < 100 := by rw [hil]; exact Nat.lt_of_le_of_lt hi50 (by decide)
      have hnew : t.has (w.id ids.length) = false := new_id hw hi50 w
      have hum : w.up ids ∈ ids := up_mem w hil0
      have hr := wid_r w ids.length hil1 hil0
      have hadd := add_fs t (w.id ids.length) (w.up ids) hw.t (Int.lt_of_lt_of_le (by decide) hr.1) hr.2.1 hr.2.2.1 hnew (hw.h _ hum) (Nat.lt_of_le_of_lt hw.un (Nat.lt_trans hi50 (by decide)))
      clear hr hnew hum
      obtain ⟨u1, u2, u3, hgu, s0, s1⟩ := up_facts w.u.toNat w.u.toNat_lt ids hil0
      rw [show ids.getD (w.u.toNat % ids.length) 0 = w.up ids from rfl] at hgu
      obtain ⟨a0, a1, a2, a3, a4, a5, a6⟩ := id_facts w i hi50
      rw [← hil] at a6
      rw [Wd.pv] at hg
      rw [Tm.pv] at hadd
      simp -implicitDefEqProofs only [push_cast, hg, wdL_length, us_length, u1, u2, hgu, a0, a1, a2, a3, a4, a5, a6, Tm.kc_weak, Tm.kc_cells, Tm.kc_one, Tm.kc_back1, Tm.kc_tok1, Tm.uc_weak, Tm.uc_cells, Tm.uc_one, Tm.uc_back1, Tm.uc_tok1, Cm.mc_weak, Cm.mc_cells, Cm.mc_one, Cm.mc_back1, Cm.mc_tok1, Cm.sc_weak, Cm.sc_cells, Cm.sc_one, Cm.sc_back1, Cm.sc_tok1, seval]
      refine ⟨Int.ofNat_lt.2 hlt, (by intro e; rw [Int.natCast_eq_zero] at e; rw [e] at hil0; exact absurd hil0 (by decide)), s0, s1, ?_⟩
      refine callE_pure hadd (by rfl) (by rfl) (by first | rfl | simp -implicitDefEqProofs only [push_cast, Tm.kc_weak, Tm.kc_tok1, Tm.uc_weak, Tm.uc_tok1, Cm.mc_weak, Cm.mc_tok1, Cm.sc_weak, Cm.sc_tok1, seval]) (by decide) (by first | rfl | simp -implicitDefEqProofs only [push_cast, Tm.kc_weak, Tm.kc_tok1, Tm.uc_weak, Tm.uc_tok1, Cm.mc_weak, Cm.mc_tok1, Cm.sc_weak, Cm.sc_tok1, seval]) (fun _ => by first | rfl | simp -implicitDefEqProofs only [push_cast, Tm.kc_weak, Tm.kc_tok1, Tm.uc_weak, Tm.uc_tok1, Cm.mc_weak, Cm.mc_tok1, Cm.sc_weak, Cm.sc_tok1, seval]) (by first | rfl | simp [gdOk, newToks]) ?_
      simp -implicitDefEqProofs only [push_cast, Tm.kc_weak, Tm.kc_cells, Tm.kc_one, Tm.kc_back1, Tm.kc_tok1, Tm.uc_weak, Tm.uc_cells, Tm.uc_one, Tm.uc_back1, Tm.uc_tok1, Cm.mc_weak, Cm.mc_cells, Cm.mc_one, Cm.mc_back1, Cm.mc_tok1, Cm.sc_weak, Cm.sc_cells, Cm.sc_one, Cm.sc_back1, Cm.sc_tok1, Tm.pv, us_length, us_app, hwi, seval]
      refine ⟨by (unfold drawOk; kernel_rfl), ?_⟩
      refine ⟨Nat.le_trans (Nat.le_of_lt hil1) (by decide), Nat.le_trans (Nat.mul_le_mul_right 4 (show ids.length + 1 ≤ 100 from hil1)) (by decide), ?_⟩
      refine ⟨by (unfold drawOk; kernel_rfl), ?_⟩
      refine ⟨⟨i + 1, hlt⟩, Nat.sub_lt_sub_left hlt (Nat.lt_succ_self i), ?_⟩
      (simp only [M1.st, hm, wstep]; exact Wk.at _ _ _ [(4, 4), (6, 6), (8, 8), (10, 10)] [(50, 228)] [] (by simp) (by simp [wkV, PV.el, PV.weak, PS.get, PS.obj, PS.lv, lkp_hit, lkp_miss, lkp_nil, lko, wkL, res1, Tm.kc_wkC, Tm.kc_weak, Tm.uc_wkC, Tm.uc_weak, Cm.mc_wkC, Cm.mc_weak, Cm.sc_wkC, Cm.sc_weak]) (by simp [PS.get, PS.obj, PS.lv, lkp_hit, lkp_miss, lkp_nil, lko, wkL, wkC_int, wkC_bool, wkC_sl, wkC_any, wkC_nilm, PV.weak, wkL, res1, Tm.kc_wkC, Tm.kc_weak, Tm.uc_wkC, Tm.uc_weak, Cm.mc_wkC, Cm.mc_weak, Cm.sc_wkC, Cm.sc_weak]))
    · have hie : i = l.length := by simp at g1; omega
      subst hie
      rw [List.take_length]
      have hw := wok l.length l rfl (Nat.lt_of_le_of_lt hl (by decide))
      generalize madeW l = a at *
      obtain ⟨t, ids⟩ := a
      have hil : ids.length = l.length + 1 := hw.l
      simp -implicitDefEqProofs only [push_cast, slL_length, seval]
      refine loopC_of (α := M2 s) (M2.st t ids s) (fun a => s.length - a.i) ⟨0, Nat.zero_le _⟩ ?_ ?_
      · (simp only [M2.st, List.take_zero, madeC_0, mc_nil, sc_nil]; exact Wk.at _ _ _ [(4, 4), (6, 6), (8, 8), (10, 10)] [(50, 50)] [] (by simp) (by simp [wkV, PV.el, PV.weak, PS.get, PS.obj, PS.lv, lkp_hit, lkp_miss, lkp_nil, lko, wkL, res1, Tm.kc_wkC, Tm.kc_weak, Tm.uc_wkC, Tm.uc_weak, Cm.mc_wkC, Cm.mc_weak, Cm.sc_wkC, Cm.sc_weak]) (by simp [PS.get, PS.obj, PS.lv, lkp_hit, lkp_miss, lkp_nil, lko, wkL, wkC_int, wkC_bool, wkC_sl, wkC_any, wkC_nilm, PV.weak, wkL, res1, Tm.kc_wkC, Tm.kc_weak, Tm.uc_wkC, Tm.uc_weak, Cm.mc_wkC, Cm.mc_weak, Cm.sc_wkC, Cm.sc_weak]))
      · rintro ⟨i, hi⟩
        simp only [M2.st]
        simp -implicitDefEqProofs only [push_cast, slL_length, seval]
        refine condC_split (fun g1 => ?_) (fun g1 => ?_)
        · have hlt : i < s.length := by simp at g1; omega
          have hwi : IntKind.i64.wrap ((i : Int) + 1) = ((i + 1 : Nat) : Int) := by (rw [wrap_i64_id (by omega) (by omega)]; rfl)
          have hg := sl_at hlt
          have hsn := take_sn sl0' hlt
          have hi50 : i < 50 := by omega
          have hm := madeC_sn ids (s.take i) (s.getD i sl0')
          rw [← hsn] at hm
          have hok := madeC_ok hw (s.take i) (by rw [List.length_take]; omega)
          generalize s.getD i sl0' = x at *
          generalize madeC ids (s.take i) = c at *
          have hil0 : 0 < ids.length := by rw [hil]; exact Nat.succ_pos _
          obtain ⟨u1, u2, u3, hgu, s0, s1⟩ := up_facts x.o.toNat x.o.toNat_lt ids hil0
          obtain ⟨a0, a1, a2, -, -, -, -⟩ := id_facts ⟨x.c, x.o⟩ 0 (by decide)
          simp only at a0 a1 a2
          have hcl : 1 ≤ (x.c.toNat : Int) % 3 + 1 ∧ (x.c.toNat : Int) % 3 + 1 ≤ 8 := by omega
          have hmem := sel_mem x.o.toNat hil0
          have hidr := hw.r _ hmem
          have hset := set_fs c hok.1 ((x.c.toNat : Int) % 3 + 1) (ids.getD (x.o.toNat % ids.length) 0) x.m hcl ⟨by omega, hidr.2.1⟩
          rw [cstep, show ((x.c.toNat % 3 : Nat) : Int) + 1 = (x.c.toNat : Int) % 3 + 1 by omega] at hm
          have hne := set_ne (c := c) (cl := (x.c.toNat : Int) % 3 + 1) (i := ids.getD (x.o.toNat % ids.length) 0) (m := x.m)
          clear hidr hmem hcl
          generalize ids.getD (x.o.toNat % ids.length) 0 = p at *
          generalize c.set ((x.c.toNat : Int) % 3 + 1) p x.m = ce at *
          obtain ⟨c', er⟩ := ce
          rw [Sl.pv] at hg
          simp only [Cm.pv] at hset hne hm
          simp -implicitDefEqProofs only [push_cast, hg, slL_length, us_length, u1, u2, hgu, a0, a1, a2, Tm.kc_weak, Tm.kc_cells, Tm.kc_one, Tm.kc_back1, Tm.kc_tok1, Tm.uc_weak, Tm.uc_cells, Tm.uc_one, Tm.uc_back1, Tm.uc_tok1, Cm.mc_weak, Cm.mc_cells, Cm.mc_one, Cm.mc_back1, Cm.mc_tok1, Cm.sc_weak, Cm.sc_cells, Cm.sc_one, Cm.sc_back1, Cm.sc_tok1, seval]
          refine ⟨Int.ofNat_lt.2 hlt, (by intro e; rw [Int.natCast_eq_zero] at e; rw [e] at hil0; exact absurd hil0 (by decide)), s0, s1, ?_⟩
          refine callE_pure hset (by rfl) (by rfl) (by first | rfl | simp -implicitDefEqProofs only [push_cast, Tm.kc_weak, Tm.kc_tok1, Tm.uc_weak, Tm.uc_tok1, Cm.mc_weak, Cm.mc_tok1, Cm.sc_weak, Cm.sc_tok1, seval]) (by decide) (by first | rfl | simp -implicitDefEqProofs only [push_cast, Tm.kc_weak, Tm.kc_tok1, Tm.uc_weak, Tm.uc_tok1, Cm.mc_weak, Cm.mc_tok1, Cm.sc_weak, Cm.sc_tok1, seval]) (fun _ => by first | rfl | simp -implicitDefEqProofs only [push_cast, Tm.kc_weak, Tm.kc_tok1, Tm.uc_weak, Tm.uc_tok1, Cm.mc_weak, Cm.mc_tok1, Cm.sc_weak, Cm.sc_tok1, seval]) (by first | rfl | simp [gdOk, newToks]) ?_
          simp -implicitDefEqProofs only [push_cast, Tm.kc_weak, Tm.kc_cells, Tm.kc_one, Tm.kc_back1, Tm.kc_tok1, Tm.uc_weak, Tm.uc_cells, Tm.uc_one, Tm.uc_back1, Tm.uc_tok1, Cm.mc_weak, Cm.mc_cells, Cm.mc_one, Cm.mc_back1, Cm.mc_tok1, Cm.sc_weak, Cm.sc_cells, Cm.sc_one, Cm.sc_back1, Cm.sc_tok1, seval]
          refine ⟨by (unfold drawOk; kernel_rfl), ?_⟩
          refine condC_split (fun g1 => ?_) (fun g1 => ?_)
          · simp -implicitDefEqProofs only [push_cast, hwi, seval]
            refine ⟨⟨i + 1, hlt⟩, Nat.sub_lt_sub_left hlt (Nat.lt_succ_self i), ?_⟩
            (simp only [M2.st, hm]; exact Wk.at _ _ _ [(4, 4), (6, 6), (8, 8), (10, 10)] [(50, 50)] [] (by simp) (by simp [wkV, PV.el, PV.weak, PS.get, PS.obj, PS.lv, lkp_hit, lkp_miss, lkp_nil, lko, wkL, res1, Tm.kc_wkC, Tm.kc_weak, Tm.uc_wkC, Tm.uc_weak, Cm.mc_wkC, Cm.mc_weak, Cm.sc_wkC, Cm.sc_weak]) (by simp [PS.get, PS.obj, PS.lv, lkp_hit, lkp_miss, lkp_nil, lko, wkL, wkC_int, wkC_bool, wkC_sl, wkC_any, wkC_nilm, PV.weak, wkL, res1, Tm.kc_wkC, Tm.kc_weak, Tm.uc_wkC, Tm.uc_weak, Cm.mc_wkC, Cm.mc_weak, Cm.sc_wkC, Cm.sc_weak]))
          · have he : c' = c := hne (by intro e; rw [e] at g1; cases g1)
            subst he
            simp -implicitDefEqProofs only [push_cast, hwi, seval]
            refine ⟨⟨i + 1, hlt⟩, Nat.sub_lt_sub_left hlt (Nat.lt_succ_self i), ?_⟩
            (simp only [M2.st, hm]; exact Wk.at _ _ _ [(4, 4), (6, 6), (8, 8), (10, 10)] [(50, 50)] [] (by simp) (by simp [wkV, PV.el, PV.weak, PS.get, PS.obj, PS.lv, lkp_hit, lkp_miss, lkp_nil, lko, wkL, res1, Tm.kc_wkC, Tm.kc_weak, Tm.uc_wkC, Tm.uc_weak, Cm.mc_wkC, Cm.mc_weak, Cm.sc_wkC, Cm.sc_weak]) (by simp [PS.get, PS.obj, PS.lv, lkp_hit, lkp_miss, lkp_nil, lko, wkL, wkC_int, wkC_bool, wkC_sl, wkC_any, wkC_nilm, PV.weak, wkL, res1, Tm.kc_wkC, Tm.kc_weak, Tm.uc_wkC, Tm.uc_weak, Cm.mc_wkC, Cm.mc_weak, Cm.sc_wkC, Cm.sc_weak]))
        · have hie : i = s.length := by simp at g1; omega
          subst hie
          rw [List.take_length]
          simp -implicitDefEqProofs only [push_cast, seval]
          refine ⟨by (unfold drawOk; kernel_rfl), ?_⟩
          generalize madeC ids s = c at *
          cases t <;> cases c
          all_goals
            simp only [Tm.pv, Cm.pv, Tm.kc, Tm.uc, Cm.mc, Cm.sc]
            exact endK_toks [50] rfl rfl (by simp [PS.lv, lkp_hit, lkp_miss, lkp_nil]) ⟨by simp [resOk, PS.get, PS.obj, lkp_hit, lkp_miss, lkp_nil, PS.ev, ldPV, ldOk, ofC, ofC1, TK.isAgg, PV.cnd, tk_29, tsz_29, tk_34, tsz_34], by simp [resPV, PS.get, PS.obj, lkp_hit, lkp_miss, lkp_nil, PS.ev, ldPV, ldOk, ofC, ofC1, TK.isAgg, PV.cnd, tk_29, tsz_29, tk_34, tsz_34], by simp [resOf, resPV, one', res3, res2, res1, PV.weak, PV.el, wkL, idx, PV.un, PS.get, PS.obj, lkp_hit, lkp_miss, lkp_nil, PS.ev, ldPV, ldOk, ofC, ofC1, TK.isAgg, PV.cnd, tk_29, tsz_29, tk_34, tsz_34]⟩
theorem tup_el {g : Gh} {v : Value} {ps : List PV} (r : Rel g v (.tup ps)) : PRel g.h v (.tup (ps.map PV.el)) := by
  obtain ⟨vs, rfl, hn, hp⟩ := r.tup_inv
  refine .tup vs _ (by rw [hn, List.length_map]) (fun i u p hu hq => ?_)
  rw [List.getElem?_map] at hq
  obtain ⟨q, hq', rfl⟩ := Option.map_eq_some_iff.1 hq
  exact (hp i u q hu hq').el
theorem pv_el (t : Tm) : t.pv.el = t.pv := by cases t <;> rfl
theorem cpv_el (c : Cm) : c.pv.el = c.pv := by cases c <;> rfl
theorem made_fs (l : List Wd) (s : List Sl) (hl : l.length < 1000000000000001) (hs : s.length < 1000000000000001) : Fsp Tryd.prog 9 [] 0 [.sl 2 (wdL l), .sl 3 (slL s)] [] 0 (madeR l s) := by
  unfold madeR
  split
  · rename_i h
    refine (madeOk_fs l s h.1 h.2).say fun g v r => ?_
    have := tup_el r
    rwa [List.map_cons, List.map_cons, List.map_cons, List.map_cons, List.map_nil, pv_el, cpv_el] at this
  · rename_i h
    refine (madeNo_fs l s hl hs h).say fun g v r => ?_
    exact tup_el r
end Go.Proofs.Sh

/- The law's example. -/
set_option maxRecDepth 100000
set_option linter.unusedSimpArgs false
set_option linter.unusedVariables false
namespace Go.Proofs.Sh
open Go.Pv
theorem awake_fs : Fsp Tryd.prog 10 [] 0 [] [] 0 (.bool true) := by
  have hm := made_fs [⟨1, 0⟩] [⟨0, 0, 2048⟩] (by decide) (by decide)
  have e1 : madeW [⟨1, 0⟩] = (.mk [(1, 0)] [(2097153, 1)], [1, 2097153]) := by kernel_rfl
  have e2 : madeC [1, 2097153] [⟨0, 0, 2048⟩] = .mk [((1, 1), 2048)] := by kernel_rfl
  rw [madeR, if_pos (by decide), e1] at hm
  simp only [e2] at hm
  have hc : CmOk (.mk [((1, 1), 2048)]) := ⟨by decide, by decide, by decide⟩
  have hof1 := of_fs .nilm .nilsl (.inl ⟨rfl, rfl⟩) (.mk [(1, 0)] [(2097153, 1)]) (.mk [((1, 1), 2048)]) hc false 1 2097153 (mayT_nil 1 2097153) (by decide) (by decide) (by decide) (by decide)
  have hof2 := of_fs .nilm .nilsl (.inl ⟨rfl, rfl⟩) (.mk [(1, 0)] [(2097153, 1)]) (.mk [((1, 1), 2048)]) hc false 1 1 (mayT_nil 1 1) (by decide) (by decide) (by decide) (by decide)
  have e3 : ofS (.mk [(1, 0)] [(2097153, 1)]) (.mk [((1, 1), 2048)]) false 1 2097153 = ⟨false, false, true, false, false⟩ := by kernel_rfl
  have e4 : ofS (.mk [(1, 0)] [(2097153, 1)]) (.mk [((1, 1), 2048)]) false 1 1 = ⟨false, true, true, false, false⟩ := by kernel_rfl
  rw [e3] at hof1
  rw [e4] at hof2
  have hy1 := may_fs 3 ⟨false, false, true, false, false⟩
  have hy2 := may_fs 5 ⟨false, false, true, false, false⟩
  have hy3 := may_fs 56 ⟨false, true, true, false, false⟩
  have hy4 := may_fs 28 ⟨false, false, true, false, false⟩
  rw [show mayS (ruS 3) ⟨false, false, true, false, false⟩ = true by decide] at hy1
  rw [show mayS (ruS 5) ⟨false, false, true, false, false⟩ = true by decide] at hy2
  rw [show mayS (ruS 56) ⟨false, true, true, false, false⟩ = true by decide] at hy3
  rw [show mayS (ruS 28) ⟨false, false, true, false, false⟩ = false by decide] at hy4
  simp only [Tm.pv, Tm.kc, Tm.uc, Cm.pv, Cm.mc, Cm.sc, Fa.pv, wdL, slL, us, Wd.pv, Sl.pv, List.map_cons, List.map_nil] at *
  (refine Fsp.ofs (nx := 0) mixed Tryd.func10 rfl (by simp [Tryd.f10]) ?_; simp -implicitDefEqProofs only [push_cast, Tryd.f10, seval])
  refine callE_p hm ?_
  simp -implicitDefEqProofs only [push_cast, seval]
  refine callE_p hof1 ?_
  simp -implicitDefEqProofs only [push_cast, seval]
  refine callE_p hof2 ?_
  simp -implicitDefEqProofs only [push_cast, seval]
  refine ⟨by (unfold drawOk; kernel_rfl), ?_⟩
  simp -implicitDefEqProofs only [push_cast, fa_eq, fa_kt, fa_eg, seval]
  refine callE_p hy1 ?_
  simp -implicitDefEqProofs only [push_cast, seval]
  refine callE_p hy2 ?_
  simp -implicitDefEqProofs only [push_cast, seval]
  refine callE_p hy3 ?_
  simp -implicitDefEqProofs only [push_cast, seval]
  refine callE_p hy4 ?_
  simp -implicitDefEqProofs only [push_cast, seval]
  trace_state
end Go.Proofs.Sh
