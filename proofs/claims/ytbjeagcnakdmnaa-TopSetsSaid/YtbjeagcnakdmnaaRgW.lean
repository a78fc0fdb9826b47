/- Package band: the region of any rectangles. -/
import Derived.Test.YtbjeagcnakdmnaaPvYa
import Derived.Test.YtbjeagcnakdmnaaRgT
import Derived.Test.YtbjeagcnakdmnaaPvXf
set_option maxRecDepth 100000
set_option linter.unusedSimpArgs false
set_option linter.unusedVariables false
namespace Go.Proofs.Sh
open Go.Pv
open Rg
theorem sort_nil : Fsp Try.prog 24 [] 0 [.nilsl, .fn 25 []] [] 0 (.tup []) := ranIs mixed (noCl_ok _) (wbf := fun _ => false) (n := 20) (d := 6) (by kernel_rfl)
theorem clip_nil : Fsp Try.prog 34 [] 0 [.nilsl] [] 0 (.sl 4 (rts [])) := (clip_fs [] (by decide)).nils ⟨.inl (.inr ⟨rfl, 4, rfl⟩), trivial⟩
theorem edges_nil : Fsp Try.prog 28 [] 0 [.nilsl] [[]] 0 (.slg 0 0 1) := by
  have h1 := sortI_fs [] (by decide)
  have h2 := compI_fs [] (by decide)
  rw [List.mergeSort_nil] at h1
  rw [show Lib.compactUpTo [].toArray [].length = ([] : List Int) from rfl] at h2
  rw [show ics [] = [] from rfl] at h1 h2
  (refine Fsp.ofs (nx := 0) mixed Try.func28 rfl (by simp [Try.f28]) ?_; simp -implicitDefEqProofs only [push_cast, Try.f28, seval])
  (repeat (first | refine ⟨(by omega : _ ≤ _), ?_⟩ | refine ⟨(by omega : _ < _), ?_⟩ | refine ⟨by (unfold drawOk; kernel_rfl), ?_⟩ | refine ⟨(by simp; done), ?_⟩ | refine ⟨(by simp; omega), ?_⟩))
  refine loopC_un 1 ?_
  simp -implicitDefEqProofs only [push_cast, seval]
  refine callE_box h1 [16] [] (by rfl) (by rfl) (by rfl) (by rfl) (by rfl) (by rfl) (fun i j cs h1 h2 => by (rcases i with _ | _ | _ | i <;> simp at h1 h2 <;> (subst h1; subst h2; exact ⟨_, rfl, (by first | exact rcs_cell _ _ _ | exact ics_cell _ _ _ | exact (by (repeat' (first | exact wkL_nil | refine wkL_cons ?_ ?_)); all_goals (first | exact .inl ⟨_, _, _, _, rfl, rfl, rfl⟩ | exact .inr (.inr (.inr (.inr (.inl ⟨_, _, _, rfl, rfl, rfl⟩)))) | exact .inr (.inr (.inr (.inr (.inr (.inl ⟨_, _, _, _, rfl, rfl, rfl⟩))))) | exact .inr (.inr (.inr (.inr (.inr (.inr ⟨_, _, rfl, rfl, rfl⟩))))) | exact .inr (.inl rfl) | exact .inr (.inr (.inl ⟨_, _, _, rfl, rfl, rfl⟩)))) | exact (by (repeat' (first | exact wkL_nil | refine wkL_cons ?_ ?_)); all_goals (first | exact .inr (.inl rfl) | exact .inr (.inr (.inl ⟨_, _, _, rfl, rfl, rfl⟩)) | exact .inr (.inr (.inr (.inl ⟨_, _, _, _, _, rfl, rfl, rfl⟩))) | exact .inr (.inr (.inr (.inr (.inr (.inr (.inr ⟨_, _, _, _, rfl, rfl, rfl⟩)))))))))⟩))) (by simp [PS.lv, lkp_hit, lkp_miss, lkp_nil]) (by (repeat' (first | exact wkL_nil | refine wkL_cons ?_ ?_)); all_goals (first | exact .inl ⟨_, _, _, rfl, rfl, rfl⟩ | exact .inr (.inl rfl) | exact .inr (.inr (.inl ⟨_, _, _, _, rfl, rfl, rfl⟩)) | exact .inr (.inr (.inr (.inl ⟨_, _, _, rfl, rfl, rfl, (wkL_get (by (repeat' (first | exact wkL_nil | refine wkL_cons ?_ ?_)); all_goals (first | exact .inl ⟨_, _, _, rfl, rfl, rfl⟩ | exact .inr rfl))).2⟩))) | exact .inr (.inr (.inr (.inr (.inr (.inr (.inl ⟨_, _, _, _, rfl, rfl, rfl⟩)))))) | exact .inr (.inr (.inr (.inr (.inr (.inr (.inr ⟨_, _, _, _, _, rfl, rfl, rfl⟩)))))))) (by decide) (by simp) (by rfl) (by (repeat' (first | exact tok_nil | refine tok_cons ?_ ?_)); all_goals (first | exact rcs_tok _ _ _ _ | exact ics_tok _ _ _ _ | (simp [tokLt1]; done))) (fun _ => by rfl) (by first | rfl | simp [gdOk, newToks]) ?_
  simp -implicitDefEqProofs only [push_cast, seval]
  refine callE_box h2 [16] [] (by rfl) (by rfl) (by rfl) (by rfl) (by rfl) (by rfl) (fun i j cs h1 h2 => by (rcases i with _ | _ | _ | i <;> simp at h1 h2 <;> (subst h1; subst h2; exact ⟨_, rfl, (by first | exact rcs_cell _ _ _ | exact ics_cell _ _ _ | exact (by (repeat' (first | exact wkL_nil | refine wkL_cons ?_ ?_)); all_goals (first | exact .inl ⟨_, _, _, _, rfl, rfl, rfl⟩ | exact .inr (.inr (.inr (.inr (.inl ⟨_, _, _, rfl, rfl, rfl⟩)))) | exact .inr (.inr (.inr (.inr (.inr (.inl ⟨_, _, _, _, rfl, rfl, rfl⟩))))) | exact .inr (.inr (.inr (.inr (.inr (.inr ⟨_, _, rfl, rfl, rfl⟩))))) | exact .inr (.inl rfl) | exact .inr (.inr (.inl ⟨_, _, _, rfl, rfl, rfl⟩)))) | exact (by (repeat' (first | exact wkL_nil | refine wkL_cons ?_ ?_)); all_goals (first | exact .inr (.inl rfl) | exact .inr (.inr (.inl ⟨_, _, _, rfl, rfl, rfl⟩)) | exact .inr (.inr (.inr (.inl ⟨_, _, _, _, _, rfl, rfl, rfl⟩))) | exact .inr (.inr (.inr (.inr (.inr (.inr (.inr ⟨_, _, _, _, rfl, rfl, rfl⟩)))))))))⟩))) (by simp [PS.lv, lkp_hit, lkp_miss, lkp_nil]) (by (repeat' (first | exact wkL_nil | refine wkL_cons ?_ ?_)); all_goals (first | exact .inl ⟨_, _, _, rfl, rfl, rfl⟩ | exact .inr (.inl rfl) | exact .inr (.inr (.inl ⟨_, _, _, _, rfl, rfl, rfl⟩)) | exact .inr (.inr (.inr (.inl ⟨_, _, _, rfl, rfl, rfl, (wkL_get (by (repeat' (first | exact wkL_nil | refine wkL_cons ?_ ?_)); all_goals (first | exact .inl ⟨_, _, _, rfl, rfl, rfl⟩ | exact .inr rfl))).2⟩))) | exact .inr (.inr (.inr (.inr (.inr (.inr (.inl ⟨_, _, _, _, rfl, rfl, rfl⟩)))))) | exact .inr (.inr (.inr (.inr (.inr (.inr (.inr ⟨_, _, _, _, _, rfl, rfl, rfl⟩)))))))) (by decide) (by simp) (by rfl) (by (repeat' (first | exact tok_nil | refine tok_cons ?_ ?_)); all_goals (first | exact rcs_tok _ _ _ _ | exact ics_tok _ _ _ _ | (simp [tokLt1]; done))) (fun _ => by rfl) (by first | rfl | simp [gdOk, newToks]) ?_
  simp -implicitDefEqProofs only [push_cast, seval]
  exact endK_box [] [16] rfl rfl (by simp [PS.lv, lkp_hit, lkp_miss, lkp_nil]) rfl rfl (by rfl) (fun i j ps h1 h2 => by (rcases i with _ | i <;> simp at h1 h2 <;> (subst h1; subst h2; exact ⟨_, rfl, (by first | exact rcs_res _ _ _ | exact ics_res _ _ _ | exact (by (repeat' (first | exact wkL_nil | refine wkL_cons ?_ ?_)); all_goals (first | rfl | exact ⟨rfl, rfl⟩ | exact ⟨rfl, rfl, rfl⟩ | exact .inl rfl)))⟩))) ⟨by simp [resOk, PS.get, lkp_hit, lkp_miss, PS.ev], by simp [resPV, PS.get, lkp_hit, lkp_miss, PS.ev], by simp [resOf, resPV, one', res3, res2, res1, PS.get, lkp_hit, lkp_miss, PS.ev, PV.weak, PV.el, wkL]⟩
def cntL (L : List Rt) : List Rt := L.filter cntB
theorem cntL_bnd (L : List Rt) : Bnd (cntL L) := fun r h => (List.mem_filter.1 h).2
theorem cntL_snoc (L : List Rt) (r : Rt) : cntL (L ++ [r]) = if cntB r = true then cntL L ++ [r] else cntL L := by
  unfold cntL
  rw [List.filter_append]
  by_cases h : cntB r = true
  · rw [if_pos h]; simp [h]
  · rw [if_neg h]; simp [h]
structure AnA (L : List Rt) where
  k : Nat
  hk : k ≤ L.length
def AnA.st (L : List Rt) (a : AnA L) : PS := { n := 134, env := [(20, .int .i64 a.k), (19, .int .i64 L.length), (18, .sl 4 (rts L)), (3, .nilsl), (2, .box 0 0)], objs := [(0, some [.nilsl])], live := [], nxt := 60 }
theorem ofN_fs (L : List Rt) (hL : ∀ r ∈ L, RtIn r) (hl : L.length ≤ 4398046511104) (h0 : cntL L = []) : Fsp Try.prog 5 [] 0 [.sl 4 (rts L)] [] 0 (rgn []) := by
  have hn : ∀ r ∈ L, cntB r = false := fun r hr => by
    cases c : cntB r with
    | false => rfl
    | true =>
      have : r ∈ cntL L := List.mem_filter.2 ⟨hr, c⟩
      rw [h0] at this
      cases this
  have hE := edges_nil
  have hC := clip_nil
  have hS := sort_nil
  (refine Fsp.ofs (nx := 0) mixed Try.func5 rfl (by simp [Try.f5]) ?_; simp -implicitDefEqProofs only [push_cast, Try.f5, rts_length, seval])
  refine loopC_of (α := AnA L) (AnA.st L) (fun a => L.length - a.k) ⟨0, Nat.zero_le _⟩ ?_ ?_
  · (simp only [AnA.st]; exact Wk.by _ _ _ [(0,0)] [] [] (by simp) (by simp [wkV, PV.el, PV.weak, PS.get, PS.obj, PS.lv, lkp_hit, lkp_miss, lkp_nil, lko, wkL, wkC, res1, rcs_wk, ics_wk]) (by simp [PS.get, PS.obj, PS.lv, lkp_hit, lkp_miss, lkp_nil, lko, wkL, wkC, PV.weak, wkL, wkC, res1, rcs_wk, ics_wk]) (by simp [PS.get, PS.obj, PS.lv, lkp_hit, lkp_miss, lkp_nil, lko]) (by rfl) (by rfl) (by simp [lko]) (by simp) (by simp) (by simp) (fun i hi => by rcases i with _ | _ | _ | _ | _ | _ | i <;> first | rfl | (exfalso; omega)))
  rintro ⟨k, hk⟩
  simp only [AnA.st]
  simp -implicitDefEqProofs only [push_cast, rts_length, seval]
  refine condC_split (fun g1 => ?_) (fun g1 => ?_)
  · have hlt : k < L.length := by simp at g1; omega
    have hu := wr_up (k := k) (by omega)
    have ha := rt_at hlt
    have hc := counts_fs L[k] (hL _ (List.getElem_mem hlt))
    rw [hn _ (List.getElem_mem hlt)] at hc
    simp -implicitDefEqProofs only [push_cast, rts_length, ha, rpv, rc, seval]
    (repeat (first | refine ⟨(by omega : _ ≤ _), ?_⟩ | refine ⟨(by omega : _ < _), ?_⟩ | refine ⟨(by simp; omega), ?_⟩ | refine ⟨(by simp; done), ?_⟩ | refine ⟨(by (unfold drawOk; kernel_rfl)), ?_⟩))
    refine callE_p hc ?_
    simp -implicitDefEqProofs only [push_cast, hu, seval]
    refine ⟨⟨k + 1, hlt⟩, by simp only; omega, ?_⟩
    (simp only [AnA.st]; exact Wk.by _ _ _ [(0,0)] [] [] (by simp) (by simp [wkV, PV.el, PV.weak, PS.get, PS.obj, PS.lv, lkp_hit, lkp_miss, lkp_nil, lko, wkL, wkC, res1, rcs_wk, ics_wk]) (by simp [PS.get, PS.obj, PS.lv, lkp_hit, lkp_miss, lkp_nil, lko, wkL, wkC, PV.weak, wkL, wkC, res1, rcs_wk, ics_wk]) (by simp [PS.get, PS.obj, PS.lv, lkp_hit, lkp_miss, lkp_nil, lko]) (by rfl) (by rfl) (by simp [lko]) (by simp) (by simp) (by simp) (fun i hi => by rcases i with _ | _ | _ | _ | _ | _ | i <;> first | rfl | (exfalso; omega)))
  · simp -implicitDefEqProofs only [push_cast, seval]
    refine callE_p hS ?_
    simp -implicitDefEqProofs only [push_cast, seval]
    refine callE_new hE (by rfl) (by rfl) (by rfl) (by first | decide | simp) (by first | decide | simp) (by rfl) (by simp [tokLt1]) (fun _ => by rfl) (by first | rfl | simp [gdOk, newToks]) ?_
    simp -implicitDefEqProofs only [push_cast, zipB, upto, List.cons_append, List.nil_append, seval]
    refine loopC_un 1 ?_
    simp -implicitDefEqProofs only [push_cast, seval]
    refine callE_p hC ?_
    simp -implicitDefEqProofs only [push_cast, rgn, seval]

def alS (g : Bool) (n : Nat) : PV := match g with
  | true => .nilsl
  | false => .slg 1 n 4
def alB (g : Bool) (acc : List Rt) : List (Nat × Option (List PV)) := match g with
  | true => []
  | false => [(1, some (rcs acc))]
structure AlA (L : List Rt) where
  g : Bool
  k : Nat
  acc : List Rt
  hk : k ≤ L.length
  ha : acc = cntL (L.take k)
  hg : g = true → acc = []
def AlA.st (L : List Rt) (a : AlA L) : PS := { n := 134, env := [(20, .int .i64 a.k), (19, .int .i64 L.length), (18, .sl 4 (rts L)), (3, alS a.g a.acc.length), (2, .box 0 0)], objs := (0, some [.nilsl]) :: alB a.g a.acc, live := [], nxt := 60 }
def ofQ (A : List Rt) (ys : List Int) : PS := { n := 134, env := [(10, .int .i64 0), (9, .int .i64 0), (8, .nilsl), (7, .box 1 0), (6, .slg 3 ys.length 1), (3, .slg 2 A.length 4), (2, .box 0 0)], objs := [(0, some [.nilsl]), (1, some [.nilsl]), (2, some (rcs A)), (3, some (ics ys))], live := [], nxt := 6 }
theorem ofQ_wk (A : List Rt) (ys : List Int) (hA : A ≠ []) (hy : ys ≠ []) : Wk 0 (ofQ A ys) (ofP A ys) := by
  have h2 : A.length * 4 ≤ (rcs A).length := by rw [rcs_length]; exact Nat.le_refl _
  have h3 : ys.length * 1 ≤ (ics ys).length := by rw [ics_length]; omega
  have f3 := frzR hA
  have f4 := frzI hy
  refine Wk.trans (Wk.frz (id := 2) (ps := rcs A) (by simp [ofQ, PS.obj, lkp_hit, lkp_miss]) (Nat.zero_le _)) ?_
  simp only [ofQ, PS.frz, frEnv, frObjs, List.map_cons, List.map_nil, Option.map_some, fz_int, fz_sl, fz_nilsl, fz_box _ _ _ _ (show (1 : Nat) ≠ 2 by decide), fz_box _ _ _ _ (show (0 : Nat) ≠ 2 by decide), fz_slg' _ _ _ _ _ (show (3 : Nat) ≠ 2 by decide), f1_nilsl, fz_slg _ _ _ _ h2, f3]
  have hm : List.map (frz1 2 (rcs A)) (ics ys) = ics ys := by
    conv => rhs; rw [← List.map_id (ics ys)]
    exact List.map_congr_left fun p h => by obtain ⟨n, rfl⟩ := ics_int h; rfl
  rw [hm]
  refine Wk.trans (Wk.frz (id := 3) (ps := ics ys) (by simp [PS.obj, lkp_hit, lkp_miss]) (Nat.zero_le _)) ?_
  simp only [PS.frz, frEnv, frObjs, List.map_cons, List.map_nil, Option.map_some, Option.map_none, fz_int, fz_sl, fz_nilsl, fz_box _ _ _ _ (show (1 : Nat) ≠ 3 by decide), fz_box _ _ _ _ (show (0 : Nat) ≠ 3 by decide), f1_nilsl, fz_slg _ _ _ _ h3, f4]
  (simp only [ofP]; exact Wk.by _ _ _ [(0,0),(1,1)] [] [] (by simp) (by simp [wkV, PV.el, PV.weak, PS.get, PS.obj, PS.lv, lkp_hit, lkp_miss, lkp_nil, lko, wkL, wkC, res1, rcs_wk, ics_wk]) (by simp [PS.get, PS.obj, PS.lv, lkp_hit, lkp_miss, lkp_nil, lko, wkL, wkC, PV.weak, wkL, wkC, res1, rcs_wk, ics_wk]) (by simp [PS.get, PS.obj, PS.lv, lkp_hit, lkp_miss, lkp_nil, lko]) (by rfl) (by rfl) (by simp [lko]) (by simp) (by simp) (by simp) (fun i hi => by rcases i with _ | _ | _ | _ | _ | _ | i <;> first | rfl | (exfalso; omega)))
set_option maxHeartbeats 1000000 in
theorem of_fs (L : List Rt) (hL : ∀ r ∈ L, RtIn r) (hl : L.length ≤ 4398046511104) : Fsp Try.prog 5 [] 0 [.sl 4 (rts L)] [] 0 (rgn (cn (hasL (cntL L)))) := by
  by_cases h0 : cntL L = []
  · have h1 := ofN_fs L hL hl h0
    have h2 : cn (hasL (cntL L)) = [] := by
      rw [h0]
      have := cn_of (all := []) (fun r h => by cases h)
      rw [this]
      rfl
    rw [h2]
    exact h1
  have hle : (cntL L).length ≤ L.length := List.length_filter_le _ _
  have hS := sortYX_fs (cntL L) (by omega)
  have hperm := (srtBy_ok swo_YX (cntL L)).1
  have hcn : cn (hasL (cntL L)) = cn (hasL (srtYX (cntL L))) := cn_ext fun p q => by
    unfold hasL
    constructor
    · rintro ⟨r, hr, h⟩; exact ⟨r, hperm.mem_iff.2 hr, h⟩
    · rintro ⟨r, hr, h⟩; exact ⟨r, hperm.mem_iff.1 hr, h⟩
  rw [hcn]
  have hAl := srtYX_len (cntL L)
  have hAb : Bnd (srtYX (cntL L)) := fun r hr => cntL_bnd L r (hperm.mem_iff.1 hr)
  have hAy := srtYX_sy (cntL L)
  have hAn : srtYX (cntL L) ≠ [] := fun e => h0 (List.length_eq_zero_iff.1 (by rw [← hAl, e]; rfl))
  clear hperm hcn
  generalize srtYX (cntL L) = A at *
  have hE := edges_fs A hAb (by omega)
  have hyn : edg A ≠ [] := fun e => by have := edg_two hAb hAn; rw [e] at this; simp at this
  refine Fsp.of' (nx := 0) mixed Try.func5 rfl (by decide) (by exact Nat.le_refl _) (by simp [Try.f5]) ⟨by decide, by decide⟩ ?_
  refine PWP.cutV mixed 7 ?_
  have key : ∀ S, Wk 0 S (ofQ A (edg A)) → seqK (PWP Try.prog 0 (ofT Try.f5)) (retQ Try.prog 0 Try.f5.results.toList [] 0 (rgn (cn (hasL A)))) .normal S := fun S hw => PWP.weak (Wk.trans hw (ofQ_wk A (edg A) hAn hyn)) (ofL_fs A hAb hAy hAn (by omega))
  have e : ∀ c, Try.f5.body = some c → tailN 7 c = ofT Try.f5 := fun c hc => by unfold ofT; rw [hc]; rfl
  rw [e _ rfl]
  clear e
  show VC Try.prog 0 _ (seqK (PWP Try.prog 0 (ofT Try.f5)) (retQ Try.prog 0 Try.f5.results.toList [] 0 (rgn (cn (hasL A))))) _
  generalize seqK (PWP Try.prog 0 (ofT Try.f5)) (retQ Try.prog 0 Try.f5.results.toList [] 0 (rgn (cn (hasL A)))) = Q2 at *
  simp -implicitDefEqProofs only [push_cast, Try.f5, headN, rts_length, seval]
  refine loopC_of (α := AlA L) (AlA.st L) (fun a => L.length - a.k) ⟨true, 0, [], Nat.zero_le _, rfl, fun _ => rfl⟩ ?_ ?_
  · (simp only [AlA.st, alS, alB, List.nil_append]; exact Wk.by _ _ _ [(0,0)] [] [] (by simp) (by simp [wkV, PV.el, PV.weak, PS.get, PS.obj, PS.lv, lkp_hit, lkp_miss, lkp_nil, lko, wkL, wkC, res1, rcs_wk, ics_wk]) (by simp [PS.get, PS.obj, PS.lv, lkp_hit, lkp_miss, lkp_nil, lko, wkL, wkC, PV.weak, wkL, wkC, res1, rcs_wk, ics_wk]) (by simp [PS.get, PS.obj, PS.lv, lkp_hit, lkp_miss, lkp_nil, lko]) (by rfl) (by rfl) (by simp [lko]) (by simp) (by simp) (by simp) (fun i hi => by rcases i with _ | _ | _ | _ | _ | _ | i <;> first | rfl | (exfalso; omega)))
  rintro ⟨g, k, acc, hk, ha, hg⟩
  simp only [AlA.st]
  cases c1 : decide ((k : Int) < (L.length : Int)) with
  | true =>
    have hlt : k < L.length := by simp at c1; omega
    have hu := wr_up (k := k) (by omega)
    have hat := rt_at hlt
    have hc := counts_fs L[k] (hL _ (List.getElem_mem hlt))
    have hsn : cntL (L.take (k + 1)) = if cntB L[k] = true then acc ++ [L[k]] else acc := by rw [take_one hlt, cntL_snoc, ha]
    have hacl : acc.length ≤ k := by rw [ha]; exact Nat.le_trans (List.length_filter_le _ _) (by rw [List.length_take]; omega)
    simp -implicitDefEqProofs only [push_cast, rts_length, c1, hat, rpv, rc, seval]
    (repeat (first | refine ⟨(by omega : _ ≤ _), ?_⟩ | refine ⟨(by omega : _ < _), ?_⟩ | refine ⟨(by simp; omega), ?_⟩ | refine ⟨(by simp; done), ?_⟩ | refine ⟨(by (unfold drawOk; kernel_rfl)), ?_⟩))
    refine callE_p hc ?_
    cases hcb : cntB L[k] with
    | false =>
      rw [if_neg (by rw [hcb]; decide)] at hsn
      simp -implicitDefEqProofs only [push_cast, hu, seval]
      refine ⟨⟨g, k + 1, acc, hlt, hsn.symm, hg⟩, by simp only; omega, ?_⟩
      cases g with
      | true =>
        (simp only [AlA.st, alS, alB]; exact Wk.by _ _ _ [(0,0)] [] [] (by simp) (by simp [wkV, PV.el, PV.weak, PS.get, PS.obj, PS.lv, lkp_hit, lkp_miss, lkp_nil, lko, wkL, wkC, res1, rcs_wk, ics_wk]) (by simp [PS.get, PS.obj, PS.lv, lkp_hit, lkp_miss, lkp_nil, lko, wkL, wkC, PV.weak, wkL, wkC, res1, rcs_wk, ics_wk]) (by simp [PS.get, PS.obj, PS.lv, lkp_hit, lkp_miss, lkp_nil, lko]) (by rfl) (by rfl) (by simp [lko]) (by simp) (by simp) (by simp) (fun i hi => by rcases i with _ | _ | _ | _ | _ | _ | i <;> first | rfl | (exfalso; omega)))
      | false =>
        (simp only [AlA.st, alS, alB]; exact Wk.by _ _ _ [(0,0),(1,1)] [] [] (by simp) (by simp [wkV, PV.el, PV.weak, PS.get, PS.obj, PS.lv, lkp_hit, lkp_miss, lkp_nil, lko, wkL, wkC, res1, rcs_wk, ics_wk]) (by simp [PS.get, PS.obj, PS.lv, lkp_hit, lkp_miss, lkp_nil, lko, wkL, wkC, PV.weak, wkL, wkC, res1, rcs_wk, ics_wk]) (by simp [PS.get, PS.obj, PS.lv, lkp_hit, lkp_miss, lkp_nil, lko]) (by rfl) (by rfl) (by simp [lko]) (by simp) (by simp) (by simp) (fun i hi => by rcases i with _ | _ | _ | _ | _ | _ | i <;> first | rfl | (exfalso; omega)))
    | true =>
      rw [if_pos hcb] at hsn
      cases g with
      | true =>
        have hacc := hg rfl
        subst hacc
        simp only [alS, alB]
        simp -implicitDefEqProofs only [push_cast, hu, seval]
        refine ⟨⟨false, k + 1, [L[k]], hlt, by simpa using hsn.symm, fun h => by cases h⟩, by simp only; omega, ?_⟩
        have hC : rcs [L[k]] = [.int .i64 L[k].x, .int .i64 L[k].y, .int .i64 L[k].w, .int .i64 L[k].h] := rfl
        (simp only [AlA.st, alS, alB]; exact Wk.by _ _ _ [(0,0),(1,100)] [] [] (by simp) (by simp [wkV, PV.el, PV.weak, PS.get, PS.obj, PS.lv, lkp_hit, lkp_miss, lkp_nil, lko, wkL, wkC, res1, rcs_wk, ics_wk, hC, hu, PV.cells]) (by simp [PS.get, PS.obj, PS.lv, lkp_hit, lkp_miss, lkp_nil, lko, wkL, wkC, PV.weak, wkL, wkC, res1, rcs_wk, ics_wk, hC, hu, PV.cells]) (by simp [PS.get, PS.obj, PS.lv, lkp_hit, lkp_miss, lkp_nil, lko]) (by rfl) (by rfl) (by simp [lko]) (by simp) (by simp) (by simp) (fun i hi => by rcases i with _ | _ | _ | _ | _ | _ | i <;> first | rfl | (exfalso; omega)))
      | false =>
        simp only [alS, alB]
        simp -implicitDefEqProofs only [push_cast, hu, seval]
        (repeat (first | refine ⟨(by omega : _ ≤ _), ?_⟩ | refine ⟨(by omega : _ < _), ?_⟩ | refine ⟨(by simp; omega), ?_⟩ | refine ⟨(by simp; done), ?_⟩ | refine ⟨(by (unfold drawOk; kernel_rfl)), ?_⟩))
        refine ⟨by rw [rcs_length]; omega, by omega, by omega, ?_⟩
        refine ⟨⟨false, k + 1, acc ++ [L[k]], hlt, hsn.symm, fun h => by cases h⟩, by simp only; omega, ?_⟩
        have hC : List.take (acc.length * 4) (rcs acc) ++ [.int .i64 L[k].x, .int .i64 L[k].y, .int .i64 L[k].w, .int .i64 L[k].h] = rcs (acc ++ [L[k]]) := by rw [rcs_take, List.take_length, rcs_app]; rfl
        have hLn : (acc ++ [L[k]]).length = acc.length + 1 := by simp
        simp only [AlA.st]
        generalize acc ++ [L[k]] = R2 at *
        (simp only [AlA.st, alS, alB]; exact Wk.by _ _ _ [(0,0),(1,100)] [] [] (by simp) (by simp [wkV, PV.el, PV.weak, PS.get, PS.obj, PS.lv, lkp_hit, lkp_miss, lkp_nil, lko, wkL, wkC, res1, rcs_wk, ics_wk, hC, hLn, hu, PV.cells]) (by simp [PS.get, PS.obj, PS.lv, lkp_hit, lkp_miss, lkp_nil, lko, wkL, wkC, PV.weak, wkL, wkC, res1, rcs_wk, ics_wk, hC, hLn, hu, PV.cells]) (by simp [PS.get, PS.obj, PS.lv, lkp_hit, lkp_miss, lkp_nil, lko]) (by rfl) (by rfl) (by simp [lko]) (by simp) (by simp) (by simp) (fun i hi => by rcases i with _ | _ | _ | _ | _ | _ | i <;> first | rfl | (exfalso; omega)))
  | false =>
    have hke : k = L.length := by simp at c1; omega
    subst hke
    rw [List.take_length] at ha
    cases g with
    | true => exact absurd (ha.symm.trans (hg rfl)) h0
    | false =>
    subst ha
    simp only [alS, alB]
    simp -implicitDefEqProofs only [push_cast, c1, seval]
    refine callE_box hS [1] [] (by rfl) (by rfl) (by rfl) (by rfl) (by rfl) (by rfl) (fun i j cs h1 h2 => by (rcases i with _ | _ | _ | i <;> simp at h1 h2 <;> (subst h1; subst h2; exact ⟨_, rfl, (by first | exact rcs_cell _ _ _ | exact ics_cell _ _ _ | exact (by (repeat' (first | exact wkL_nil | refine wkL_cons ?_ ?_)); all_goals (first | exact .inl ⟨_, _, _, _, rfl, rfl, rfl⟩ | exact .inr (.inr (.inr (.inr (.inl ⟨_, _, _, rfl, rfl, rfl⟩)))) | exact .inr (.inr (.inr (.inr (.inr (.inl ⟨_, _, _, _, rfl, rfl, rfl⟩))))) | exact .inr (.inr (.inr (.inr (.inr (.inr ⟨_, _, rfl, rfl, rfl⟩))))) | exact .inr (.inl rfl) | exact .inr (.inr (.inl ⟨_, _, _, rfl, rfl, rfl⟩)))) | exact (by (repeat' (first | exact wkL_nil | refine wkL_cons ?_ ?_)); all_goals (first | exact .inr (.inl rfl) | exact .inr (.inr (.inl ⟨_, _, _, rfl, rfl, rfl⟩)) | exact .inr (.inr (.inr (.inl ⟨_, _, _, _, _, rfl, rfl, rfl⟩))) | exact .inr (.inr (.inr (.inr (.inr (.inr (.inr ⟨_, _, _, _, rfl, rfl, rfl⟩)))))))))⟩))) (by simp [PS.lv, lkp_hit, lkp_miss, lkp_nil]) (by (repeat' (first | exact wkL_nil | refine wkL_cons ?_ ?_)); all_goals (first | exact .inl ⟨_, _, _, rfl, rfl, rfl⟩ | exact .inr (.inl rfl) | exact .inr (.inr (.inl ⟨_, _, _, _, rfl, rfl, rfl⟩)) | exact .inr (.inr (.inr (.inl ⟨_, _, _, rfl, rfl, rfl, (wkL_get (by (repeat' (first | exact wkL_nil | refine wkL_cons ?_ ?_)); all_goals (first | exact .inl ⟨_, _, _, rfl, rfl, rfl⟩ | exact .inr rfl))).2⟩))) | exact .inr (.inr (.inr (.inr (.inr (.inr (.inl ⟨_, _, _, _, rfl, rfl, rfl⟩)))))) | exact .inr (.inr (.inr (.inr (.inr (.inr (.inr ⟨_, _, _, _, _, rfl, rfl, rfl⟩)))))))) (by decide) (by simp) (by rfl) (by (repeat' (first | exact tok_nil | refine tok_cons ?_ ?_)); all_goals (first | exact rcs_tok _ _ _ _ | exact ics_tok _ _ _ _ | (simp [tokLt1]; done))) (fun _ => by rfl) (by first | rfl | simp [gdOk, newToks]) ?_
    simp -implicitDefEqProofs only [push_cast, rcs_back, seval]
    rw [← hAl]
    refine callE_box hE [1] [] (by rfl) (by rfl) (by rfl) (by rfl) (by rfl) (by rfl) (fun i j cs h1 h2 => by (rcases i with _ | _ | _ | i <;> simp at h1 h2 <;> (subst h1; subst h2; exact ⟨_, rfl, (by first | exact rcs_cell _ _ _ | exact ics_cell _ _ _ | exact (by (repeat' (first | exact wkL_nil | refine wkL_cons ?_ ?_)); all_goals (first | exact .inl ⟨_, _, _, _, rfl, rfl, rfl⟩ | exact .inr (.inr (.inr (.inr (.inl ⟨_, _, _, rfl, rfl, rfl⟩)))) | exact .inr (.inr (.inr (.inr (.inr (.inl ⟨_, _, _, _, rfl, rfl, rfl⟩))))) | exact .inr (.inr (.inr (.inr (.inr (.inr ⟨_, _, rfl, rfl, rfl⟩))))) | exact .inr (.inl rfl) | exact .inr (.inr (.inl ⟨_, _, _, rfl, rfl, rfl⟩)))) | exact (by (repeat' (first | exact wkL_nil | refine wkL_cons ?_ ?_)); all_goals (first | exact .inr (.inl rfl) | exact .inr (.inr (.inl ⟨_, _, _, rfl, rfl, rfl⟩)) | exact .inr (.inr (.inr (.inl ⟨_, _, _, _, _, rfl, rfl, rfl⟩))) | exact .inr (.inr (.inr (.inr (.inr (.inr (.inr ⟨_, _, _, _, rfl, rfl, rfl⟩)))))))))⟩))) (by simp [PS.lv, lkp_hit, lkp_miss, lkp_nil]) (by (repeat' (first | exact wkL_nil | refine wkL_cons ?_ ?_)); all_goals (first | exact .inl ⟨_, _, _, rfl, rfl, rfl⟩ | exact .inr (.inl rfl) | exact .inr (.inr (.inl ⟨_, _, _, _, rfl, rfl, rfl⟩)) | exact .inr (.inr (.inr (.inl ⟨_, _, _, rfl, rfl, rfl, (wkL_get (by (repeat' (first | exact wkL_nil | refine wkL_cons ?_ ?_)); all_goals (first | exact .inl ⟨_, _, _, rfl, rfl, rfl⟩ | exact .inr rfl))).2⟩))) | exact .inr (.inr (.inr (.inr (.inr (.inr (.inl ⟨_, _, _, _, rfl, rfl, rfl⟩)))))) | exact .inr (.inr (.inr (.inr (.inr (.inr (.inr ⟨_, _, _, _, _, rfl, rfl, rfl⟩)))))))) (by decide) (by simp) (by rfl) (by (repeat' (first | exact tok_nil | refine tok_cons ?_ ?_)); all_goals (first | exact rcs_tok _ _ _ _ | exact ics_tok _ _ _ _ | (simp [tokLt1]; done))) (fun _ => by rfl) (by first | rfl | simp [gdOk, newToks]) ?_
    simp -implicitDefEqProofs only [push_cast, rcs_back, ics_back, seval]
    refine key _ ?_
    (simp only [ofQ, zipB, upto, List.cons_append, List.nil_append]; exact Wk.by _ _ _ [(0,0),(1,84),(2,1),(3,76)] [] [] (by simp) (by simp [wkV, PV.el, PV.weak, PS.get, PS.obj, PS.lv, lkp_hit, lkp_miss, lkp_nil, lko, wkL, wkC, res1, rcs_wk, ics_wk]) (by simp [PS.get, PS.obj, PS.lv, lkp_hit, lkp_miss, lkp_nil, lko, wkL, wkC, PV.weak, wkL, wkC, res1, rcs_wk, ics_wk]) (by simp [PS.get, PS.obj, PS.lv, lkp_hit, lkp_miss, lkp_nil, lko]) (by rfl) (by rfl) (by simp [lko]) (by simp) (by simp) (by simp) (fun i hi => by rcases i with _ | _ | _ | _ | _ | _ | i <;> first | rfl | (exfalso; omega)))
end Go.Proofs.Sh

/- Package region: where stretches begin or end (cuts). -/
set_option maxRecDepth 100000
set_option linter.unusedSimpArgs false
set_option linter.unusedVariables false
namespace Go.Proofs.Sh
open Go.Pv
open Rg
def cutL (fr nm : Rt → Int) (L : List Rt) : List Int := L.flatMap fun r => [fr r, fr r + nm r]
theorem cutL_app (fr nm : Rt → Int) (A B : List Rt) : cutL fr nm (A ++ B) = cutL fr nm A ++ cutL fr nm B := List.flatMap_append
theorem cutL_len (fr nm : Rt → Int) : ∀ A : List Rt, (cutL fr nm A).length = A.length * 2
  | [] => rfl
  | r :: A => by
    have := cutL_len fr nm A
    show (fr r :: (fr r + nm r) :: cutL fr nm A).length = _
    rw [List.length_cons, List.length_cons, this, List.length_cons]; omega
theorem tellY_fs (r : Rt) : Fsp Try.prog 58 [] 0 [rpv r] [] 0 (.tup [.int .i64 r.y, .int .i64 r.h]) := by
  (refine Fsp.ofs (nx := 0) mixed Try.func58 rfl (by simp [Try.f58]) ?_; simp -implicitDefEqProofs only [push_cast, Try.f58, rpv, rc, seval])
  (repeat (first | refine ⟨(by omega : _ ≤ _), ?_⟩ | refine ⟨(by omega : _ < _), ?_⟩ | refine ⟨(by simp; omega), ?_⟩ | refine ⟨(by simp; done), ?_⟩ | refine ⟨(by (unfold drawOk; kernel_rfl)), ?_⟩))
  all_goals (first | done | rfl | exact ⟨_, rfl, by simp [wkL, res2, res1, PV.weak, PV.el]⟩ | (simp [wkL, res2, res1, PV.weak, PV.el]; done))
theorem tellX_fs (r : Rt) : Fsp Try.prog 60 [] 0 [rpv r] [] 0 (.tup [.int .i64 r.x, .int .i64 r.w]) := by
  (refine Fsp.ofs (nx := 0) mixed Try.func60 rfl (by simp [Try.f60]) ?_; simp -implicitDefEqProofs only [push_cast, Try.f60, rpv, rc, seval])
  (repeat (first | refine ⟨(by omega : _ ≤ _), ?_⟩ | refine ⟨(by omega : _ < _), ?_⟩ | refine ⟨(by simp; omega), ?_⟩ | refine ⟨(by simp; done), ?_⟩ | refine ⟨(by (unfold drawOk; kernel_rfl)), ?_⟩))
  all_goals (first | done | rfl | exact ⟨_, rfl, by simp [wkL, res2, res1, PV.weak, PV.el]⟩ | (simp [wkL, res2, res1, PV.weak, PV.el]; done))
def lls (Ls : List (List Rt)) : List PV := Ls.map fun L => .sl 4 (rts L)
theorem lls_length (Ls : List (List Rt)) : (lls Ls).length = Ls.length := List.length_map _
theorem lls_at {Ls : List (List Rt)} {k : Nat} (h : k < Ls.length) : (lls Ls).getD k .any = .sl 4 (rts Ls[k]) := by
  rw [lls, List.getD_eq_getElem?_getD, List.getElem?_map, List.getElem?_eq_getElem h]; rfl
def cuS (g : Bool) (n : Nat) : PV := match g with
  | true => .nilsl
  | false => .slg 1 n 1
def cuB (g : Bool) (acc : List Int) : List (Nat × Option (List PV)) := match g with
  | true => []
  | false => [(1, some (ics acc))]
structure CuA (fr nm : Rt → Int) (Ls : List (List Rt)) where
  g : Bool
  k : Nat
  acc : List Int
  hk : k ≤ Ls.length
  ha : acc = cutL fr nm (Ls.take k).flatten
  hg : g = true → acc = []
def CuA.st (f : Nat) {fr nm : Rt → Int} {Ls : List (List Rt)} (a : CuA fr nm Ls) : PS := { n := 43, env := [(14, .int .i64 a.k), (13, .int .i64 Ls.length), (12, .sl 1 (lls Ls)), (5, cuS a.g a.acc.length), (4, .nilsl), (0, .fn f [])], objs := cuB a.g a.acc, live := [], nxt := 60 }
structure CvA (fr nm : Rt → Int) (Ls : List (List Rt)) (k : Nat) (L : List Rt) where
  g : Bool
  j : Nat
  acc : List Int
  hj : j ≤ L.length
  ha : acc = cutL fr nm ((Ls.take k).flatten ++ L.take j)
  hg : g = true → acc = []
def CvA.st (f : Nat) {fr nm : Rt → Int} {Ls : List (List Rt)} {k : Nat} {L : List Rt} (a : CvA fr nm Ls k L) : PS := { n := 43, env := [(20, .int .i64 a.j), (19, .int .i64 L.length), (18, .sl 4 (rts L)), (14, .int .i64 k), (13, .int .i64 Ls.length), (12, .sl 1 (lls Ls)), (5, cuS a.g a.acc.length), (4, .nilsl), (0, .fn f [])], objs := cuB a.g a.acc, live := [], nxt := 60 }
theorem sortI_nil : Fsp Try.prog 51 [] 0 [.nilsl] [] 0 (.tup []) := ranIs mixed (noCl_ok _) (wbf := fun _ => false) (n := 20) (d := 6) (by kernel_rfl)
theorem compI_nil : Fsp Try.prog 52 [] 0 [.nilsl] [] 0 .nilsl := ranIs mixed (noCl_ok _) (wbf := fun _ => false) (n := 20) (d := 6) (by kernel_rfl)
theorem take_flat {Ls : List (List Rt)} {k : Nat} (h : k < Ls.length) : (Ls.take (k + 1)).flatten = (Ls.take k).flatten ++ Ls[k] := by
  rw [take_one h, List.flatten_append]; simp
def cuY (ys : List Int) : PS := { n := 43, env := [(4, .slg 1 ys.length 1)], objs := [(1, some (ics ys))], live := [], nxt := 6 }
def cuZ (ys : List Int) : PS := { n := 43, env := [(4, .sl 1 (ics ys))], objs := [], live := [], nxt := 6 }
set_option maxHeartbeats 2000000 in
theorem cuts_fs (f : Nat) (fr nm : Rt → Int) (Ls : List (List Rt)) (hf : ∀ r, Fsp Try.prog f [] 0 [rpv r] [] 0 (.tup [.int .i64 (fr r), .int .i64 (nm r)])) (hw : ∀ r ∈ Ls.flatten, IntKind.i64.wrap (fr r + nm r) = fr r + nm r) (hl : Ls.flatten.length ≤ 8796093022208) (hls : Ls.length ≤ 1000000) (hne : Ls.flatten ≠ []) :
    Fsp Try.prog 57 [] 0 [.fn f [], .sl 1 (lls Ls)] [] 0 (.sl 1 (ics (uq (cutL fr nm Ls.flatten)))) := by
  refine Fsp.of' (nx := 0) mixed Try.func57 rfl (by decide) (by exact Nat.le_refl _) (by simp [Try.f57]) ⟨by decide, by decide⟩ ?_
  refine PWP.cutV mixed 4 ?_
  have hl2 : (cutL fr nm Ls.flatten).length = Ls.flatten.length * 2 := cutL_len fr nm _
  simp -implicitDefEqProofs only [push_cast, Try.f57, headN, lls_length, seval]
  refine loopC_of (α := CuA fr nm Ls) (CuA.st f) (fun a => Ls.length - a.k) ⟨true, 0, [], Nat.zero_le _, rfl, fun _ => rfl⟩ ?_ ?_
  · (simp only [CuA.st, cuS, cuB, List.length_nil]; exact Wk.by _ _ _ [] [] [] (by simp) (by simp [wkV, PV.el, PV.weak, PS.get, PS.obj, PS.lv, lkp_hit, lkp_miss, lkp_nil, lko, wkL, wkC, res1, rcs_wk, ics_wk]) (by simp [PS.get, PS.obj, PS.lv, lkp_hit, lkp_miss, lkp_nil, lko, wkL, wkC, PV.weak, wkL, wkC, res1, rcs_wk, ics_wk]) (by simp [PS.get, PS.obj, PS.lv, lkp_hit, lkp_miss, lkp_nil, lko]) (by rfl) (by rfl) (by simp [lko]) (by simp) (by simp) (by simp) (fun i hi => by rcases i with _ | _ | _ | _ | _ | _ | i <;> first | rfl | (exfalso; omega)))
  rintro ⟨g, k, acc, hk, ha, hg⟩
  simp only [CuA.st]
  simp -implicitDefEqProofs only [push_cast, seval]
  refine condC_split (fun g1 => ?_) (fun g1 => ?_)
  · have hlt : k < Ls.length := by simp at g1; omega
    have hu := wr_up (k := k) (by omega)
    have hat := lls_at hlt
    simp -implicitDefEqProofs only [push_cast, lls_length, hat, rts_length, seval]
    (repeat (first | refine ⟨(by omega : _ ≤ _), ?_⟩ | refine ⟨(by omega : _ < _), ?_⟩ | refine ⟨(by simp; omega), ?_⟩ | refine ⟨(by simp; done), ?_⟩ | refine ⟨(by (unfold drawOk; kernel_rfl)), ?_⟩))
    refine loopC_of (α := CvA fr nm Ls k Ls[k]) (CvA.st f) (fun a => Ls[k].length - a.j) ⟨g, 0, acc, Nat.zero_le _, by rw [List.take_zero, List.append_nil]; exact ha, hg⟩ ?_ ?_
    · cases g with
      | true =>
        (simp only [CvA.st, cuS, cuB]; exact Wk.by _ _ _ [] [] [] (by simp) (by simp [wkV, PV.el, PV.weak, PS.get, PS.obj, PS.lv, lkp_hit, lkp_miss, lkp_nil, lko, wkL, wkC, res1, rcs_wk, ics_wk]) (by simp [PS.get, PS.obj, PS.lv, lkp_hit, lkp_miss, lkp_nil, lko, wkL, wkC, PV.weak, wkL, wkC, res1, rcs_wk, ics_wk]) (by simp [PS.get, PS.obj, PS.lv, lkp_hit, lkp_miss, lkp_nil, lko]) (by rfl) (by rfl) (by simp [lko]) (by simp) (by simp) (by simp) (fun i hi => by rcases i with _ | _ | _ | _ | _ | _ | i <;> first | rfl | (exfalso; omega)))
      | false =>
        (simp only [CvA.st, cuS, cuB]; exact Wk.by _ _ _ [(1,1)] [] [] (by simp) (by simp [wkV, PV.el, PV.weak, PS.get, PS.obj, PS.lv, lkp_hit, lkp_miss, lkp_nil, lko, wkL, wkC, res1, rcs_wk, ics_wk]) (by simp [PS.get, PS.obj, PS.lv, lkp_hit, lkp_miss, lkp_nil, lko, wkL, wkC, PV.weak, wkL, wkC, res1, rcs_wk, ics_wk]) (by simp [PS.get, PS.obj, PS.lv, lkp_hit, lkp_miss, lkp_nil, lko]) (by rfl) (by rfl) (by simp [lko]) (by simp) (by simp) (by simp) (fun i hi => by rcases i with _ | _ | _ | _ | _ | _ | i <;> first | rfl | (exfalso; omega)))
    have hT : (Ls.take (k + 1)).flatten = (Ls.take k).flatten ++ Ls[k] := take_flat hlt
    have hTl : (Ls.take (k + 1)).flatten.length ≤ Ls.flatten.length := by
      conv => rhs; rw [← List.take_append_drop (k + 1) Ls, List.flatten_append, List.length_append]
      omega
    rw [hT, List.length_append] at hTl
    have hmem : ∀ r ∈ Ls[k], r ∈ Ls.flatten := fun r hr => List.mem_flatten.2 ⟨_, List.getElem_mem hlt, hr⟩
    rintro ⟨g', j, acc', hj, ha', hg'⟩
    simp only [CvA.st]
    simp -implicitDefEqProofs only [push_cast, seval]
    refine condC_split (fun g2 => ?_) (fun g2 => ?_)
    · have hlj : j < Ls[k].length := by simp at g2; omega
      have huj := wr_up (k := j) (by omega)
      have hat2 := rt_at hlj
      have hc := hf Ls[k][j]
      have w1 := hw _ (hmem _ (List.getElem_mem hlj))
      have hacl : acc'.length = ((Ls.take k).flatten.length + j) * 2 := by rw [ha', cutL_len, List.length_append, List.length_take]; congr 2; omega
      have hn : acc' ++ [fr Ls[k][j], fr Ls[k][j] + nm Ls[k][j]] = cutL fr nm ((Ls.take k).flatten ++ Ls[k].take (j + 1)) := by
        rw [take_one hlj, ← List.append_assoc, cutL_app, ← ha']; rfl
      generalize Ls[k][j] = r at *
      simp -implicitDefEqProofs only [push_cast, rts_length, hat2, rpv, rc, seval]
      (repeat (first | refine ⟨(by omega : _ ≤ _), ?_⟩ | refine ⟨(by omega : _ < _), ?_⟩ | refine ⟨(by simp; omega), ?_⟩ | refine ⟨(by simp; done), ?_⟩ | refine ⟨(by (unfold drawOk; kernel_rfl)), ?_⟩))
      refine callE_p hc ?_
      cases g' with
      | true =>
        have hacc := hg' rfl
        subst hacc
        simp only [cuS, cuB]
        simp -implicitDefEqProofs only [push_cast, w1, huj, seval]
        (repeat (first | refine ⟨(by omega : _ ≤ _), ?_⟩ | refine ⟨(by omega : _ < _), ?_⟩ | refine ⟨(by simp; omega), ?_⟩ | refine ⟨(by simp; done), ?_⟩ | refine ⟨(by (unfold drawOk; kernel_rfl)), ?_⟩))
        refine ⟨⟨false, j + 1, [fr r, fr r + nm r], hlj, hn, fun h => by cases h⟩, by simp only; omega, ?_⟩
        have hC : ics [fr r, fr r + nm r] = [.int .i64 (fr r), .int .i64 (fr r + nm r)] := rfl
        (simp only [CvA.st, cuS, cuB]; exact Wk.by _ _ _ [(1,136)] [] [] (by simp) (by simp [wkV, PV.el, PV.weak, PS.get, PS.obj, PS.lv, lkp_hit, lkp_miss, lkp_nil, lko, wkL, wkC, res1, rcs_wk, ics_wk, hC, huj, PV.cells]) (by simp [PS.get, PS.obj, PS.lv, lkp_hit, lkp_miss, lkp_nil, lko, wkL, wkC, PV.weak, wkL, wkC, res1, rcs_wk, ics_wk, hC, huj, PV.cells]) (by simp [PS.get, PS.obj, PS.lv, lkp_hit, lkp_miss, lkp_nil, lko]) (by rfl) (by rfl) (by simp [lko]) (by simp) (by simp) (by simp) (fun i hi => by rcases i with _ | _ | _ | _ | _ | _ | i <;> first | rfl | (exfalso; omega)))
      | false =>
        simp only [cuS, cuB]
        have hil := ics_length acc'
        simp -implicitDefEqProofs only [push_cast, w1, huj, hil, seval]
        (repeat (first | refine ⟨(by omega : _ ≤ _), ?_⟩ | refine ⟨(by omega : _ < _), ?_⟩ | refine ⟨(by simp; omega), ?_⟩ | refine ⟨(by simp; done), ?_⟩ | refine ⟨(by (unfold drawOk; kernel_rfl)), ?_⟩))
        refine ⟨⟨false, j + 1, acc' ++ [fr r, fr r + nm r], hlj, hn, fun h => by cases h⟩, by simp only; omega, ?_⟩
        have hC : List.take acc'.length (ics acc') ++ [.int .i64 (fr r), .int .i64 (fr r + nm r)] = ics (acc' ++ [fr r, fr r + nm r]) := by rw [List.take_of_length_le (by rw [ics_length]; exact Nat.le_refl _), ics_app]; rfl
        have hLn : (acc' ++ [fr r, fr r + nm r]).length = acc'.length + 2 := by simp
        simp only [CvA.st]
        generalize acc' ++ [fr r, fr r + nm r] = R2 at *
        (simp only [CvA.st, cuS, cuB]; exact Wk.by _ _ _ [(1,136)] [] [] (by simp) (by simp [wkV, PV.el, PV.weak, PS.get, PS.obj, PS.lv, lkp_hit, lkp_miss, lkp_nil, lko, wkL, wkC, res1, rcs_wk, ics_wk, hC, hLn, huj, PV.cells, List.cons_append, List.nil_append]) (by simp [PS.get, PS.obj, PS.lv, lkp_hit, lkp_miss, lkp_nil, lko, wkL, wkC, PV.weak, wkL, wkC, res1, rcs_wk, ics_wk, hC, hLn, huj, PV.cells, List.cons_append, List.nil_append]) (by simp [PS.get, PS.obj, PS.lv, lkp_hit, lkp_miss, lkp_nil, lko]) (by rfl) (by rfl) (by simp [lko]) (by simp) (by simp) (by simp) (fun i hi => by rcases i with _ | _ | _ | _ | _ | _ | i <;> first | rfl | (exfalso; omega)))
    · have hje : j = Ls[k].length := by simp at g2; omega
      have ha2 : acc' = cutL fr nm (Ls.take (k + 1)).flatten := by rw [ha', hT, hje, List.take_length]
      simp -implicitDefEqProofs only [push_cast, hu, seval]
      refine ⟨⟨g', k + 1, acc', hlt, ha2, hg'⟩, by simp only; omega, ?_⟩
      cases g' with
      | true =>
        (simp only [CuA.st, cuS, cuB]; exact Wk.by _ _ _ [] [] [] (by simp) (by simp [wkV, PV.el, PV.weak, PS.get, PS.obj, PS.lv, lkp_hit, lkp_miss, lkp_nil, lko, wkL, wkC, res1, rcs_wk, ics_wk]) (by simp [PS.get, PS.obj, PS.lv, lkp_hit, lkp_miss, lkp_nil, lko, wkL, wkC, PV.weak, wkL, wkC, res1, rcs_wk, ics_wk]) (by simp [PS.get, PS.obj, PS.lv, lkp_hit, lkp_miss, lkp_nil, lko]) (by rfl) (by rfl) (by simp [lko]) (by simp) (by simp) (by simp) (fun i hi => by rcases i with _ | _ | _ | _ | _ | _ | i <;> first | rfl | (exfalso; omega)))
      | false =>
        (simp only [CuA.st, cuS, cuB]; exact Wk.by _ _ _ [(1,1)] [] [] (by simp) (by simp [wkV, PV.el, PV.weak, PS.get, PS.obj, PS.lv, lkp_hit, lkp_miss, lkp_nil, lko, wkL, wkC, res1, rcs_wk, ics_wk]) (by simp [PS.get, PS.obj, PS.lv, lkp_hit, lkp_miss, lkp_nil, lko, wkL, wkC, PV.weak, wkL, wkC, res1, rcs_wk, ics_wk]) (by simp [PS.get, PS.obj, PS.lv, lkp_hit, lkp_miss, lkp_nil, lko]) (by rfl) (by rfl) (by simp [lko]) (by simp) (by simp) (by simp) (fun i hi => by rcases i with _ | _ | _ | _ | _ | _ | i <;> first | rfl | (exfalso; omega)))
  · have hke : k = Ls.length := by simp at g1; omega
    rw [hke, List.take_length] at ha
    cases g with
    | true =>
      have h1 := ha.symm.trans (hg rfl)
      have h2 := congrArg List.length h1
      rw [cutL_len, List.length_nil] at h2
      exact absurd (List.length_eq_zero_iff.1 (by omega : Ls.flatten.length = 0)) hne
    | false =>
    subst ha
    generalize hZ : cutL fr nm Ls.flatten = Z at *
    have h1 := sortI_fs Z (by omega)
    have h2 := compI_fs (Z.mergeSort fun x y => decide (x ≤ y)) (by rw [List.length_mergeSort]; omega)
    rw [show Lib.compactUpTo (Z.mergeSort fun x y => decide (x ≤ y)).toArray (Z.mergeSort fun x y => decide (x ≤ y)).length = uq Z from rfl, List.length_mergeSort] at h2
    simp only [cuS, cuB]
    simp -implicitDefEqProofs only [push_cast, seval]
    refine callE_box h1 [1] [] (by rfl) (by rfl) (by rfl) (by rfl) (by rfl) (by rfl) (fun i j cs h1 h2 => by (rcases i with _ | _ | _ | i <;> simp at h1 h2 <;> (subst h1; subst h2; exact ⟨_, rfl, (by first | exact rcs_cell _ _ _ | exact ics_cell _ _ _ | exact (by (repeat' (first | exact wkL_nil | refine wkL_cons ?_ ?_)); all_goals (first | exact .inl ⟨_, _, _, _, rfl, rfl, rfl⟩ | exact .inr (.inr (.inr (.inr (.inl ⟨_, _, _, rfl, rfl, rfl⟩)))) | exact .inr (.inr (.inr (.inr (.inr (.inl ⟨_, _, _, _, rfl, rfl, rfl⟩))))) | exact .inr (.inr (.inr (.inr (.inr (.inr ⟨_, _, rfl, rfl, rfl⟩))))) | exact .inr (.inl rfl) | exact .inr (.inr (.inl ⟨_, _, _, rfl, rfl, rfl⟩)))) | exact (by (repeat' (first | exact wkL_nil | refine wkL_cons ?_ ?_)); all_goals (first | exact .inr (.inl rfl) | exact .inr (.inr (.inl ⟨_, _, _, rfl, rfl, rfl⟩)) | exact .inr (.inr (.inr (.inl ⟨_, _, _, _, _, rfl, rfl, rfl⟩))) | exact .inr (.inr (.inr (.inr (.inr (.inr (.inr ⟨_, _, _, _, rfl, rfl, rfl⟩)))))))))⟩))) (by simp [PS.lv, lkp_hit, lkp_miss, lkp_nil]) (by (repeat' (first | exact wkL_nil | refine wkL_cons ?_ ?_)); all_goals (first | exact .inl ⟨_, _, _, rfl, rfl, rfl⟩ | exact .inr (.inl rfl) | exact .inr (.inr (.inl ⟨_, _, _, _, rfl, rfl, rfl⟩)) | exact .inr (.inr (.inr (.inl ⟨_, _, _, rfl, rfl, rfl, (wkL_get (by (repeat' (first | exact wkL_nil | refine wkL_cons ?_ ?_)); all_goals (first | exact .inl ⟨_, _, _, rfl, rfl, rfl⟩ | exact .inr rfl))).2⟩))) | exact .inr (.inr (.inr (.inr (.inr (.inr (.inl ⟨_, _, _, _, rfl, rfl, rfl⟩)))))) | exact .inr (.inr (.inr (.inr (.inr (.inr (.inr ⟨_, _, _, _, _, rfl, rfl, rfl⟩)))))))) (by decide) (by simp) (by rfl) (by (repeat' (first | exact tok_nil | refine tok_cons ?_ ?_)); all_goals (first | exact rcs_tok _ _ _ _ | exact ics_tok _ _ _ _ | (simp [tokLt1]; done))) (fun _ => by rfl) (by first | rfl | simp [gdOk, newToks]) ?_
    simp -implicitDefEqProofs only [push_cast, ics_back, seval]
    refine callE_box h2 [1] [] (by rfl) (by rfl) (by rfl) (by rfl) (by rfl) (by rfl) (fun i j cs h1 h2 => by (rcases i with _ | _ | _ | i <;> simp at h1 h2 <;> (subst h1; subst h2; exact ⟨_, rfl, (by first | exact rcs_cell _ _ _ | exact ics_cell _ _ _ | exact (by (repeat' (first | exact wkL_nil | refine wkL_cons ?_ ?_)); all_goals (first | exact .inl ⟨_, _, _, _, rfl, rfl, rfl⟩ | exact .inr (.inr (.inr (.inr (.inl ⟨_, _, _, rfl, rfl, rfl⟩)))) | exact .inr (.inr (.inr (.inr (.inr (.inl ⟨_, _, _, _, rfl, rfl, rfl⟩))))) | exact .inr (.inr (.inr (.inr (.inr (.inr ⟨_, _, rfl, rfl, rfl⟩))))) | exact .inr (.inl rfl) | exact .inr (.inr (.inl ⟨_, _, _, rfl, rfl, rfl⟩)))) | exact (by (repeat' (first | exact wkL_nil | refine wkL_cons ?_ ?_)); all_goals (first | exact .inr (.inl rfl) | exact .inr (.inr (.inl ⟨_, _, _, rfl, rfl, rfl⟩)) | exact .inr (.inr (.inr (.inl ⟨_, _, _, _, _, rfl, rfl, rfl⟩))) | exact .inr (.inr (.inr (.inr (.inr (.inr (.inr ⟨_, _, _, _, rfl, rfl, rfl⟩)))))))))⟩))) (by simp [PS.lv, lkp_hit, lkp_miss, lkp_nil]) (by (repeat' (first | exact wkL_nil | refine wkL_cons ?_ ?_)); all_goals (first | exact .inl ⟨_, _, _, rfl, rfl, rfl⟩ | exact .inr (.inl rfl) | exact .inr (.inr (.inl ⟨_, _, _, _, rfl, rfl, rfl⟩)) | exact .inr (.inr (.inr (.inl ⟨_, _, _, rfl, rfl, rfl, (wkL_get (by (repeat' (first | exact wkL_nil | refine wkL_cons ?_ ?_)); all_goals (first | exact .inl ⟨_, _, _, rfl, rfl, rfl⟩ | exact .inr rfl))).2⟩))) | exact .inr (.inr (.inr (.inr (.inr (.inr (.inl ⟨_, _, _, _, rfl, rfl, rfl⟩)))))) | exact .inr (.inr (.inr (.inr (.inr (.inr (.inr ⟨_, _, _, _, _, rfl, rfl, rfl⟩)))))))) (by decide) (by simp) (by rfl) (by (repeat' (first | exact tok_nil | refine tok_cons ?_ ?_)); all_goals (first | exact rcs_tok _ _ _ _ | exact ics_tok _ _ _ _ | (simp [tokLt1]; done))) (fun _ => by rfl) (by first | rfl | simp [gdOk, newToks]) ?_
    simp -implicitDefEqProofs only [push_cast, ics_back, seval]
    have hne2 : uq Z ≠ [] := fun e => by
      cases hZl : Z with
      | nil => rw [hZl, List.length_nil] at hl2; exact hne (List.length_eq_zero_iff.1 (by omega))
      | cons z Z' =>
        have := ((uq_ok Z).2 z).2 (by rw [hZl]; exact List.mem_cons_self)
        rw [e] at this
        cases this
    clear h1 h2
    generalize uq Z = ys at *
    show PWP Try.prog 0 Code.ret _ _
    refine PWP.weak (T := cuY ys) ?_ ?_
    · (simp only [cuY]; exact Wk.by _ _ _ [(1,1)] [] [] (by simp) (by simp [wkV, PV.el, PV.weak, PS.get, PS.obj, PS.lv, lkp_hit, lkp_miss, lkp_nil, lko, wkL, wkC, res1, rcs_wk, ics_wk]) (by simp [PS.get, PS.obj, PS.lv, lkp_hit, lkp_miss, lkp_nil, lko, wkL, wkC, PV.weak, wkL, wkC, res1, rcs_wk, ics_wk]) (by simp [PS.get, PS.obj, PS.lv, lkp_hit, lkp_miss, lkp_nil, lko]) (by rfl) (by rfl) (by simp [lko]) (by simp) (by simp) (by simp) (fun i hi => by rcases i with _ | _ | _ | _ | _ | _ | i <;> first | rfl | (exfalso; omega)))
    refine PWP.weak (T := cuZ ys) ?_ ?_
    · refine Wk.trans (Wk.frz (id := 1) (ps := ics ys) (by simp [cuY, PS.obj, lkp_hit, lkp_miss]) (Nat.zero_le _)) ?_
      have h3 : ys.length * 1 ≤ (ics ys).length := by rw [ics_length]; omega
      have f4 := frzI hne2
      simp only [cuY, PS.frz, frEnv, frObjs, List.map_cons, List.map_nil, Option.map_some, fz_slg _ _ _ _ h3, f4]
      (simp only [cuZ]; exact Wk.by _ _ _ [] [] [] (by simp) (by simp [wkV, PV.el, PV.weak, PS.get, PS.obj, PS.lv, lkp_hit, lkp_miss, lkp_nil, lko, wkL, wkC, res1, rcs_wk, ics_wk]) (by simp [PS.get, PS.obj, PS.lv, lkp_hit, lkp_miss, lkp_nil, lko, wkL, wkC, PV.weak, wkL, wkC, res1, rcs_wk, ics_wk]) (by simp [PS.get, PS.obj, PS.lv, lkp_hit, lkp_miss, lkp_nil, lko]) (by rfl) (by rfl) (by simp [lko]) (by simp) (by simp) (by simp) (fun i hi => by rcases i with _ | _ | _ | _ | _ | _ | i <;> first | rfl | (exfalso; omega)))
    refine VC_sound mixed ?_
    simp only [cuZ]
    simp -implicitDefEqProofs only [push_cast, seval]
    all_goals (first | done | rfl | exact ⟨_, rfl, by simp [wkL, res2, res1, PV.weak, PV.el]⟩ | (simp [wkL, res2, res1, PV.weak, PV.el]; done))
theorem cuts_nil (f : Nat) : Fsp Try.prog 57 [] 0 [.fn f [], .sl 1 (lls [[], []])] [] 0 .nilsl := by
  have h1 := sortI_nil
  have h2 := compI_nil
  (refine Fsp.ofs (nx := 0) mixed Try.func57 rfl (by simp [Try.f57]) ?_; simp -implicitDefEqProofs only [push_cast, Try.f57, lls, rts, List.map_cons, List.map_nil, seval])
  refine loopC_un 3 ?_
  simp -implicitDefEqProofs only [push_cast, seval]
  refine loopC_un 1 ?_
  simp -implicitDefEqProofs only [push_cast, seval]
  refine loopC_un 1 ?_
  simp -implicitDefEqProofs only [push_cast, seval]
  refine callE_p h1 ?_
  simp -implicitDefEqProofs only [push_cast, seval]
  refine callE_p h2 ?_
  simp -implicitDefEqProofs only [push_cast, seval]
/-- Of two lists. -/
theorem cuts2_fs (f : Nat) (fr nm : Rt → Int) (A B : List Rt) (hf : ∀ r, Fsp Try.prog f [] 0 [rpv r] [] 0 (.tup [.int .i64 (fr r), .int .i64 (nm r)])) (hw : ∀ r ∈ A ++ B, IntKind.i64.wrap (fr r + nm r) = fr r + nm r) (hl : A.length + B.length ≤ 8796093022208) :
    Fsp Try.prog 57 [] 0 [.fn f [], .sl 1 [.sl 4 (rts A), .sl 4 (rts B)]] [] 0 (.sl 1 (ics (uq (cutL fr nm (A ++ B))))) := by
  have e : [A, B].flatten = A ++ B := by simp
  by_cases hne : A ++ B = []
  · obtain ⟨rfl, rfl⟩ := List.append_eq_nil_iff.1 hne
    refine (cuts_nil f).say fun g v h => ?_
    rw [h.nilsl_inv]
    have e2 : uq (cutL fr nm ([] ++ [])) = [] := by
      cases hq : uq (cutL fr nm ([] ++ [])) with
      | nil => rfl
      | cons z Z =>
        have := ((uq_ok (cutL fr nm ([] ++ []))).2 z).1 (by rw [hq]; exact List.mem_cons_self)
        cases this
    rw [e2]
    exact .slnil 1
  · have := cuts_fs f fr nm [A, B] hf (by rw [e]; exact hw) (by rw [e, List.length_append]; exact hl) (by show 2 ≤ 1000000; decide) (by rw [e]; exact hne)
    rw [e] at this
    exact this
end Go.Proofs.Sh

/- Package region: going through a region's rows and columns. -/
set_option maxRecDepth 100000
set_option linter.unusedSimpArgs false
set_option linter.unusedVariables false
namespace Go.Proofs.Sh
open Go.Pv
open Rg
def dropY (y : Int) (K : List Rt) : List Rt := K.dropWhile fun r => decide (r.y + r.h ≤ y)
def takeY (y : Int) (K : List Rt) : List Rt := K.takeWhile fun r => decide (r.y ≤ y)
def dropX (x : Int) (K : List Rt) : List Rt := K.dropWhile fun r => decide (r.x + r.w ≤ x)
def headX (x : Int) : List Rt → Bool
  | [] => false
  | r :: _ => decide (r.x ≤ x)
structure RoA (y : Int) (K0 : List Rt) where
  K : List Rt
  h : dropY y K = dropY y K0
  hb : Bnd K
  hl : K.length ≤ 4398046511104
def RoA.st (y : Int) {K0 : List Rt} (a : RoA y K0) : PS := { n := 66, env := [(4, .nilsl), (1, .int .i64 y), (0, .box 0 0)], objs := [(0, some [.sl 4 (rts a.K)])], live := [], nxt := 60 }
structure RpA (y : Int) (K : List Rt) where
  n : Nat
  h : n ≤ K.length
  e : n + (takeY y (K.drop n)).length = (takeY y K).length
def RpA.st (y : Int) {K : List Rt} (a : RpA y K) : PS := { n := 66, env := [(5, .int .i64 a.n), (4, .nilsl), (1, .int .i64 y), (0, .box 0 0)], objs := [(0, some [.sl 4 (rts K)])], live := [], nxt := 60 }
theorem rts_all (K : List Rt) : (rts K).take K.length = rts K := List.take_of_length_le (by rw [rts_length]; exact Nat.le_refl _)
theorem rts_cons (r : Rt) (K : List Rt) : rts (r :: K) = rpv r :: rts K := rfl
theorem row_fs (y : Int) (K : List Rt) (hb : Bnd K) (hl : K.length ≤ 4398046511104) : Fsp Try.prog 59 [[.sl 4 (rts K)]] 0 [.box 0 0, .int .i64 y] [[.sl 4 (rts (dropY y K))]] 0 (.sl 4 (rts (takeY y (dropY y K)))) := by
  (refine Fsp.of (nx := 1) mixed Try.func59 rfl (by decide) (by first | exact Nat.le_refl _ | simp) (by simp [Try.f59]) ⟨by simp, by simp⟩ ?_; simp -implicitDefEqProofs only [push_cast, Try.f59, seval])
  refine loopC_of (α := RoA y K) (RoA.st y) (fun a => a.K.length) ⟨K, rfl, hb, hl⟩ ?_ ?_
  · (simp only [RoA.st]; exact Wk.by _ _ _ [(0,0)] [] [] (by simp) (by simp [wkV, PV.el, PV.weak, PS.get, PS.obj, PS.lv, lkp_hit, lkp_miss, lkp_nil, lko, wkL, wkC, res1, rcs_wk, ics_wk]) (by simp [PS.get, PS.obj, PS.lv, lkp_hit, lkp_miss, lkp_nil, lko, wkL, wkC, PV.weak, wkL, wkC, res1, rcs_wk, ics_wk]) (by simp [PS.get, PS.obj, PS.lv, lkp_hit, lkp_miss, lkp_nil, lko]) (by rfl) (by rfl) (by simp [lko]) (by simp) (by simp) (by simp) (fun i hi => by rcases i with _ | _ | _ | _ | _ | _ | i <;> first | rfl | (exfalso; omega)))
  rintro ⟨K1, h1, hb1, hl1⟩
  simp only [RoA.st]
  have hn0 : ([] : List PV).getD 0 .any = .any := rfl
  cases K1 with
  | nil =>
    rw [← h1, show dropY y [] = [] from rfl, show takeY y [] = [] from rfl]
    simp -implicitDefEqProofs only [push_cast, rts_length, rts, List.map_nil, List.length_nil, hn0, seval]
    (repeat (first | refine ⟨(by omega : _ ≤ _), ?_⟩ | refine ⟨(by omega : _ < _), ?_⟩ | refine ⟨(by simp; omega), ?_⟩ | refine ⟨(by simp; done), ?_⟩ | refine ⟨(by (unfold drawOk; kernel_rfl)), ?_⟩))
    refine loopC_un 1 ?_
    simp -implicitDefEqProofs only [push_cast, hn0, seval]
    (repeat (first | refine ⟨(by omega : _ ≤ _), ?_⟩ | refine ⟨(by omega : _ < _), ?_⟩ | refine ⟨(by simp; omega), ?_⟩ | refine ⟨(by simp; done), ?_⟩ | refine ⟨(by (unfold drawOk; kernel_rfl)), ?_⟩))
    exact endK_box [] [0] rfl rfl (by simp [PS.lv, lkp_hit, lkp_miss, lkp_nil]) rfl rfl (by rfl) (fun i j ps h1 h2 => by (rcases i with _ | i <;> simp at h1 h2 <;> (subst h1; subst h2; exact ⟨_, rfl, (by first | exact rcs_res _ _ _ | exact ics_res _ _ _ | exact (by (repeat' (first | exact wkL_nil | refine wkL_cons ?_ ?_)); all_goals (first | rfl | exact ⟨rfl, rfl⟩ | exact ⟨rfl, rfl, rfl⟩ | exact .inl rfl)))⟩))) ⟨by simp [resOk, PS.get, lkp_hit, lkp_miss, PS.ev], by simp [resPV, PS.get, lkp_hit, lkp_miss, PS.ev], by simp [resOf, resPV, one', res3, res2, res1, PS.get, lkp_hit, lkp_miss, PS.ev, PV.weak, PV.el, wkL]⟩
  | cons r K1 =>
    have p := cnt_pos (hb1 r List.mem_cons_self)
    have w1 : IntKind.i64.wrap (r.y + r.h) = r.y + r.h := wrap_i64_id (by omega) (by omega)
    have hlp : decide ((0 : Int) < (K1.length : Int) + 1) = true := by rw [decide_eq_true_eq]; omega
    cases c : decide (r.y + r.h ≤ y) with
    | true =>
      have hd : dropY y (r :: K1) = dropY y K1 := by unfold dropY; rw [List.dropWhile_cons, if_pos c]
      rw [List.length_cons] at hl1
      simp -implicitDefEqProofs only [push_cast, rts_cons, rpv, rc, rts_length, List.length_cons, hlp, gt_iff_lt, w1, c, seval]
      (repeat (first | refine ⟨(by omega : _ ≤ _), ?_⟩ | refine ⟨(by omega : _ < _), ?_⟩ | refine ⟨(by simp; omega), ?_⟩ | refine ⟨(by simp; done), ?_⟩ | refine ⟨(by (unfold drawOk; kernel_rfl)), ?_⟩))
      refine ⟨⟨K1, by rw [← h1, hd], fun q hq => hb1 q (List.mem_cons_of_mem _ hq), by omega⟩, by simp, ?_⟩
      (simp only [RoA.st]; exact Wk.by _ _ _ [(0,0)] [] [] (by simp) (by simp [wkV, PV.el, PV.weak, PS.get, PS.obj, PS.lv, lkp_hit, lkp_miss, lkp_nil, lko, wkL, wkC, res1, rcs_wk, ics_wk, rts_all]) (by simp [PS.get, PS.obj, PS.lv, lkp_hit, lkp_miss, lkp_nil, lko, wkL, wkC, PV.weak, wkL, wkC, res1, rcs_wk, ics_wk, rts_all]) (by simp [PS.get, PS.obj, PS.lv, lkp_hit, lkp_miss, lkp_nil, lko]) (by rfl) (by rfl) (by simp [lko]) (by simp) (by simp) (by simp) (fun i hi => by rcases i with _ | _ | _ | _ | _ | _ | i <;> first | rfl | (exfalso; omega)))
    | false =>
      have hd : dropY y (r :: K1) = r :: K1 := by unfold dropY; rw [List.dropWhile_cons, if_neg (by rw [c]; decide)]
      rw [← h1, hd]
      simp -implicitDefEqProofs only [push_cast, rts_cons, rpv, rc, rts_length, List.length_cons, hlp, gt_iff_lt, w1, c, seval]
      (repeat (first | refine ⟨(by omega : _ ≤ _), ?_⟩ | refine ⟨(by omega : _ < _), ?_⟩ | refine ⟨(by simp; omega), ?_⟩ | refine ⟨(by simp; done), ?_⟩ | refine ⟨(by (unfold drawOk; kernel_rfl)), ?_⟩))
      have er : PV.agg [PV.int .i64 r.x, PV.int .i64 r.y, PV.int .i64 r.w, PV.int .i64 r.h] :: rts K1 = rts (r :: K1) := rfl
      rw [er]
      clear er hd c hlp h1
      generalize r :: K1 = K at *
      refine loopC_of (α := RpA y K) (RpA.st y) (fun a => K.length - a.n) ⟨0, Nat.zero_le _, by simp⟩ ?_ ?_
      · (simp only [RpA.st]; exact Wk.by _ _ _ [(0,0)] [] [] (by simp) (by simp [wkV, PV.el, PV.weak, PS.get, PS.obj, PS.lv, lkp_hit, lkp_miss, lkp_nil, lko, wkL, wkC, res1, rcs_wk, ics_wk]) (by simp [PS.get, PS.obj, PS.lv, lkp_hit, lkp_miss, lkp_nil, lko, wkL, wkC, PV.weak, wkL, wkC, res1, rcs_wk, ics_wk]) (by simp [PS.get, PS.obj, PS.lv, lkp_hit, lkp_miss, lkp_nil, lko]) (by rfl) (by rfl) (by simp [lko]) (by simp) (by simp) (by simp) (fun i hi => by rcases i with _ | _ | _ | _ | _ | _ | i <;> first | rfl | (exfalso; omega)))
      rintro ⟨n, hn, he⟩
      simp only [RpA.st]
      cases c1 : decide ((n : Int) < (K.length : Int)) with
      | false =>
        have hd0 : (rts K).getD n .any = .any := by
          have hke : n = K.length := by simp at c1; omega
          rw [hke]; unfold rts; rw [List.getD_eq_getElem?_getD, List.getElem?_eq_none (by simp)]; rfl
        have hke : n = K.length := by simp at c1; omega
        have hz : takeY y (K.drop n) = [] := by rw [hke, List.drop_length]; rfl
        rw [hz, List.length_nil] at he
        simp -implicitDefEqProofs only [push_cast, rts_length, c1, hd0, hn0, seval]
        (repeat (first | refine ⟨(by omega : _ ≤ _), ?_⟩ | refine ⟨(by omega : _ < _), ?_⟩ | refine ⟨(by simp; omega), ?_⟩ | refine ⟨(by simp; done), ?_⟩ | refine ⟨(by (unfold drawOk; kernel_rfl)), ?_⟩))
        have hnt : n = (takeY y K).length := by omega
        have htk : (rts K).take n = rts (takeY y K) := by
          unfold rts
          rw [← List.map_take]
          congr 1
          rw [hnt]
          exact (List.prefix_iff_eq_take.1 (List.takeWhile_prefix _)).symm
        rw [← htk]
        exact endK_box [] [0] rfl rfl (by simp [PS.lv, lkp_hit, lkp_miss, lkp_nil]) rfl rfl (by rfl) (fun i j ps h1 h2 => by (rcases i with _ | i <;> simp at h1 h2 <;> (subst h1; subst h2; exact ⟨_, rfl, (by first | exact rcs_res _ _ _ | exact ics_res _ _ _ | exact (by (repeat' (first | exact wkL_nil | refine wkL_cons ?_ ?_)); all_goals (first | rfl | exact ⟨rfl, rfl⟩ | exact ⟨rfl, rfl, rfl⟩ | exact .inl rfl)))⟩))) ⟨by simp [resOk, PS.get, lkp_hit, lkp_miss, PS.ev], by simp [resPV, PS.get, lkp_hit, lkp_miss, PS.ev], by simp [resOf, resPV, one', res3, res2, res1, PS.get, lkp_hit, lkp_miss, PS.ev, PV.weak, PV.el, wkL]⟩
      | true =>
        have hlt : n < K.length := by simp at c1; omega
        have ha := rt_at hlt
        have hu := wr_up (k := n) (by omega)
        cases c2 : decide (K[n].y ≤ y) with
        | false =>
          have hz : takeY y (K.drop n) = [] := by unfold takeY; rw [rdrop hlt, List.takeWhile_cons, if_neg (by rw [c2]; decide)]
          rw [hz, List.length_nil] at he
          simp -implicitDefEqProofs only [push_cast, rts_length, c1, ha, rpv, rc, c2, seval]
          (repeat (first | refine ⟨(by omega : _ ≤ _), ?_⟩ | refine ⟨(by omega : _ < _), ?_⟩ | refine ⟨(by simp; omega), ?_⟩ | refine ⟨(by simp; done), ?_⟩ | refine ⟨(by (unfold drawOk; kernel_rfl)), ?_⟩))
          have hnt : n = (takeY y K).length := by omega
          have htk : (rts K).take n = rts (takeY y K) := by
            unfold rts
            rw [← List.map_take]
            congr 1
            rw [hnt]
            exact (List.prefix_iff_eq_take.1 (List.takeWhile_prefix _)).symm
          rw [← htk]
          exact endK_box [] [0] rfl rfl (by simp [PS.lv, lkp_hit, lkp_miss, lkp_nil]) rfl rfl (by rfl) (fun i j ps h1 h2 => by (rcases i with _ | i <;> simp at h1 h2 <;> (subst h1; subst h2; exact ⟨_, rfl, (by first | exact rcs_res _ _ _ | exact ics_res _ _ _ | exact (by (repeat' (first | exact wkL_nil | refine wkL_cons ?_ ?_)); all_goals (first | rfl | exact ⟨rfl, rfl⟩ | exact ⟨rfl, rfl, rfl⟩ | exact .inl rfl)))⟩))) ⟨by simp [resOk, PS.get, lkp_hit, lkp_miss, PS.ev], by simp [resPV, PS.get, lkp_hit, lkp_miss, PS.ev], by simp [resOf, resPV, one', res3, res2, res1, PS.get, lkp_hit, lkp_miss, PS.ev, PV.weak, PV.el, wkL]⟩
        | true =>
          have hz : takeY y (K.drop n) = K[n] :: takeY y (K.drop (n + 1)) := by unfold takeY; rw [rdrop hlt, List.takeWhile_cons, if_pos c2]
          rw [hz, List.length_cons] at he
          simp -implicitDefEqProofs only [push_cast, rts_length, c1, ha, rpv, rc, c2, hu, seval]
          (repeat (first | refine ⟨(by omega : _ ≤ _), ?_⟩ | refine ⟨(by omega : _ < _), ?_⟩ | refine ⟨(by simp; omega), ?_⟩ | refine ⟨(by simp; done), ?_⟩ | refine ⟨(by (unfold drawOk; kernel_rfl)), ?_⟩))
          refine ⟨⟨n + 1, hlt, by omega⟩, by simp only; omega, ?_⟩
          (simp only [RpA.st]; exact Wk.by _ _ _ [(0,0)] [] [] (by simp) (by simp [wkV, PV.el, PV.weak, PS.get, PS.obj, PS.lv, lkp_hit, lkp_miss, lkp_nil, lko, wkL, wkC, res1, rcs_wk, ics_wk, hu]) (by simp [PS.get, PS.obj, PS.lv, lkp_hit, lkp_miss, lkp_nil, lko, wkL, wkC, PV.weak, wkL, wkC, res1, rcs_wk, ics_wk, hu]) (by simp [PS.get, PS.obj, PS.lv, lkp_hit, lkp_miss, lkp_nil, lko]) (by rfl) (by rfl) (by simp [lko]) (by simp) (by simp) (by simp) (fun i hi => by rcases i with _ | _ | _ | _ | _ | _ | i <;> first | rfl | (exfalso; omega)))
structure AcA (x : Int) (K0 : List Rt) where
  K : List Rt
  h : dropX x K = dropX x K0
  hb : Bnd K
  hl : K.length ≤ 4398046511104
def AcA.st (x : Int) {K0 : List Rt} (a : AcA x K0) : PS := { n := 48, env := [(4, .bool false), (1, .int .i64 x), (0, .box 0 0)], objs := [(0, some [.sl 4 (rts a.K)])], live := [], nxt := 60 }
theorem across_fs (x : Int) (K : List Rt) (hb : Bnd K) (hl : K.length ≤ 4398046511104) : Fsp Try.prog 61 [[.sl 4 (rts K)]] 0 [.box 0 0, .int .i64 x] [[.sl 4 (rts (dropX x K))]] 0 (.bool (headX x (dropX x K))) := by
  (refine Fsp.of (nx := 1) mixed Try.func61 rfl (by decide) (by first | exact Nat.le_refl _ | simp) (by simp [Try.f61]) ⟨by simp, by simp⟩ ?_; simp -implicitDefEqProofs only [push_cast, Try.f61, seval])
  refine loopC_of (α := AcA x K) (AcA.st x) (fun a => a.K.length) ⟨K, rfl, hb, hl⟩ ?_ ?_
  · (simp only [AcA.st]; exact Wk.by _ _ _ [(0,0)] [] [] (by simp) (by simp [wkV, PV.el, PV.weak, PS.get, PS.obj, PS.lv, lkp_hit, lkp_miss, lkp_nil, lko, wkL, wkC, res1, rcs_wk, ics_wk]) (by simp [PS.get, PS.obj, PS.lv, lkp_hit, lkp_miss, lkp_nil, lko, wkL, wkC, PV.weak, wkL, wkC, res1, rcs_wk, ics_wk]) (by simp [PS.get, PS.obj, PS.lv, lkp_hit, lkp_miss, lkp_nil, lko]) (by rfl) (by rfl) (by simp [lko]) (by simp) (by simp) (by simp) (fun i hi => by rcases i with _ | _ | _ | _ | _ | _ | i <;> first | rfl | (exfalso; omega)))
  rintro ⟨K1, h1, hb1, hl1⟩
  simp only [AcA.st]
  have hn0 : ([] : List PV).getD 0 .any = .any := rfl
  cases K1 with
  | nil =>
    rw [← h1, show dropX x [] = [] from rfl, show headX x [] = false from rfl]
    simp -implicitDefEqProofs only [push_cast, rts_length, rts, List.map_nil, List.length_nil, hn0, seval]
    (repeat (first | refine ⟨(by omega : _ ≤ _), ?_⟩ | refine ⟨(by omega : _ < _), ?_⟩ | refine ⟨(by simp; omega), ?_⟩ | refine ⟨(by simp; done), ?_⟩ | refine ⟨(by (unfold drawOk; kernel_rfl)), ?_⟩))
    exact endK_box [] [0] rfl rfl (by simp [PS.lv, lkp_hit, lkp_miss, lkp_nil]) rfl rfl (by rfl) (fun i j ps h1 h2 => by (rcases i with _ | i <;> simp at h1 h2 <;> (subst h1; subst h2; exact ⟨_, rfl, (by first | exact rcs_res _ _ _ | exact ics_res _ _ _ | exact (by (repeat' (first | exact wkL_nil | refine wkL_cons ?_ ?_)); all_goals (first | rfl | exact ⟨rfl, rfl⟩ | exact ⟨rfl, rfl, rfl⟩ | exact .inl rfl)))⟩))) ⟨by simp [resOk, PS.get, lkp_hit, lkp_miss, PS.ev], by simp [resPV, PS.get, lkp_hit, lkp_miss, PS.ev], by simp [resOf, resPV, one', res3, res2, res1, PS.get, lkp_hit, lkp_miss, PS.ev, PV.weak, PV.el, wkL]⟩
  | cons r K1 =>
    have p := cnt_pos (hb1 r List.mem_cons_self)
    have w1 : IntKind.i64.wrap (r.x + r.w) = r.x + r.w := wrap_i64_id (by omega) (by omega)
    have hlp : decide ((0 : Int) < (K1.length : Int) + 1) = true := by rw [decide_eq_true_eq]; omega
    cases c : decide (r.x + r.w ≤ x) with
    | true =>
      have hd : dropX x (r :: K1) = dropX x K1 := by unfold dropX; rw [List.dropWhile_cons, if_pos c]
      rw [List.length_cons] at hl1
      simp -implicitDefEqProofs only [push_cast, rts_cons, rpv, rc, rts_length, List.length_cons, hlp, gt_iff_lt, w1, c, seval]
      (repeat (first | refine ⟨(by omega : _ ≤ _), ?_⟩ | refine ⟨(by omega : _ < _), ?_⟩ | refine ⟨(by simp; omega), ?_⟩ | refine ⟨(by simp; done), ?_⟩ | refine ⟨(by (unfold drawOk; kernel_rfl)), ?_⟩))
      refine ⟨⟨K1, by rw [← h1, hd], fun q hq => hb1 q (List.mem_cons_of_mem _ hq), by omega⟩, by simp, ?_⟩
      (simp only [AcA.st]; exact Wk.by _ _ _ [(0,0)] [] [] (by simp) (by simp [wkV, PV.el, PV.weak, PS.get, PS.obj, PS.lv, lkp_hit, lkp_miss, lkp_nil, lko, wkL, wkC, res1, rcs_wk, ics_wk, rts_all]) (by simp [PS.get, PS.obj, PS.lv, lkp_hit, lkp_miss, lkp_nil, lko, wkL, wkC, PV.weak, wkL, wkC, res1, rcs_wk, ics_wk, rts_all]) (by simp [PS.get, PS.obj, PS.lv, lkp_hit, lkp_miss, lkp_nil, lko]) (by rfl) (by rfl) (by simp [lko]) (by simp) (by simp) (by simp) (fun i hi => by rcases i with _ | _ | _ | _ | _ | _ | i <;> first | rfl | (exfalso; omega)))
    | false =>
      have hd : dropX x (r :: K1) = r :: K1 := by unfold dropX; rw [List.dropWhile_cons, if_neg (by rw [c]; decide)]
      rw [← h1, hd, show headX x (r :: K1) = decide (r.x ≤ x) from rfl]
      simp -implicitDefEqProofs only [push_cast, rts_cons, rpv, rc, rts_length, List.length_cons, hlp, gt_iff_lt, w1, c, seval]
      (repeat (first | refine ⟨(by omega : _ ≤ _), ?_⟩ | refine ⟨(by omega : _ < _), ?_⟩ | refine ⟨(by simp; omega), ?_⟩ | refine ⟨(by simp; done), ?_⟩ | refine ⟨(by (unfold drawOk; kernel_rfl)), ?_⟩))
      exact endK_box [] [0] rfl rfl (by simp [PS.lv, lkp_hit, lkp_miss, lkp_nil]) rfl rfl (by rfl) (fun i j ps h1 h2 => by (rcases i with _ | i <;> simp at h1 h2 <;> (subst h1; subst h2; exact ⟨_, rfl, (by first | exact rcs_res _ _ _ | exact ics_res _ _ _ | exact (by (repeat' (first | exact wkL_nil | refine wkL_cons ?_ ?_)); all_goals (first | rfl | exact ⟨rfl, rfl⟩ | exact ⟨rfl, rfl, rfl⟩ | exact .inl rfl)))⟩))) ⟨by simp [resOk, PS.get, lkp_hit, lkp_miss, PS.ev], by simp [resPV, PS.get, lkp_hit, lkp_miss, PS.ev], by simp [resOf, resPV, one', res3, res2, res1, PS.get, lkp_hit, lkp_miss, PS.ev, PV.weak, PV.el, wkL]⟩
end Go.Proofs.Sh
