/- TellChains. -/
import Derived.Test.YtafleenajffpkaaDoorTlBase
import Derived.Test.YtafleenajffpkaaDoorPvXe
set_option maxRecDepth 100000
set_option linter.unusedSimpArgs false
set_option linter.unusedVariables false
namespace Go.Proofs.Sh
open Go.Pv

/-- Those of a row that can be said. -/
def gd (o : Int) (X : List Ot) : List Ot := X.filter fun x => (tellS o x).2 == 0
def cat (o : Int) (R : List Ot) : List UInt8 := R.flatMap fun x => (tellS o x).1
def otL (X : List Ot) : List PV := X.map Ot.pv
theorem otL_length (X : List Ot) : (otL X).length = X.length := List.length_map _
theorem ot_at {X : List Ot} {i : Nat} (h : i < X.length) : (otL X).getD i PV.any = (X.getD i ot0).pv := by
  rw [otL, List.getD_eq_getElem?_getD, List.getElem?_map, List.getElem?_eq_getElem h, List.getD_eq_getElem?_getD, List.getElem?_eq_getElem h]; rfl
theorem take_sn {X : List Ot} {i : Nat} (h : i < X.length) : X.take (i + 1) = X.take i ++ [X.getD i ot0] := by
  rw [List.take_succ_eq_append_getElem h, List.getD_eq_getElem?_getD, List.getElem?_eq_getElem h]; rfl
theorem gd_bad {o : Int} {X : List Ot} {x : Ot} (h : ((tellS o x).2 == 0) = false) : gd o (X ++ [x]) = gd o X := by
  rw [gd, List.filter_append, List.filter_cons, h]; simp [gd]
theorem gd_ok {o : Int} {X : List Ot} {x : Ot} (h : ((tellS o x).2 == 0) = true) : gd o (X ++ [x]) = gd o X ++ [x] := by
  rw [gd, List.filter_append, List.filter_cons, h]; simp [gd]
theorem cat_sn (o : Int) (R : List Ot) (x : Ot) : cat o (R ++ [x]) = cat o R ++ (tellS o x).1 := by simp [cat]
theorem cat_cons (o : Int) (x : Ot) (R : List Ot) : cat o (x :: R) = (tellS o x).1 ++ cat o R := rfl
theorem otL_sn (R : List Ot) (x : Ot) : otL (R ++ [x]) = otL R ++ [x.pv] := by simp [otL]
theorem gd_len (o : Int) (X : List Ot) : (gd o X).length ≤ X.length := List.length_filter_le ..
theorem gd_mem {o : Int} {X : List Ot} {x : Ot} (h : x ∈ gd o X) : x ∈ X ∧ (tellS o x).2 = 0 := by
  obtain ⟨h1, h2⟩ := List.mem_filter.1 h
  exact ⟨h1, by simpa using h2⟩
theorem cat_len (o : Int) : ∀ (R : List Ot), (∀ x ∈ R, (tellS o x).2 = 0) → (cat o R).length ≤ R.length * 65544
  | [], _ => by simp [cat]
  | x :: R, h => by
    have h1 := cat_len o R (fun y hy => h y (List.mem_cons_of_mem _ hy))
    have h2 := (tell_len (h x (List.mem_cons_self ..))).2.2.1
    rw [cat_cons, List.length_append, List.length_cons]
    omega
structure CoS where
  o : Nat
  h : o ≤ 2
def CoS.st (X : List Ot) (a : CoS) : PS := { n := 100, env := [(3, .int .i64 a.o), (2, .bool false), (0, .sl 6 (otL X))], objs := [], live := [], nxt := 60 }
structure C1S (X : List Ot) where
  i : Nat
  h : i ≤ X.length
  f : ∀ x ∈ X.take i, x.Few
def C1S.st (o : Nat) {X : List Ot} (a : C1S X) : PS := { n := 100, env := [(6, .int .i64 a.i), (5, .slt 6 (otL (gd o (X.take a.i))) 50), (4, .str (cat o (gd o (X.take a.i)))), (3, .int .i64 o), (2, .bool false), (0, .sl 6 (otL X))], objs := [], live := [(50, true)], nxt := 60 }
structure C2S (R : List Ot) where
  i : Nat
  h : i ≤ R.length
def C2S.st (o : Nat) (X : List Ot) {R : List Ot} (a : C2S R) : PS := { n := 100, env := [(9, .int .i64 a.i), (5, .slt 6 (otL R) 50), (4, .str (cat o (R.drop a.i))), (3, .int .i64 o), (2, .bool false), (0, .sl 6 (otL X))], objs := [], live := [(50, true)], nxt := 60 }
set_option maxHeartbeats 8000000 in
theorem tellChains_fs (X : List Ot) : Fsp Tryd.prog 5 [] 0 [.sl 6 (otL X)] [] 0 (.bool true) := by
  (refine Fsp.of (nx := 0) mixed Tryd.func5 rfl (by decide) (by first | exact Nat.le_refl _ | simp) (by simp [Tryd.f5]) ⟨by decide, by decide⟩ ?_; simp -implicitDefEqProofs only [push_cast, Tryd.f5, otL_length, Int.reduceBEq, Int.reduceBNe, Int.reduceEq, Int.reduceNe, Int.reducePow, Nat.reduceAdd, Nat.reduceMul, Nat.reduceSub, Nat.reduceLT, Nat.reduceLeDiff, Nat.reduceEqDiff, Nat.reduceBEq, Int.reduceLT, Int.reduceLE, Int.reduceAdd, Int.reduceSub, Int.reduceMul, Int.reduceToNat, Int.reduceNeg, reduceIte, reduceCtorEq, reduceBEq])
  refine callE_pure awake_fs (by rfl) (by rfl) (by rfl) (by decide) (by rfl) (fun _ => by rfl) (by first | rfl | simp [gdOk, newToks]) ?_
  simp -implicitDefEqProofs only [push_cast, otL_length, Int.reduceBEq, Int.reduceBNe, Int.reduceEq, Int.reduceNe, Int.reducePow, Nat.reduceAdd, Nat.reduceMul, Nat.reduceSub, Nat.reduceLT, Nat.reduceLeDiff, Nat.reduceEqDiff, Nat.reduceBEq, Int.reduceLT, Int.reduceLE, Int.reduceAdd, Int.reduceSub, Int.reduceMul, Int.reduceToNat, Int.reduceNeg, reduceIte, reduceCtorEq, reduceBEq]
  refine condC_split (fun h1 => ?_) (fun h1 => ?_)
  · simp -implicitDefEqProofs only [push_cast, Int.reduceBEq, Int.reduceBNe, Int.reduceEq, Int.reduceNe, Int.reducePow, Nat.reduceAdd, Nat.reduceMul, Nat.reduceSub, Nat.reduceLT, Nat.reduceLeDiff, Nat.reduceEqDiff, Nat.reduceBEq, Int.reduceLT, Int.reduceLE, Int.reduceAdd, Int.reduceSub, Int.reduceMul, Int.reduceToNat, Int.reduceNeg, reduceIte, reduceCtorEq, reduceBEq]
  have hX : X.length ≤ 20 := by simp at h1; omega
  simp -implicitDefEqProofs only [push_cast, Int.reduceBEq, Int.reduceBNe, Int.reduceEq, Int.reduceNe, Int.reducePow, Nat.reduceAdd, Nat.reduceMul, Nat.reduceSub, Nat.reduceLT, Nat.reduceLeDiff, Nat.reduceEqDiff, Nat.reduceBEq, Int.reduceLT, Int.reduceLE, Int.reduceAdd, Int.reduceSub, Int.reduceMul, Int.reduceToNat, Int.reduceNeg, reduceIte, reduceCtorEq, reduceBEq]
  refine loopC_of (α := CoS) (CoS.st X) (fun a => 2 - a.o) ⟨0, by omega⟩ ?_ ?_
  · (simp only [CoS.st]; exact Wk.by _ _ _ [] [] [] (by simp) (by simp [wkV, PV.el, PV.weak, PS.get, PS.obj, PS.lv, lkp_hit, lkp_miss, lkp_nil, lko, wkL, wkC, res1, ints]) (by simp [PS.get, PS.obj, PS.lv, lkp_hit, lkp_miss, lkp_nil, lko, wkL, wkC, PV.weak, wkL, wkC, res1, ints]) (by simp [PS.get, PS.obj, PS.lv, lkp_hit, lkp_miss, lkp_nil, lko]) (by rfl) (by rfl) (by simp [lko]) (by simp) (by simp) (by simp) (fun i hi => absurd hi (Nat.not_lt_zero i)))
  · rintro ⟨o, ho⟩
    simp -implicitDefEqProofs only [push_cast, CoS.st, Int.reduceBEq, Int.reduceBNe, Int.reduceEq, Int.reduceNe, Int.reducePow, Nat.reduceAdd, Nat.reduceMul, Nat.reduceSub, Nat.reduceLT, Nat.reduceLeDiff, Nat.reduceEqDiff, Nat.reduceBEq, Int.reduceLT, Int.reduceLE, Int.reduceAdd, Int.reduceSub, Int.reduceMul, Int.reduceToNat, Int.reduceNeg, reduceIte, reduceCtorEq, reduceBEq]
    refine condC_split (fun h2 => ?_) (fun h2 => ?_)
    · have ho2 : o < 2 := by simp at h2; omega
      have hwo : IntKind.i64.wrap ((o : Int) + 1) = ((o + 1 : Nat) : Int) := by (rw [wrap_i64_id (by omega) (by omega)]; rfl)
      simp -implicitDefEqProofs only [push_cast, Int.reduceBEq, Int.reduceBNe, Int.reduceEq, Int.reduceNe, Int.reducePow, Nat.reduceAdd, Nat.reduceMul, Nat.reduceSub, Nat.reduceLT, Nat.reduceLeDiff, Nat.reduceEqDiff, Nat.reduceBEq, Int.reduceLT, Int.reduceLE, Int.reduceAdd, Int.reduceSub, Int.reduceMul, Int.reduceToNat, Int.reduceNeg, reduceIte, reduceCtorEq, reduceBEq]
      refine loopC_of (α := C1S X) (C1S.st o) (fun a => X.length - a.i) ⟨0, by omega, by simp⟩ ?_ ?_
      · (simp only [C1S.st, List.take_zero]; exact Wk.by _ _ _ [] [] [50] (by simp) (by simp [wkV, PV.el, PV.weak, PS.get, PS.obj, PS.lv, lkp_hit, lkp_miss, lkp_nil, lko, wkL, wkC, res1, ints, gd, cat, otL]) (by simp [PS.get, PS.obj, PS.lv, lkp_hit, lkp_miss, lkp_nil, lko, wkL, wkC, PV.weak, wkL, wkC, res1, ints, gd, cat, otL]) (by simp [PS.get, PS.obj, PS.lv, lkp_hit, lkp_miss, lkp_nil, lko]) (by rfl) (by rfl) (by simp [lko]) (by simp) (by simp) (by simp) (fun i hi => absurd hi (Nat.not_lt_zero i)))
      · rintro ⟨i, hi, hf⟩
        have hgl := gd_len o (X.take i)
        rw [List.length_take] at hgl
        have hcl := cat_len o (gd o (X.take i)) (fun x hx => (gd_mem hx).2)
        simp -implicitDefEqProofs only [push_cast, C1S.st, otL_length, Int.reduceBEq, Int.reduceBNe, Int.reduceEq, Int.reduceNe, Int.reducePow, Nat.reduceAdd, Nat.reduceMul, Nat.reduceSub, Nat.reduceLT, Nat.reduceLeDiff, Nat.reduceEqDiff, Nat.reduceBEq, Int.reduceLT, Int.reduceLE, Int.reduceAdd, Int.reduceSub, Int.reduceMul, Int.reduceToNat, Int.reduceNeg, reduceIte, reduceCtorEq, reduceBEq]
        refine condC_split (fun h3 => ?_) (fun h3 => ?_)
        · have hlt : i < X.length := by simp at h3; omega
          have hwi : IntKind.i64.wrap ((i : Int) + 1) = ((i + 1 : Nat) : Int) := by (rw [wrap_i64_id (by omega) (by omega)]; rfl)
          have hg := ot_at hlt
          have htk := take_sn hlt
          generalize X.getD i ot0 = x at *
          have hfx := short_fs x
          simp only [Ot.pv] at hfx hg
          cases hb : isShort x
          · rw [hb] at hfx
            simp -implicitDefEqProofs only [push_cast, hg, otL_length, Int.reduceBEq, Int.reduceBNe, Int.reduceEq, Int.reduceNe, Int.reducePow, Nat.reduceAdd, Nat.reduceMul, Nat.reduceSub, Nat.reduceLT, Nat.reduceLeDiff, Nat.reduceEqDiff, Nat.reduceBEq, Int.reduceLT, Int.reduceLE, Int.reduceAdd, Int.reduceSub, Int.reduceMul, Int.reduceToNat, Int.reduceNeg, reduceIte, reduceCtorEq, reduceBEq]
            (repeat (first | refine ⟨by omega, ?_⟩ | refine ⟨by (rw [otL_length]; omega), ?_⟩ | refine ⟨by simp [maxLen, otL_length]; omega, ?_⟩ | refine ⟨by (unfold drawOk; kernel_rfl), ?_⟩))
            refine callE_pure hfx (by rfl) (by rfl) (by rfl) (by decide) (by rfl) (fun _ => by rfl) (by first | rfl | simp [gdOk, newToks]) ?_
            simp -implicitDefEqProofs only [push_cast, Int.reduceBEq, Int.reduceBNe, Int.reduceEq, Int.reduceNe, Int.reducePow, Nat.reduceAdd, Nat.reduceMul, Nat.reduceSub, Nat.reduceLT, Nat.reduceLeDiff, Nat.reduceEqDiff, Nat.reduceBEq, Int.reduceLT, Int.reduceLE, Int.reduceAdd, Int.reduceSub, Int.reduceMul, Int.reduceToNat, Int.reduceNeg, reduceIte, reduceCtorEq, reduceBEq]
          · rw [hb] at hfx
            have hx := isShort_of hb
            have hf' : ∀ y ∈ X.take (i + 1), y.Few := fun y hy => by
              rw [htk, List.mem_append] at hy
              rcases hy with hy | hy
              · exact hf y hy
              · rw [List.mem_singleton] at hy; rw [hy]; exact hx
            have hp := tellPut_fs o x hx
            simp only [tellR, Ot.pv] at hp
            simp -implicitDefEqProofs only [push_cast, hg, otL_length, Int.reduceBEq, Int.reduceBNe, Int.reduceEq, Int.reduceNe, Int.reducePow, Nat.reduceAdd, Nat.reduceMul, Nat.reduceSub, Nat.reduceLT, Nat.reduceLeDiff, Nat.reduceEqDiff, Nat.reduceBEq, Int.reduceLT, Int.reduceLE, Int.reduceAdd, Int.reduceSub, Int.reduceMul, Int.reduceToNat, Int.reduceNeg, reduceIte, reduceCtorEq, reduceBEq]
            (repeat (first | refine ⟨by omega, ?_⟩ | refine ⟨by (rw [otL_length]; omega), ?_⟩ | refine ⟨by simp [maxLen, otL_length]; omega, ?_⟩ | refine ⟨by (unfold drawOk; kernel_rfl), ?_⟩))
            refine callE_pure hfx (by rfl) (by rfl) (by rfl) (by decide) (by rfl) (fun _ => by rfl) (by first | rfl | simp [gdOk, newToks]) ?_
            simp -implicitDefEqProofs only [push_cast, hg, otL_length, Int.reduceBEq, Int.reduceBNe, Int.reduceEq, Int.reduceNe, Int.reducePow, Nat.reduceAdd, Nat.reduceMul, Nat.reduceSub, Nat.reduceLT, Nat.reduceLeDiff, Nat.reduceEqDiff, Nat.reduceBEq, Int.reduceLT, Int.reduceLE, Int.reduceAdd, Int.reduceSub, Int.reduceMul, Int.reduceToNat, Int.reduceNeg, reduceIte, reduceCtorEq, reduceBEq]
            (repeat (first | refine ⟨by omega, ?_⟩ | refine ⟨by (rw [otL_length]; omega), ?_⟩ | refine ⟨by simp [maxLen, otL_length]; omega, ?_⟩ | refine ⟨by (unfold drawOk; kernel_rfl), ?_⟩))
            refine callE_pure hp (by rfl) (by rfl) (by rfl) (by decide) (by rfl) (fun _ => by rfl) (by first | rfl | simp [gdOk, newToks]) ?_
            cases h4 : ((tellS o x).2 == 0)
            · have hgd := gd_bad (X := X.take i) h4
              rw [← htk] at hgd
              simp -implicitDefEqProofs only [push_cast, h4, Int.reduceBEq, Int.reduceBNe, Int.reduceEq, Int.reduceNe, Int.reducePow, Nat.reduceAdd, Nat.reduceMul, Nat.reduceSub, Nat.reduceLT, Nat.reduceLeDiff, Nat.reduceEqDiff, Nat.reduceBEq, Int.reduceLT, Int.reduceLE, Int.reduceAdd, Int.reduceSub, Int.reduceMul, Int.reduceToNat, Int.reduceNeg, reduceIte, reduceCtorEq, reduceBEq]
              rw [hwi]
              refine ⟨⟨i + 1, by omega, hf'⟩, by simp only; omega, ?_⟩
              (simp only [C1S.st, hgd]; exact Wk.by _ _ _ [] [(50, 50)] [] (by simp) (by simp [wkV, PV.el, PV.weak, PS.get, PS.obj, PS.lv, lkp_hit, lkp_miss, lkp_nil, lko, wkL, wkC, res1, ints]) (by simp [PS.get, PS.obj, PS.lv, lkp_hit, lkp_miss, lkp_nil, lko, wkL, wkC, PV.weak, wkL, wkC, res1, ints]) (by simp [PS.get, PS.obj, PS.lv, lkp_hit, lkp_miss, lkp_nil, lko]) (by rfl) (by rfl) (by simp [lko]) (by simp) (by simp) (by simp) (fun i hi => absurd hi (Nat.not_lt_zero i)))
            · have hgd := gd_ok (X := X.take i) h4
              rw [← htk] at hgd
              have hbl := (tell_len (o := o) (r := x) (by simpa using h4)).2.2.1
              have hct := cat_sn o (gd o (X.take i)) x
              rw [← hgd] at hct
              have hol := otL_sn (gd o (X.take i)) x
              rw [← hgd] at hol
              have hxp : x.pv = .agg [.int .i64 x.K, .int .i64 x.C, .int .i64 x.Q, .sl 1 (ints x.N), .str x.B, .sl 1 (ints x.L)] := rfl
              simp -implicitDefEqProofs only [push_cast, h4, hg, otL_length, Int.reduceBEq, Int.reduceBNe, Int.reduceEq, Int.reduceNe, Int.reducePow, Nat.reduceAdd, Nat.reduceMul, Nat.reduceSub, Nat.reduceLT, Nat.reduceLeDiff, Nat.reduceEqDiff, Nat.reduceBEq, Int.reduceLT, Int.reduceLE, Int.reduceAdd, Int.reduceSub, Int.reduceMul, Int.reduceToNat, Int.reduceNeg, reduceIte, reduceCtorEq, reduceBEq]
              (repeat (first | refine ⟨by omega, ?_⟩ | refine ⟨by (rw [otL_length]; omega), ?_⟩ | refine ⟨by simp [maxLen, otL_length]; omega, ?_⟩ | refine ⟨by (unfold drawOk; kernel_rfl), ?_⟩))
              trace_state
              rw [hwi]
              refine ⟨⟨i + 1, by omega, hf'⟩, by simp only; omega, ?_⟩
              (simp only [C1S.st, hct, hol, hxp]; exact Wk.by _ _ _ [] [(50, 192)] [] (by simp) (by simp [wkV, PV.el, PV.weak, PS.get, PS.obj, PS.lv, lkp_hit, lkp_miss, lkp_nil, lko, wkL, wkC, res1, ints]) (by simp [PS.get, PS.obj, PS.lv, lkp_hit, lkp_miss, lkp_nil, lko, wkL, wkC, PV.weak, wkL, wkC, res1, ints]) (by simp [PS.get, PS.obj, PS.lv, lkp_hit, lkp_miss, lkp_nil, lko]) (by rfl) (by rfl) (by simp [lko]) (by simp) (by simp) (by simp) (fun i hi => absurd hi (Nat.not_lt_zero i)))
        · have hie : i = X.length := by simp at h3; omega
          subst hie
          rw [List.take_length] at *
          have hR : ∀ x ∈ gd o X, x.Few ∧ (tellS o x).2 = 0 := fun x hx => ⟨hf x (gd_mem hx).1, (gd_mem hx).2⟩
          clear hf
          simp -implicitDefEqProofs only [push_cast, otL_length, Int.reduceBEq, Int.reduceBNe, Int.reduceEq, Int.reduceNe, Int.reducePow, Nat.reduceAdd, Nat.reduceMul, Nat.reduceSub, Nat.reduceLT, Nat.reduceLeDiff, Nat.reduceEqDiff, Nat.reduceBEq, Int.reduceLT, Int.reduceLE, Int.reduceAdd, Int.reduceSub, Int.reduceMul, Int.reduceToNat, Int.reduceNeg, reduceIte, reduceCtorEq, reduceBEq]
          generalize gd o X = R at *
          refine loopC_of (α := C2S R) (C2S.st o X) (fun a => R.length - a.i) ⟨0, by omega⟩ ?_ ?_
          · (simp only [C2S.st, List.drop_zero]; exact Wk.by _ _ _ [] [(50, 50)] [] (by simp) (by simp [wkV, PV.el, PV.weak, PS.get, PS.obj, PS.lv, lkp_hit, lkp_miss, lkp_nil, lko, wkL, wkC, res1, ints]) (by simp [PS.get, PS.obj, PS.lv, lkp_hit, lkp_miss, lkp_nil, lko, wkL, wkC, PV.weak, wkL, wkC, res1, ints]) (by simp [PS.get, PS.obj, PS.lv, lkp_hit, lkp_miss, lkp_nil, lko]) (by rfl) (by rfl) (by simp [lko]) (by simp) (by simp) (by simp) (fun i hi => absurd hi (Nat.not_lt_zero i)))
          · rintro ⟨k, hk⟩
            simp -implicitDefEqProofs only [push_cast, C2S.st, otL_length, Int.reduceBEq, Int.reduceBNe, Int.reduceEq, Int.reduceNe, Int.reducePow, Nat.reduceAdd, Nat.reduceMul, Nat.reduceSub, Nat.reduceLT, Nat.reduceLeDiff, Nat.reduceEqDiff, Nat.reduceBEq, Int.reduceLT, Int.reduceLE, Int.reduceAdd, Int.reduceSub, Int.reduceMul, Int.reduceToNat, Int.reduceNeg, reduceIte, reduceCtorEq, reduceBEq]
            refine condC_split (fun h5 => ?_) (fun h5 => ?_)
            · have hlt : k < R.length := by simp at h5; omega
              have hwk : IntKind.i64.wrap ((k : Int) + 1) = ((k + 1 : Nat) : Int) := by (rw [wrap_i64_id (by omega) (by omega)]; rfl)
              have hg := ot_at hlt
              have hdr : R.drop k = R.getD k ot0 :: R.drop (k + 1) := by
                rw [List.drop_eq_getElem_cons hlt, List.getD_eq_getElem?_getD, List.getElem?_eq_getElem hlt]; rfl
              obtain ⟨hxf, hx0⟩ := hR (R.getD k ot0) (by rw [List.getD_eq_getElem?_getD, List.getElem?_eq_getElem hlt]; exact List.getElem_mem hlt)
              have hrest := cat_len o (R.drop (k + 1)) (fun x hx => (hR x (List.mem_of_mem_drop hx)).2)
              rw [List.length_drop] at hrest
              generalize R.getD k ot0 = x at *
              rw [hdr, cat_cons]
              obtain ⟨l1, -, l3, -⟩ := tell_len hx0
              have hq0 : 0 ≤ x.Q := (tellS_shape hx0).choose_spec.choose_spec.choose_spec.choose_spec.choose_spec.choose_spec.choose_spec.choose_spec.choose_spec.choose_spec.2.2.2.2.2.2.2.2.2.2.2.2.2.1
              have hge := tellGet_fs o ((tellS o x).1 ++ cat o (R.drop (k + 1))) (by rw [List.length_append]; omega)
              rw [tellGR, tell_put_get hx0] at hge
              have w1 : Int.tmod x.Q 65536 = x.Q % 65536 := Int.tmod_eq_emod_of_nonneg hq0
              have w2 : IntKind.i64.wrap (x.Q % 65536) = x.Q % 65536 := by rw [wrap_i64_id (by omega) (by omega)]
              obtain ⟨qw, hqw⟩ : ∃ qw : Int, qw = x.Q % 65536 := ⟨_, rfl⟩
              rw [← hqw] at w1 w2 hge
              have hss := refSameO_fs ⟨x.K, x.C, qw, x.N, x.B, x.L⟩ ⟨x.K, x.C, qw, x.N, x.B, x.L⟩ ⟨hxf.n, hxf.b, hxf.l⟩ ⟨hxf.n, hxf.b, hxf.l⟩
              rw [sameO_refl] at hss
              simp only [Ot.pv] at hge hss hg
              have hd1 : decide (((tellS o x).1.length : Int) < 8) = false := by simp; omega
              have hsl : ((tellS o x).1 ++ cat o (R.drop (k + 1))).length = (tellS o x).1.length + (cat o (R.drop (k + 1))).length := List.length_append
              have hd2 : decide ((((tellS o x).1 ++ cat o (R.drop (k + 1))).length : Int) < ((tellS o x).1.length : Int)) = false := by rw [hsl]; simp; omega
              have hd3 : ((tellS o x).1 ++ cat o (R.drop (k + 1))).drop (tellS o x).1.length = cat o (R.drop (k + 1)) := List.drop_left
              have hd4 : (((tellS o x).1 ++ cat o (R.drop (k + 1))).drop (tellS o x).1.length).take (((tellS o x).1 ++ cat o (R.drop (k + 1))).length - (tellS o x).1.length) = cat o (R.drop (k + 1)) := by
                rw [hd3, hsl]; exact List.take_of_length_le (by omega)
              have hd5 : (cat o (R.drop (k + 1))).take (((tellS o x).1 ++ cat o (R.drop (k + 1))).length - (tellS o x).1.length) = cat o (R.drop (k + 1)) := by
                rw [hsl]; exact List.take_of_length_le (by omega)
              generalize (tellS o x).1 ++ cat o (R.drop (k + 1)) = s at *
              generalize (tellS o x).1.length = n at *
              simp -implicitDefEqProofs only [push_cast, hg, otL_length, Int.reduceBEq, Int.reduceBNe, Int.reduceEq, Int.reduceNe, Int.reducePow, Nat.reduceAdd, Nat.reduceMul, Nat.reduceSub, Nat.reduceLT, Nat.reduceLeDiff, Nat.reduceEqDiff, Nat.reduceBEq, Int.reduceLT, Int.reduceLE, Int.reduceAdd, Int.reduceSub, Int.reduceMul, Int.reduceToNat, Int.reduceNeg, reduceIte, reduceCtorEq, reduceBEq]
              refine callE_pure hge (by rfl) (by rfl) (by rfl) (by decide) (by rfl) (fun _ => by rfl) (by first | rfl | simp [gdOk, newToks]) ?_
              simp -implicitDefEqProofs only [push_cast, hg, otL_length, w1, w2, Int.reduceBEq, Int.reduceBNe, Int.reduceEq, Int.reduceNe, Int.reducePow, Nat.reduceAdd, Nat.reduceMul, Nat.reduceSub, Nat.reduceLT, Nat.reduceLeDiff, Nat.reduceEqDiff, Nat.reduceBEq, Int.reduceLT, Int.reduceLE, Int.reduceAdd, Int.reduceSub, Int.reduceMul, Int.reduceToNat, Int.reduceNeg, reduceIte, reduceCtorEq, reduceBEq]
              (repeat (first | refine ⟨by omega, ?_⟩ | refine ⟨by (rw [otL_length]; omega), ?_⟩ | refine ⟨by simp [maxLen, otL_length]; omega, ?_⟩ | refine ⟨by (unfold drawOk; kernel_rfl), ?_⟩))
              simp -implicitDefEqProofs only [push_cast, hg, otL_length, w1, w2, hd1, hd2, Int.reduceBEq, Int.reduceBNe, Int.reduceEq, Int.reduceNe, Int.reducePow, Nat.reduceAdd, Nat.reduceMul, Nat.reduceSub, Nat.reduceLT, Nat.reduceLeDiff, Nat.reduceEqDiff, Nat.reduceBEq, Int.reduceLT, Int.reduceLE, Int.reduceAdd, Int.reduceSub, Int.reduceMul, Int.reduceToNat, Int.reduceNeg, reduceIte, reduceCtorEq, reduceBEq]
              refine callE_pure hss (by rfl) (by rfl) (by rfl) (by decide) (by rfl) (fun _ => by rfl) (by first | rfl | simp [gdOk, newToks]) ?_
              simp -implicitDefEqProofs only [push_cast, hd3, hd5, Int.reduceBEq, Int.reduceBNe, Int.reduceEq, Int.reduceNe, Int.reducePow, Nat.reduceAdd, Nat.reduceMul, Nat.reduceSub, Nat.reduceLT, Nat.reduceLeDiff, Nat.reduceEqDiff, Nat.reduceBEq, Int.reduceLT, Int.reduceLE, Int.reduceAdd, Int.reduceSub, Int.reduceMul, Int.reduceToNat, Int.reduceNeg, reduceIte, reduceCtorEq, reduceBEq]
              trace_state
              (repeat (first | refine ⟨by omega, ?_⟩ | refine ⟨by (rw [otL_length]; omega), ?_⟩ | refine ⟨by simp [maxLen, otL_length]; omega, ?_⟩ | refine ⟨by (unfold drawOk; kernel_rfl), ?_⟩))
              rw [hwk]
              refine ⟨⟨k + 1, by omega⟩, by simp only; omega, ?_⟩
              (simp only [C2S.st]; exact Wk.by _ _ _ [] [(50, 50)] [] (by simp) (by simp [wkV, PV.el, PV.weak, PS.get, PS.obj, PS.lv, lkp_hit, lkp_miss, lkp_nil, lko, wkL, wkC, res1, ints]) (by simp [PS.get, PS.obj, PS.lv, lkp_hit, lkp_miss, lkp_nil, lko, wkL, wkC, PV.weak, wkL, wkC, res1, ints]) (by simp [PS.get, PS.obj, PS.lv, lkp_hit, lkp_miss, lkp_nil, lko]) (by rfl) (by rfl) (by simp [lko]) (by simp) (by simp) (by simp) (fun i hi => absurd hi (Nat.not_lt_zero i)))
            · have hke : k = R.length := by simp at h5; omega
              subst hke
              rw [List.drop_length]
              simp -implicitDefEqProofs only [push_cast, cat, List.flatMap_nil, bne_self_eq_false, Int.reduceBEq, Int.reduceBNe, Int.reduceEq, Int.reduceNe, Int.reducePow, Nat.reduceAdd, Nat.reduceMul, Nat.reduceSub, Nat.reduceLT, Nat.reduceLeDiff, Nat.reduceEqDiff, Nat.reduceBEq, Int.reduceLT, Int.reduceLE, Int.reduceAdd, Int.reduceSub, Int.reduceMul, Int.reduceToNat, Int.reduceNeg, reduceIte, reduceCtorEq, reduceBEq]
              trace_state
              rw [hwo]
              refine ⟨⟨o + 1, by omega⟩, by simp only; omega, ?_⟩
              (simp only [CoS.st]; exact Wk.by _ _ _ [] [] [] (by simp) (by simp [wkV, PV.el, PV.weak, PS.get, PS.obj, PS.lv, lkp_hit, lkp_miss, lkp_nil, lko, wkL, wkC, res1, ints]) (by simp [PS.get, PS.obj, PS.lv, lkp_hit, lkp_miss, lkp_nil, lko, wkL, wkC, PV.weak, wkL, wkC, res1, ints]) (by simp [PS.get, PS.obj, PS.lv, lkp_hit, lkp_miss, lkp_nil, lko]) (by rfl) (by rfl) (by simp [lko]) (by simp) (by simp) (by simp) (fun i hi => absurd hi (Nat.not_lt_zero i)))
    · simp -implicitDefEqProofs only [push_cast, Int.reduceBEq, Int.reduceBNe, Int.reduceEq, Int.reduceNe, Int.reducePow, Nat.reduceAdd, Nat.reduceMul, Nat.reduceSub, Nat.reduceLT, Nat.reduceLeDiff, Nat.reduceEqDiff, Nat.reduceBEq, Int.reduceLT, Int.reduceLE, Int.reduceAdd, Int.reduceSub, Int.reduceMul, Int.reduceToNat, Int.reduceNeg, reduceIte, reduceCtorEq, reduceBEq]

end Go.Proofs.Sh
