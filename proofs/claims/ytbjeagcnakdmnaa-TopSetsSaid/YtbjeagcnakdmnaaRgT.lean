/- Package band, Of: the end of a round: a band goes on in the next one, or stands for itself. -/
import Derived.Test.YtbjeagcnakdmnaaPvYa
import Derived.Test.YtbjeagcnakdmnaaRgM
import Derived.Test.YtbjeagcnakdmnaaPvIv
set_option maxRecDepth 100000
set_option linter.unusedSimpArgs false
set_option linter.unusedVariables false
namespace Go.Proofs.Sh
open Go.Pv
open Rg
theorem rcs_f {L : List Rt} {k : Nat} (h : k < L.length) (c : Nat) (hc : c < 4) : ((rcs L).drop (k * 4 + c)).getD 0 .any = (rc L[k]).getD c .any := by
  rw [← List.drop_drop, rcs_drop, rdrop h, rcs_cons]
  match c, hc with
  | 0, _ => rfl
  | 1, _ => rfl
  | 2, _ => rfl
  | 3, _ => rfl
theorem rcs_f0 {L : List Rt} {k : Nat} (h : k < L.length) : ((rcs L).drop (k * 4)).getD 0 .any = .int .i64 L[k].x := rcs_f h 0 (by decide)
theorem rcs_f1 {L : List Rt} {k : Nat} (h : k < L.length) : ((rcs L).drop (k * 4 + 1)).getD 0 .any = .int .i64 L[k].y := rcs_f h 1 (by decide)
theorem rcs_f2 {L : List Rt} {k : Nat} (h : k < L.length) : ((rcs L).drop (k * 4 + 2)).getD 0 .any = .int .i64 L[k].w := rcs_f h 2 (by decide)
theorem rcs_f3 {L : List Rt} {k : Nat} (h : k < L.length) : ((rcs L).drop (k * 4 + 3)).getD 0 .any = .int .i64 L[k].h := rcs_f h 3 (by decide)
theorem rcs_setH {L : List Rt} {k : Nat} (h : k < L.length) (n : Int) : setC (rcs L) (k * 4 + 3) [.int .i64 n] = rcs (L.set k { L[k] with h := n }) := by
  rw [List.set_eq_take_append_cons_drop, if_pos h, rcs_app, rcs_cons]
  unfold setC
  have e : rcs L = rcs (L.take k) ++ (rc L[k] ++ rcs (L.drop (k + 1))) := by
    conv => lhs; rw [← List.take_append_drop k L, rdrop h, rcs_app, rcs_cons]
  have hl : (rcs (L.take k)).length = k * 4 := by rw [rcs_length, List.length_take]; omega
  rw [e]
  have h1 : (rcs (L.take k) ++ (rc L[k] ++ rcs (L.drop (k + 1)))).take (k * 4 + 3) = rcs (L.take k) ++ [.int .i64 L[k].x, .int .i64 L[k].y, .int .i64 L[k].w] := by
    rw [List.take_append, hl, List.take_of_length_le (by omega), show k * 4 + 3 - k * 4 = 3 by omega]; rfl
  have h2 : (rcs (L.take k) ++ (rc L[k] ++ rcs (L.drop (k + 1)))).drop (k * 4 + 3 + [PV.int .i64 n].length) = rcs (L.drop (k + 1)) := by
    rw [List.drop_append, hl, List.drop_of_length_le (by rw [hl]; show k * 4 ≤ k * 4 + 3 + 1; omega), show k * 4 + 3 + [PV.int .i64 n].length - k * 4 = 4 by show k * 4 + 3 + 1 - k * 4 = 4; omega]; rfl
  rw [h1, h2]
  simp [rc, List.append_assoc]
def loopOf : Code → Code
  | .seq (.seq _ (.block _ (.loop x))) _ => x
  | _ => .skip
def blkOf : Code → Code
  | .seq _ (.seq (.block _ c) _) => c
  | _ => .skip
def ofC3 (f : Func) : Code := blkOf (loopOf (tailN 7 (f.body.getD .skip)))
/-- What the rounds of Of know. -/
def ofE (A : List Rt) (ys : List Int) (out row : List Rt) (ab nx i : Nat) : PS := { n := 134, env := [(11, .int .i64 i), (10, .int .i64 nx), (9, .int .i64 ab), (8, .slg 3 row.length 4), (7, .box 1 0), (6, .sl 1 (ics ys)), (3, .sl 4 (rts A)), (2, .box 0 0)], objs := [(0, some [.nilsl]), (1, some [.slg 2 out.length 4]), (2, some (rcs out)), (3, some (rcs row))], live := [], nxt := 6 }
def ofD (A : List Rt) (ys : List Int) (out row : List Rt) (ab nx i fr : Nat) (y z : Int) : PS := { n := 134, env := [(15, .int .i64 fr), (13, .box 5 0), (12, .box 4 0), (11, .int .i64 i), (10, .int .i64 nx), (9, .int .i64 ab), (8, .slg 3 row.length 4), (7, .box 1 0), (6, .sl 1 (ics ys)), (3, .sl 4 (rts A)), (2, .box 0 0)], objs := [(0, some [.nilsl]), (1, some [.slg 2 out.length 4]), (2, some (rcs out)), (3, some (rcs row)), (4, some [.int .i64 y]), (5, some [.int .i64 z])], live := [], nxt := 6 }
def ofD1 (A : List Rt) (ys : List Int) (out row : List Rt) (ab nx i fr : Nat) (y z : Int) (b : Bool) : PS := { n := 134, env := [(109, .bool b), (15, .int .i64 fr), (13, .box 5 0), (12, .box 4 0), (11, .int .i64 i), (10, .int .i64 nx), (9, .int .i64 ab), (8, .slg 3 row.length 4), (7, .box 1 0), (6, .sl 1 (ics ys)), (3, .sl 4 (rts A)), (2, .box 0 0)], objs := [(0, some [.nilsl]), (1, some [.slg 2 out.length 4]), (2, some (rcs out)), (3, some (rcs row)), (4, some [.int .i64 y]), (5, some [.int .i64 z])], live := [], nxt := 6 }
/-- So many are made taller, from a place on. -/
structure TlA (U : List Rt) (ab fr : Nat) (d : Int) where
  j : Nat
  h1 : ab ≤ j
  h2 : j ≤ fr
def tallTo (U : List Rt) (ab j : Nat) (d : Int) : List Rt := U.take ab ++ ((U.take j).drop ab).map (tall d) ++ U.drop j
theorem tallTo_len {U : List Rt} {ab j : Nat} {d : Int} (h1 : ab ≤ j) (h2 : j ≤ U.length) : (tallTo U ab j d).length = U.length := by
  unfold tallTo
  simp only [List.length_append, List.length_take, List.length_map, List.length_drop]
  omega
theorem tallTo_at {U : List Rt} {ab j : Nat} {d : Int} (h1 : ab ≤ j) (h2 : j < U.length) : (tallTo U ab j d)[j]'(by rw [tallTo_len h1 (by omega)]; exact h2) = U[j] := by
  unfold tallTo
  rw [List.getElem_append_right (by simp; omega)]
  simp only [List.length_append, List.length_take, List.length_map, List.length_drop, List.getElem_drop]
  congr 1
  omega
theorem tallTo_set {U : List Rt} {ab j : Nat} {d : Int} (h1 : ab ≤ j) (h2 : j < U.length) : (tallTo U ab j d).set j (tall d U[j]) = tallTo U ab (j + 1) d := by
  have e : (U.take ab ++ ((U.take j).drop ab).map (tall d)).length = j := by simp only [List.length_append, List.length_take, List.length_map, List.length_drop]; omega
  unfold tallTo
  rw [List.set_append, if_neg (by omega), e, Nat.sub_self, rdrop h2, take_one h2, List.drop_append_of_le_length (by rw [List.length_take]; omega), List.map_append]
  rw [List.append_assoc, List.append_assoc, List.append_assoc]
  rfl
theorem tallTo_0 (U : List Rt) (ab : Nat) (d : Int) : tallTo U ab ab d = U := by
  unfold tallTo
  rw [List.drop_of_length_le (by rw [List.length_take]; omega), List.map_nil, List.append_nil, List.take_append_drop]
def TlA.st (A : List Rt) (ys : List Int) (row : List Rt) (nx i : Nat) (y z : Int) {U : List Rt} {ab fr : Nat} (a : TlA U ab fr (z - y)) : PS := { n := 134, env := [(17, .int .i64 a.j), (15, .int .i64 fr), (13, .box 5 0), (12, .box 4 0), (11, .int .i64 i), (10, .int .i64 nx), (9, .int .i64 ab), (8, .slg 3 row.length 4), (7, .box 1 0), (6, .sl 1 (ics ys)), (3, .sl 4 (rts A)), (2, .box 0 0)], objs := [(0, some [.nilsl]), (1, some [.slg 2 U.length 4]), (2, some (rcs (tallTo U ab a.j (z - y)))), (3, some (rcs row)), (4, some [.int .i64 y]), (5, some [.int .i64 z])], live := [], nxt := 6 }
theorem ofD2_fs (A : List Rt) (ys : List Int) (U row : List Rt) (hU : Bnd U) (hUl : U.length ≤ 4398046511104) (ab nx i fr : Nat) (y z : Int) (ha : ab ≤ fr) (hfr : fr ≤ U.length) (hy : -1048576 ≤ y ∧ y < z ∧ z ≤ 1048576) (b : Bool) (Q : Post)
    (hQ : ∀ S, Wk 0 S (if b = true then ofE A ys (U.take ab ++ ((U.take fr).drop ab).map (tall (z - y))) row ab nx i else ofE A ys U row fr nx i) → Q .normal S) : PWP Try.prog 0 (tailN 7 (ofC3 Try.f5)) Q (ofD1 A ys U row ab nx i fr y z b) := by
  simp only [ofC3, Try.f5, Option.getD_some, tailN, loopOf, blkOf]
  refine VC_sound mixed ?_
  unfold ofD1
  cases b with
  | false =>
    simp -implicitDefEqProofs only [push_cast, seval]
    refine hQ _ ?_
    rw [if_neg (by decide)]
    (simp only [ofE]; exact Wk.by _ _ _ [(0,0),(1,1),(2,2),(3,3)] [] [] (by simp) (by simp [wkV, PV.el, PV.weak, PS.get, PS.obj, PS.lv, lkp_hit, lkp_miss, lkp_nil, lko, wkL, wkC, res1, rcs_wk, ics_wk]) (by simp [PS.get, PS.obj, PS.lv, lkp_hit, lkp_miss, lkp_nil, lko, wkL, wkC, PV.weak, wkL, wkC, res1, rcs_wk, ics_wk]) (by simp [PS.get, PS.obj, PS.lv, lkp_hit, lkp_miss, lkp_nil, lko]) (by rfl) (by rfl) (by simp [lko]) (by simp) (by simp) (by simp) (fun i hi => by rcases i with _ | _ | _ | _ | _ | _ | i <;> first | rfl | (exfalso; omega)))
  | true =>
    rw [if_pos rfl] at hQ
    have wd : IntKind.i64.wrap (z - y) = z - y := wrap_i64_id (by omega) (by omega)
    simp -implicitDefEqProofs only [push_cast, seval]
    refine loopC_of (α := TlA U ab fr (z - y)) (TlA.st A ys row nx i y z) (fun a => fr - a.j) ⟨ab, Nat.le_refl _, ha⟩ ?_ ?_
    · (simp only [TlA.st]; exact Wk.by _ _ _ [(0,0),(1,1),(2,2),(3,3),(4,4),(5,5)] [] [] (by simp) (by simp [wkV, PV.el, PV.weak, PS.get, PS.obj, PS.lv, lkp_hit, lkp_miss, lkp_nil, lko, wkL, wkC, res1, rcs_wk, ics_wk, tallTo_0]) (by simp [PS.get, PS.obj, PS.lv, lkp_hit, lkp_miss, lkp_nil, lko, wkL, wkC, PV.weak, wkL, wkC, res1, rcs_wk, ics_wk, tallTo_0]) (by simp [PS.get, PS.obj, PS.lv, lkp_hit, lkp_miss, lkp_nil, lko]) (by rfl) (by rfl) (by simp [lko]) (by simp) (by simp) (by simp) (fun i hi => by rcases i with _ | _ | _ | _ | _ | _ | i <;> first | rfl | (exfalso; omega)))
    rintro ⟨j, h1, h2⟩
    simp only [TlA.st]
    simp -implicitDefEqProofs only [push_cast, seval]
    refine condC_split (fun g1 => ?_) (fun g1 => ?_)
    · have hlt : j < fr := by simp at g1; omega
      have hjl : j < (tallTo U ab j (z - y)).length := by rw [tallTo_len h1 (by omega)]; omega
      have hu := wr_up (k := j) (by omega)
      have hat := tallTo_at (U := U) (d := z - y) h1 (by omega : j < U.length)
      have hf3 := rcs_f3 hjl
      rw [hat] at hf3
      have pU := cnt_pos (hU _ (List.getElem_mem (by omega : j < U.length)))
      have wh : IntKind.i64.wrap (U[j].h + (z - y)) = U[j].h + (z - y) := wrap_i64_id (by omega) (by omega)
      have hst := rcs_setH hjl (U[j].h + (z - y))
      rw [hat, show ({ U[j] with h := U[j].h + (z - y) } : Rt) = tall (z - y) U[j] from rfl, tallTo_set h1 (by omega)] at hst
      simp only [setC, List.length_cons, List.length_nil, List.append_assoc, List.cons_append, List.nil_append, Nat.zero_add] at hst
      have hlM : (rcs (tallTo U ab j (z - y))).length = U.length * 4 := by rw [rcs_length, tallTo_len h1 (by omega)]
      simp -implicitDefEqProofs only [push_cast, wd, hf3, wh, seval]
      refine ⟨by omega, by rw [List.length_drop, hlM]; omega, ?_⟩
      simp -implicitDefEqProofs only [push_cast, hlM, seval]
      (repeat (first | refine ⟨(by omega : _ ≤ _), ?_⟩ | refine ⟨(by omega : _ < _), ?_⟩ | refine ⟨(by simp; omega), ?_⟩ | refine ⟨(by simp; done), ?_⟩ | refine ⟨(by (unfold drawOk; kernel_rfl)), ?_⟩))
      refine ⟨⟨j + 1, by omega, hlt⟩, by simp only; omega, ?_⟩
      (simp only [TlA.st]; exact Wk.by _ _ _ [(0,0),(1,1),(2,2),(3,3),(4,4),(5,5)] [] [] (by simp) (by simp [wkV, PV.el, PV.weak, PS.get, PS.obj, PS.lv, lkp_hit, lkp_miss, lkp_nil, lko, wkL, wkC, res1, rcs_wk, ics_wk, hst, hu]) (by simp [PS.get, PS.obj, PS.lv, lkp_hit, lkp_miss, lkp_nil, lko, wkL, wkC, PV.weak, wkL, wkC, res1, rcs_wk, ics_wk, hst, hu]) (by simp [PS.get, PS.obj, PS.lv, lkp_hit, lkp_miss, lkp_nil, lko]) (by rfl) (by rfl) (by simp [lko]) (by simp) (by simp) (by simp) (fun i hi => by rcases i with _ | _ | _ | _ | _ | _ | i <;> first | rfl | (exfalso; omega)))
    · have hke : j = fr := by simp at g1; omega
      subst hke
      have hlM : (tallTo U ab j (z - y)).length = U.length := tallTo_len h1 hfr
      have htk : (tallTo U ab j (z - y)).take j = U.take ab ++ ((U.take j).drop ab).map (tall (z - y)) := by
        unfold tallTo
        have e : (U.take ab ++ ((U.take j).drop ab).map (tall (z - y))).length = j := by simp only [List.length_append, List.length_take, List.length_map, List.length_drop]; omega
        rw [List.take_append_of_le_length (by omega), List.take_of_length_le (by omega)]
      have hln : (U.take ab ++ ((U.take j).drop ab).map (tall (z - y))).length = j := by rw [← htk, List.length_take]; omega
      simp -implicitDefEqProofs only [push_cast, seval]
      (repeat (first | refine ⟨(by omega : _ ≤ _), ?_⟩ | refine ⟨(by omega : _ < _), ?_⟩ | refine ⟨(by simp; omega), ?_⟩ | refine ⟨(by simp; done), ?_⟩ | refine ⟨(by (unfold drawOk; kernel_rfl)), ?_⟩))
      refine hQ _ (Wk.trans (Wk.cut (id := 2) (ps := rcs (tallTo U ab j (z - y))) (qs := rcs (U.take ab ++ ((U.take j).drop ab).map (tall (z - y)))) (by simp [PS.obj, lkp_hit, lkp_miss]) ?_) ?_)
      · rcases Nat.eq_zero_or_pos U.length with h0 | h0
        · left
          have : U = [] := List.length_eq_zero_iff.1 h0
          subst this
          simp [tallTo]
        · right
          refine ⟨by rw [rcs_length]; omega, j * 4, ?_⟩
          rw [rcs_take, htk]
      generalize U.take ab ++ ((U.take j).drop ab).map (tall (z - y)) = V at hln ⊢
      (simp only [ofE]; exact Wk.by _ _ _ [(0,0),(1,1),(2,2),(3,3)] [] [] (by simp) (by simp [wkV, PV.el, PV.weak, PS.get, PS.obj, PS.lv, lkp_hit, lkp_miss, lkp_nil, lko, wkL, wkC, res1, rcs_wk, ics_wk, hln]) (by simp [PS.get, PS.obj, PS.lv, lkp_hit, lkp_miss, lkp_nil, lko, wkL, wkC, PV.weak, wkL, wkC, res1, rcs_wk, ics_wk, hln]) (by simp [PS.get, PS.obj, PS.lv, lkp_hit, lkp_miss, lkp_nil, lko]) (by rfl) (by rfl) (by simp [lko]) (by simp) (by simp) (by simp) (fun i hi => by rcases i with _ | _ | _ | _ | _ | _ | i <;> first | rfl | (exfalso; omega)))
theorem ofD_fs (A : List Rt) (ys : List Int) (U row : List Rt) (hU : Bnd U) (hUl : U.length ≤ 4398046511104) (ab nx i fr : Nat) (y z : Int) (ha : ab ≤ fr) (hfr : fr ≤ U.length) (hy : -1048576 ≤ y ∧ y < z ∧ z ≤ 1048576) (Q : Post)
    (hQ : ∀ S, Wk 0 S (if alk ((U.take fr).drop ab) (U.drop fr) = true then ofE A ys (U.take ab ++ ((U.take fr).drop ab).map (tall (z - y))) row ab nx i else ofE A ys U row fr nx i) → Q .normal S) : PWP Try.prog 0 (tailN 6 (ofC3 Try.f5)) Q (ofD A ys U row ab nx i fr y z) := by
  have hA := alike_fs U hU hUl ab fr ha hfr
  refine PWP.cutV mixed 0 ?_
  generalize alk ((U.take fr).drop ab) (U.drop fr) = b at *
  have hD := ofD2_fs A ys U row hU hUl ab nx i fr y z ha hfr hy b Q hQ
  have key : ∀ S', Wk 0 S' (ofD1 A ys U row ab nx i fr y z b) → seqK (PWP Try.prog 0 (tailN 0 (tailN 6 (ofC3 Try.f5)))) Q .normal S' := fun S' hw => PWP.weak hw hD
  generalize seqK (PWP Try.prog 0 (tailN 0 (tailN 6 (ofC3 Try.f5)))) Q = Q2 at *
  simp only [ofC3, Try.f5, Option.getD_some, tailN, headN, loopOf, blkOf]
  unfold ofD
  unfold sl2 at hA
  by_cases c1 : fr = ab
  · rw [if_pos c1] at hA
    by_cases c2 : U.length = fr
    · rw [if_pos c2] at hA
      have e1 : ∀ {α : Type} (a b : α), (if fr = ab then a else b) = a := fun a b => if_pos c1
      have e2 : ∀ {α : Type} (a b : α), (if U.length = fr then a else b) = a := fun a b => if_pos c2
      simp -implicitDefEqProofs only [push_cast, e1, e2, seval]
      (repeat (first | refine ⟨(by omega : _ ≤ _), ?_⟩ | refine ⟨(by omega : _ < _), ?_⟩ | refine ⟨(by simp; omega), ?_⟩ | refine ⟨(by simp; done), ?_⟩ | refine ⟨(by (unfold drawOk; kernel_rfl)), ?_⟩))
      refine callE_box hA [2] [] (by rfl) (by rfl) (by rfl) (by rfl) (by rfl) (by rfl) (fun i j cs h1 h2 => by (rcases i with _ | _ | _ | i <;> simp at h1 h2 <;> (subst h1; subst h2; exact ⟨_, rfl, (by first | exact rcs_cell _ _ _ | exact ics_cell _ _ _ | exact (by (repeat' (first | exact wkL_nil | refine wkL_cons ?_ ?_)); all_goals (first | exact .inl ⟨_, _, _, _, rfl, rfl, rfl⟩ | exact .inr (.inr (.inr (.inr (.inl ⟨_, _, _, rfl, rfl, rfl⟩)))) | exact .inr (.inr (.inr (.inr (.inr (.inl ⟨_, _, _, _, rfl, rfl, rfl⟩))))) | exact .inr (.inr (.inr (.inr (.inr (.inr ⟨_, _, rfl, rfl, rfl⟩))))) | exact .inr (.inl rfl) | exact .inr (.inr (.inl ⟨_, _, _, rfl, rfl, rfl⟩)))) | exact (by (repeat' (first | exact wkL_nil | refine wkL_cons ?_ ?_)); all_goals (first | exact .inr (.inl rfl) | exact .inr (.inr (.inl ⟨_, _, _, rfl, rfl, rfl⟩)) | exact .inr (.inr (.inr (.inl ⟨_, _, _, _, _, rfl, rfl, rfl⟩))) | exact .inr (.inr (.inr (.inr (.inr (.inr (.inr ⟨_, _, _, _, rfl, rfl, rfl⟩)))))))))⟩))) (by simp [PS.lv, lkp_hit, lkp_miss, lkp_nil]) (by (repeat' (first | exact wkL_nil | refine wkL_cons ?_ ?_)); all_goals (first | exact .inl ⟨_, _, _, rfl, rfl, rfl⟩ | exact .inr (.inl rfl) | exact .inr (.inr (.inl ⟨_, _, _, _, rfl, rfl, rfl⟩)) | exact .inr (.inr (.inr (.inl ⟨_, _, _, rfl, rfl, rfl, (wkL_get (by (repeat' (first | exact wkL_nil | refine wkL_cons ?_ ?_)); all_goals (first | exact .inl ⟨_, _, _, rfl, rfl, rfl⟩ | exact .inr rfl))).2⟩))) | exact .inr (.inr (.inr (.inr (.inr (.inr (.inl ⟨_, _, _, _, rfl, rfl, rfl⟩)))))) | exact .inr (.inr (.inr (.inr (.inr (.inr (.inr ⟨_, _, _, _, _, rfl, rfl, rfl⟩)))))))) (by decide) (by simp) (by rfl) (by (repeat' (first | exact tok_nil | refine tok_cons ?_ ?_)); all_goals (first | exact rcs_tok _ _ _ _ | exact ics_tok _ _ _ _ | (simp [tokLt1]; done))) (fun _ => by rfl) (by first | rfl | simp [gdOk, newToks]) ?_
      simp -implicitDefEqProofs only [push_cast, rcs_back, seval]
      (repeat (first | refine ⟨(by omega : _ ≤ _), ?_⟩ | refine ⟨(by omega : _ < _), ?_⟩ | refine ⟨(by simp; omega), ?_⟩ | refine ⟨(by simp; done), ?_⟩ | refine ⟨(by (unfold drawOk; kernel_rfl)), ?_⟩))
      refine key _ ?_
      (simp only [ofD1]; exact Wk.by _ _ _ [(0,0),(1,1),(2,2),(3,3),(4,4),(5,5)] [] [] (by simp) (by simp [wkV, PV.el, PV.weak, PS.get, PS.obj, PS.lv, lkp_hit, lkp_miss, lkp_nil, lko, wkL, wkC, res1, rcs_wk, ics_wk]) (by simp [PS.get, PS.obj, PS.lv, lkp_hit, lkp_miss, lkp_nil, lko, wkL, wkC, PV.weak, wkL, wkC, res1, rcs_wk, ics_wk]) (by simp [PS.get, PS.obj, PS.lv, lkp_hit, lkp_miss, lkp_nil, lko]) (by rfl) (by rfl) (by simp [lko]) (by simp) (by simp) (by simp) (fun i hi => by rcases i with _ | _ | _ | _ | _ | _ | i <;> first | rfl | (exfalso; omega)))
    · rw [if_neg c2] at hA
      have e1 : ∀ {α : Type} (a b : α), (if fr = ab then a else b) = a := fun a b => if_pos c1
      have e2 : ∀ {α : Type} (a b : α), (if U.length = fr then a else b) = b := fun a b => if_neg c2
      simp -implicitDefEqProofs only [push_cast, e1, e2, seval]
      (repeat (first | refine ⟨(by omega : _ ≤ _), ?_⟩ | refine ⟨(by omega : _ < _), ?_⟩ | refine ⟨(by simp; omega), ?_⟩ | refine ⟨(by simp; done), ?_⟩ | refine ⟨(by (unfold drawOk; kernel_rfl)), ?_⟩))
      refine callE_box hA [2] [] (by rfl) (by rfl) (by rfl) (by rfl) (by rfl) (by rfl) (fun i j cs h1 h2 => by (rcases i with _ | _ | _ | i <;> simp at h1 h2 <;> (subst h1; subst h2; exact ⟨_, rfl, (by first | exact rcs_cell _ _ _ | exact ics_cell _ _ _ | exact (by (repeat' (first | exact wkL_nil | refine wkL_cons ?_ ?_)); all_goals (first | exact .inl ⟨_, _, _, _, rfl, rfl, rfl⟩ | exact .inr (.inr (.inr (.inr (.inl ⟨_, _, _, rfl, rfl, rfl⟩)))) | exact .inr (.inr (.inr (.inr (.inr (.inl ⟨_, _, _, _, rfl, rfl, rfl⟩))))) | exact .inr (.inr (.inr (.inr (.inr (.inr ⟨_, _, rfl, rfl, rfl⟩))))) | exact .inr (.inl rfl) | exact .inr (.inr (.inl ⟨_, _, _, rfl, rfl, rfl⟩)))) | exact (by (repeat' (first | exact wkL_nil | refine wkL_cons ?_ ?_)); all_goals (first | exact .inr (.inl rfl) | exact .inr (.inr (.inl ⟨_, _, _, rfl, rfl, rfl⟩)) | exact .inr (.inr (.inr (.inl ⟨_, _, _, _, _, rfl, rfl, rfl⟩))) | exact .inr (.inr (.inr (.inr (.inr (.inr (.inr ⟨_, _, _, _, rfl, rfl, rfl⟩)))))))))⟩))) (by simp [PS.lv, lkp_hit, lkp_miss, lkp_nil]) (by (repeat' (first | exact wkL_nil | refine wkL_cons ?_ ?_)); all_goals (first | exact .inl ⟨_, _, _, rfl, rfl, rfl⟩ | exact .inr (.inl rfl) | exact .inr (.inr (.inl ⟨_, _, _, _, rfl, rfl, rfl⟩)) | exact .inr (.inr (.inr (.inl ⟨_, _, _, rfl, rfl, rfl, (wkL_get (by (repeat' (first | exact wkL_nil | refine wkL_cons ?_ ?_)); all_goals (first | exact .inl ⟨_, _, _, rfl, rfl, rfl⟩ | exact .inr rfl))).2⟩))) | exact .inr (.inr (.inr (.inr (.inr (.inr (.inl ⟨_, _, _, _, rfl, rfl, rfl⟩)))))) | exact .inr (.inr (.inr (.inr (.inr (.inr (.inr ⟨_, _, _, _, _, rfl, rfl, rfl⟩)))))))) (by decide) (by simp) (by rfl) (by (repeat' (first | exact tok_nil | refine tok_cons ?_ ?_)); all_goals (first | exact rcs_tok _ _ _ _ | exact ics_tok _ _ _ _ | (simp [tokLt1]; done))) (fun _ => by rfl) (by first | rfl | simp [gdOk, newToks]) ?_
      simp -implicitDefEqProofs only [push_cast, rcs_back, seval]
      (repeat (first | refine ⟨(by omega : _ ≤ _), ?_⟩ | refine ⟨(by omega : _ < _), ?_⟩ | refine ⟨(by simp; omega), ?_⟩ | refine ⟨(by simp; done), ?_⟩ | refine ⟨(by (unfold drawOk; kernel_rfl)), ?_⟩))
      refine key _ ?_
      (simp only [ofD1]; exact Wk.by _ _ _ [(0,0),(1,1),(2,2),(3,3),(4,4),(5,5)] [] [] (by simp) (by simp [wkV, PV.el, PV.weak, PS.get, PS.obj, PS.lv, lkp_hit, lkp_miss, lkp_nil, lko, wkL, wkC, res1, rcs_wk, ics_wk]) (by simp [PS.get, PS.obj, PS.lv, lkp_hit, lkp_miss, lkp_nil, lko, wkL, wkC, PV.weak, wkL, wkC, res1, rcs_wk, ics_wk]) (by simp [PS.get, PS.obj, PS.lv, lkp_hit, lkp_miss, lkp_nil, lko]) (by rfl) (by rfl) (by simp [lko]) (by simp) (by simp) (by simp) (fun i hi => by rcases i with _ | _ | _ | _ | _ | _ | i <;> first | rfl | (exfalso; omega)))
  · rw [if_neg c1] at hA
    by_cases c2 : U.length = fr
    · rw [if_pos c2] at hA
      have e1 : ∀ {α : Type} (a b : α), (if fr = ab then a else b) = b := fun a b => if_neg c1
      have e2 : ∀ {α : Type} (a b : α), (if U.length = fr then a else b) = a := fun a b => if_pos c2
      simp -implicitDefEqProofs only [push_cast, e1, e2, seval]
      (repeat (first | refine ⟨(by omega : _ ≤ _), ?_⟩ | refine ⟨(by omega : _ < _), ?_⟩ | refine ⟨(by simp; omega), ?_⟩ | refine ⟨(by simp; done), ?_⟩ | refine ⟨(by (unfold drawOk; kernel_rfl)), ?_⟩))
      refine callE_box hA [2] [] (by rfl) (by rfl) (by rfl) (by rfl) (by rfl) (by rfl) (fun i j cs h1 h2 => by (rcases i with _ | _ | _ | i <;> simp at h1 h2 <;> (subst h1; subst h2; exact ⟨_, rfl, (by first | exact rcs_cell _ _ _ | exact ics_cell _ _ _ | exact (by (repeat' (first | exact wkL_nil | refine wkL_cons ?_ ?_)); all_goals (first | exact .inl ⟨_, _, _, _, rfl, rfl, rfl⟩ | exact .inr (.inr (.inr (.inr (.inl ⟨_, _, _, rfl, rfl, rfl⟩)))) | exact .inr (.inr (.inr (.inr (.inr (.inl ⟨_, _, _, _, rfl, rfl, rfl⟩))))) | exact .inr (.inr (.inr (.inr (.inr (.inr ⟨_, _, rfl, rfl, rfl⟩))))) | exact .inr (.inl rfl) | exact .inr (.inr (.inl ⟨_, _, _, rfl, rfl, rfl⟩)))) | exact (by (repeat' (first | exact wkL_nil | refine wkL_cons ?_ ?_)); all_goals (first | exact .inr (.inl rfl) | exact .inr (.inr (.inl ⟨_, _, _, rfl, rfl, rfl⟩)) | exact .inr (.inr (.inr (.inl ⟨_, _, _, _, _, rfl, rfl, rfl⟩))) | exact .inr (.inr (.inr (.inr (.inr (.inr (.inr ⟨_, _, _, _, rfl, rfl, rfl⟩)))))))))⟩))) (by simp [PS.lv, lkp_hit, lkp_miss, lkp_nil]) (by (repeat' (first | exact wkL_nil | refine wkL_cons ?_ ?_)); all_goals (first | exact .inl ⟨_, _, _, rfl, rfl, rfl⟩ | exact .inr (.inl rfl) | exact .inr (.inr (.inl ⟨_, _, _, _, rfl, rfl, rfl⟩)) | exact .inr (.inr (.inr (.inl ⟨_, _, _, rfl, rfl, rfl, (wkL_get (by (repeat' (first | exact wkL_nil | refine wkL_cons ?_ ?_)); all_goals (first | exact .inl ⟨_, _, _, rfl, rfl, rfl⟩ | exact .inr rfl))).2⟩))) | exact .inr (.inr (.inr (.inr (.inr (.inr (.inl ⟨_, _, _, _, rfl, rfl, rfl⟩)))))) | exact .inr (.inr (.inr (.inr (.inr (.inr (.inr ⟨_, _, _, _, _, rfl, rfl, rfl⟩)))))))) (by decide) (by simp) (by rfl) (by (repeat' (first | exact tok_nil | refine tok_cons ?_ ?_)); all_goals (first | exact rcs_tok _ _ _ _ | exact ics_tok _ _ _ _ | (simp [tokLt1]; done))) (fun _ => by rfl) (by first | rfl | simp [gdOk, newToks]) ?_
      simp -implicitDefEqProofs only [push_cast, rcs_back, seval]
      (repeat (first | refine ⟨(by omega : _ ≤ _), ?_⟩ | refine ⟨(by omega : _ < _), ?_⟩ | refine ⟨(by simp; omega), ?_⟩ | refine ⟨(by simp; done), ?_⟩ | refine ⟨(by (unfold drawOk; kernel_rfl)), ?_⟩))
      refine key _ ?_
      (simp only [ofD1]; exact Wk.by _ _ _ [(0,0),(1,1),(2,2),(3,3),(4,4),(5,5)] [] [] (by simp) (by simp [wkV, PV.el, PV.weak, PS.get, PS.obj, PS.lv, lkp_hit, lkp_miss, lkp_nil, lko, wkL, wkC, res1, rcs_wk, ics_wk]) (by simp [PS.get, PS.obj, PS.lv, lkp_hit, lkp_miss, lkp_nil, lko, wkL, wkC, PV.weak, wkL, wkC, res1, rcs_wk, ics_wk]) (by simp [PS.get, PS.obj, PS.lv, lkp_hit, lkp_miss, lkp_nil, lko]) (by rfl) (by rfl) (by simp [lko]) (by simp) (by simp) (by simp) (fun i hi => by rcases i with _ | _ | _ | _ | _ | _ | i <;> first | rfl | (exfalso; omega)))
    · rw [if_neg c2] at hA
      have e1 : ∀ {α : Type} (a b : α), (if fr = ab then a else b) = b := fun a b => if_neg c1
      have e2 : ∀ {α : Type} (a b : α), (if U.length = fr then a else b) = b := fun a b => if_neg c2
      simp -implicitDefEqProofs only [push_cast, e1, e2, seval]
      (repeat (first | refine ⟨(by omega : _ ≤ _), ?_⟩ | refine ⟨(by omega : _ < _), ?_⟩ | refine ⟨(by simp; omega), ?_⟩ | refine ⟨(by simp; done), ?_⟩ | refine ⟨(by (unfold drawOk; kernel_rfl)), ?_⟩))
      refine callE_box hA [2] [] (by rfl) (by rfl) (by rfl) (by rfl) (by rfl) (by rfl) (fun i j cs h1 h2 => by (rcases i with _ | _ | _ | i <;> simp at h1 h2 <;> (subst h1; subst h2; exact ⟨_, rfl, (by first | exact rcs_cell _ _ _ | exact ics_cell _ _ _ | exact (by (repeat' (first | exact wkL_nil | refine wkL_cons ?_ ?_)); all_goals (first | exact .inl ⟨_, _, _, _, rfl, rfl, rfl⟩ | exact .inr (.inr (.inr (.inr (.inl ⟨_, _, _, rfl, rfl, rfl⟩)))) | exact .inr (.inr (.inr (.inr (.inr (.inl ⟨_, _, _, _, rfl, rfl, rfl⟩))))) | exact .inr (.inr (.inr (.inr (.inr (.inr ⟨_, _, rfl, rfl, rfl⟩))))) | exact .inr (.inl rfl) | exact .inr (.inr (.inl ⟨_, _, _, rfl, rfl, rfl⟩)))) | exact (by (repeat' (first | exact wkL_nil | refine wkL_cons ?_ ?_)); all_goals (first | exact .inr (.inl rfl) | exact .inr (.inr (.inl ⟨_, _, _, rfl, rfl, rfl⟩)) | exact .inr (.inr (.inr (.inl ⟨_, _, _, _, _, rfl, rfl, rfl⟩))) | exact .inr (.inr (.inr (.inr (.inr (.inr (.inr ⟨_, _, _, _, rfl, rfl, rfl⟩)))))))))⟩))) (by simp [PS.lv, lkp_hit, lkp_miss, lkp_nil]) (by (repeat' (first | exact wkL_nil | refine wkL_cons ?_ ?_)); all_goals (first | exact .inl ⟨_, _, _, rfl, rfl, rfl⟩ | exact .inr (.inl rfl) | exact .inr (.inr (.inl ⟨_, _, _, _, rfl, rfl, rfl⟩)) | exact .inr (.inr (.inr (.inl ⟨_, _, _, rfl, rfl, rfl, (wkL_get (by (repeat' (first | exact wkL_nil | refine wkL_cons ?_ ?_)); all_goals (first | exact .inl ⟨_, _, _, rfl, rfl, rfl⟩ | exact .inr rfl))).2⟩))) | exact .inr (.inr (.inr (.inr (.inr (.inr (.inl ⟨_, _, _, _, rfl, rfl, rfl⟩)))))) | exact .inr (.inr (.inr (.inr (.inr (.inr (.inr ⟨_, _, _, _, _, rfl, rfl, rfl⟩)))))))) (by decide) (by simp) (by rfl) (by (repeat' (first | exact tok_nil | refine tok_cons ?_ ?_)); all_goals (first | exact rcs_tok _ _ _ _ | exact ics_tok _ _ _ _ | (simp [tokLt1]; done))) (fun _ => by rfl) (by first | rfl | simp [gdOk, newToks]) ?_
      simp -implicitDefEqProofs only [push_cast, rcs_back, seval]
      (repeat (first | refine ⟨(by omega : _ ≤ _), ?_⟩ | refine ⟨(by omega : _ < _), ?_⟩ | refine ⟨(by simp; omega), ?_⟩ | refine ⟨(by simp; done), ?_⟩ | refine ⟨(by (unfold drawOk; kernel_rfl)), ?_⟩))
      refine key _ ?_
      (simp only [ofD1]; exact Wk.by _ _ _ [(0,0),(1,1),(2,2),(3,3),(4,4),(5,5)] [] [] (by simp) (by simp [wkV, PV.el, PV.weak, PS.get, PS.obj, PS.lv, lkp_hit, lkp_miss, lkp_nil, lko, wkL, wkC, res1, rcs_wk, ics_wk]) (by simp [PS.get, PS.obj, PS.lv, lkp_hit, lkp_miss, lkp_nil, lko, wkL, wkC, PV.weak, wkL, wkC, res1, rcs_wk, ics_wk]) (by simp [PS.get, PS.obj, PS.lv, lkp_hit, lkp_miss, lkp_nil, lko]) (by rfl) (by rfl) (by simp [lko]) (by simp) (by simp) (by simp) (fun i hi => by rcases i with _ | _ | _ | _ | _ | _ | i <;> first | rfl | (exfalso; omega)))
end Go.Proofs.Sh

/- Package band, Of: the stretches of a row become a new band. -/
set_option maxRecDepth 100000
set_option linter.unusedSimpArgs false
set_option linter.unusedVariables false
namespace Go.Proofs.Sh
open Go.Pv
open Rg
theorem spans_fs (R : List Rt) : Fsp Try.prog 32 [rcs R] 0 [.slg 0 R.length 4] [rcs R, [.slg 0 R.length 4]] 0 (.fn 54 [.box 1 0]) := by
  (refine Fsp.of (nx := 1) mixed Try.func32 rfl (by decide) (by first | exact Nat.le_refl _ | simp) (by simp [Try.f32]) ⟨by simp, by simp⟩ ?_; simp -implicitDefEqProofs only [push_cast, Try.f32, seval])
  exact endK_box [] [0, 1] rfl rfl (by simp [PS.lv, lkp_hit, lkp_miss, lkp_nil]) rfl rfl (by rfl) (fun i j ps h1 h2 => by (rcases i with _ | _ | i <;> simp at h1 h2 <;> (subst h1; subst h2; exact ⟨_, rfl, (by first | exact rcs_res _ _ _ | exact ics_res _ _ _ | exact (by (repeat' (first | exact wkL_nil | refine wkL_cons ?_ ?_)); all_goals (first | rfl | exact ⟨rfl, rfl⟩ | exact ⟨rfl, rfl, rfl⟩ | exact .inl rfl)))⟩))) ⟨by simp [resOk, PS.get, lkp_hit, lkp_miss, PS.ev], by simp [resPV, PS.get, lkp_hit, lkp_miss, PS.ev], by simp [resOf, resPV, one', res3, res2, res1, PS.get, lkp_hit, lkp_miss, PS.ev, PV.weak, PV.el, wkL]⟩
/-- Whether there is a row yet, and by which number: none; the one of before; one of the rounds. -/
inductive Gf where
  | a
  | b
  | c
def gf : Bool → Gf
  | true => .a
  | false => .b
def oc (g : Gf) (n : Nat) : PV := match g with
  | .a => .nilsl
  | .b => .slg 2 n 4
  | .c => .slg 8 n 4
def ob (g : Gf) (out : List Rt) : List (Nat × Option (List PV)) := match g with
  | .a => []
  | .b => [(2, some (rcs out))]
  | .c => [(8, some (rcs out))]
/-- Before the stretches are told. -/
def ofC2 (A : List Rt) (ys : List Int) (fl : Bool) (out row : List Rt) (ab nx i fr : Nat) (y z : Int) : PS := { n := 134, env := [(15, .int .i64 fr), (13, .box 5 0), (12, .box 4 0), (11, .int .i64 i), (10, .int .i64 nx), (9, .int .i64 ab), (8, .slg 3 row.length 4), (7, .box 1 0), (6, .sl 1 (ics ys)), (3, .sl 4 (rts A)), (2, .box 0 0)], objs := (0, some [.nilsl]) :: (1, some [oc (gf fl) out.length]) :: (3, some (rcs row)) :: (4, some [.int .i64 y]) :: (5, some [.int .i64 z]) :: ob (gf fl) out, live := [], nxt := 6 }
def ofC3s (A : List Rt) (ys : List Int) (fl : Bool) (out row : List Rt) (ab nx i fr : Nat) (y z : Int) : PS := { n := 134, env := [(85, .fn 54 [.box 6 0]), (15, .int .i64 fr), (13, .box 5 0), (12, .box 4 0), (11, .int .i64 i), (10, .int .i64 nx), (9, .int .i64 ab), (8, .slg 3 row.length 4), (7, .box 1 0), (6, .sl 1 (ics ys)), (3, .sl 4 (rts A)), (2, .box 0 0)], objs := (0, some [.nilsl]) :: (1, some [oc (gf fl) out.length]) :: (3, some (rcs row)) :: (4, some [.int .i64 y]) :: (5, some [.int .i64 z]) :: (6, some [.slg 3 row.length 4]) :: ob (gf fl) out, live := [], nxt := 7 }
structure SpA (out row : List Rt) where
  g : Gf
  k : Nat
  pre : List (Int × Int)
  hk : k ≤ row.length
  hp : pre.length ≤ k
  he : pre ++ mrgs (str (row.drop k)) = mrgs (str row)
  hg : g = .a → out = [] ∧ pre = [] ∧ row ≠ []
def SpA.st (y z : Int) {out row : List Rt} (a : SpA out row) : PS := { n := 63, env := [(3, .int .i64 a.k), (1, .box 6 0), (0, .yld 7)], objs := (0, some [.nilsl]) :: (1, some [oc a.g (out ++ nw a.pre y z).length]) :: (3, some (rcs row)) :: (4, some [.int .i64 y]) :: (5, some [.int .i64 z]) :: (6, some [.slg 3 row.length 4]) :: ob a.g (out ++ nw a.pre y z), live := [], nxt := 9 }
structure SiA (row : List Rt) (a : Int) (M : List (Int × Int)) (k0 : Nat) where
  k : Nat
  b : Int
  hk : k ≤ row.length
  hk0 : k0 ≤ k
  he : mrg a b (str (row.drop k)) = M
  hbb : a < b ∧ b ≤ 1048576
def SiA.st (y z : Int) (g : Gf) (out : List Rt) {row : List Rt} {a : Int} {M : List (Int × Int)} {k0 : Nat} (x : SiA row a M k0) : PS := { n := 63, env := [(4, .box 9 0), (3, .int .i64 x.k), (1, .box 6 0), (0, .yld 7)], objs := (9, some [.int .i64 a, .int .i64 x.b]) :: (0, some [.nilsl]) :: (1, some [oc g out.length]) :: (3, some (rcs row)) :: (4, some [.int .i64 y]) :: (5, some [.int .i64 z]) :: (6, some [.slg 3 row.length 4]) :: ob g out, live := [], nxt := 10 }
theorem str_drop {row : List Rt} {k : Nat} (h : k < row.length) : str (row.drop k) = (row[k].x, row[k].x + row[k].w) :: str (row.drop (k + 1)) := by rw [rdrop h]; rfl
theorem mrg_ne : ∀ (a b : Int) (R : List (Int × Int)), mrg a b R ≠ []
  | a, b, [] => by simp [mrg]
  | a, b, s :: R => by
    rw [mrg]
    split
    · exact mrg_ne _ _ R
    · simp
theorem mrgs_ne {row : List Rt} (h : row ≠ []) : mrgs (str row) ≠ [] := by
  cases row with
  | nil => exact absurd rfl h
  | cons r row => exact mrg_ne _ _ _
theorem mrgs_cons {s : Int × Int} {R : List (Int × Int)} : mrgs (s :: R) = mrg s.1 s.2 R := rfl
theorem nw_app (s t : List (Int × Int)) (y z : Int) : nw (s ++ t) y z = nw s y z ++ nw t y z := List.map_append
set_option maxHeartbeats 2000000 in
theorem ofC2_fs (A : List Rt) (ys : List Int) (fl : Bool) (out row : List Rt) (hb : Bnd row) (hl : out.length + (mrgs (str row)).length ≤ 4398046511104) (hl2 : row.length ≤ 4398046511104) (hfl : fl = true → out = [] ∧ row ≠ []) (ab nx i fr : Nat) (y z : Int) (hy : -1048576 ≤ y ∧ y < z ∧ z ≤ 1048576) (Q : Post)
    (hQ : PWP Try.prog 0 (tailN 6 (ofC3 Try.f5)) Q (ofD A ys (out ++ nw (mrgs (str row)) y z) row ab nx i fr y z)) : PWP Try.prog 0 (tailN 5 (ofC3 Try.f5)) Q (ofC2 A ys fl out row ab nx i fr y z) := by
  have hS := spans_fs row
  refine PWP.cutV mixed 0 ?_
  have key : ∀ S', Wk 0 S' (ofD A ys (out ++ nw (mrgs (str row)) y z) row ab nx i fr y z) → seqK (PWP Try.prog 0 (tailN 0 (tailN 5 (ofC3 Try.f5)))) Q .normal S' := fun S' hw => PWP.weak hw hQ
  generalize seqK (PWP Try.prog 0 (tailN 0 (tailN 5 (ofC3 Try.f5)))) Q = Q2 at *
  simp only [ofC3, Try.f5, Option.getD_some, tailN, headN, loopOf, blkOf]
  simp only [ofC2]
  simp -implicitDefEqProofs only [push_cast, seval]
  refine callE_box hS [3] [] (by rfl) (by rfl) (by rfl) (by rfl) (by rfl) (by rfl) (fun i j cs h1 h2 => by (rcases i with _ | _ | _ | i <;> simp at h1 h2 <;> (subst h1; subst h2; exact ⟨_, rfl, (by first | exact rcs_cell _ _ _ | exact ics_cell _ _ _ | exact (by (repeat' (first | exact wkL_nil | refine wkL_cons ?_ ?_)); all_goals (first | exact .inl ⟨_, _, _, _, rfl, rfl, rfl⟩ | exact .inr (.inr (.inr (.inr (.inl ⟨_, _, _, rfl, rfl, rfl⟩)))) | exact .inr (.inr (.inr (.inr (.inr (.inl ⟨_, _, _, _, rfl, rfl, rfl⟩))))) | exact .inr (.inr (.inr (.inr (.inr (.inr ⟨_, _, rfl, rfl, rfl⟩))))) | exact .inr (.inl rfl) | exact .inr (.inr (.inl ⟨_, _, _, rfl, rfl, rfl⟩)))) | exact (by (repeat' (first | exact wkL_nil | refine wkL_cons ?_ ?_)); all_goals (first | exact .inr (.inl rfl) | exact .inr (.inr (.inl ⟨_, _, _, rfl, rfl, rfl⟩)) | exact .inr (.inr (.inr (.inl ⟨_, _, _, _, _, rfl, rfl, rfl⟩))) | exact .inr (.inr (.inr (.inr (.inr (.inr (.inr ⟨_, _, _, _, rfl, rfl, rfl⟩)))))))))⟩))) (by simp [PS.lv, lkp_hit, lkp_miss, lkp_nil]) (by (repeat' (first | exact wkL_nil | refine wkL_cons ?_ ?_)); all_goals (first | exact .inl ⟨_, _, _, rfl, rfl, rfl⟩ | exact .inr (.inl rfl) | exact .inr (.inr (.inl ⟨_, _, _, _, rfl, rfl, rfl⟩)) | exact .inr (.inr (.inr (.inl ⟨_, _, _, rfl, rfl, rfl, (wkL_get (by (repeat' (first | exact wkL_nil | refine wkL_cons ?_ ?_)); all_goals (first | exact .inl ⟨_, _, _, rfl, rfl, rfl⟩ | exact .inr rfl))).2⟩))) | exact .inr (.inr (.inr (.inr (.inr (.inr (.inl ⟨_, _, _, _, rfl, rfl, rfl⟩)))))) | exact .inr (.inr (.inr (.inr (.inr (.inr (.inr ⟨_, _, _, _, _, rfl, rfl, rfl⟩)))))))) (by decide) (by simp) (by rfl) (by (repeat' (first | exact tok_nil | refine tok_cons ?_ ?_)); all_goals (first | exact rcs_tok _ _ _ _ | exact ics_tok _ _ _ _ | (simp [tokLt1]; done))) (fun _ => by rfl) (by first | rfl | simp [gdOk, newToks]) ?_
  simp -implicitDefEqProofs only [push_cast, rcs_back, seval]
  refine PWP.rangeY (ofC3s A ys fl out row ab nx i fr y z) ?_ 54 [.box 6 0] rfl Try.func54 rfl (by decide) rfl (by decide) ?_
  · cases fl with
    | true =>
      (simp only [ofC3s, zipB, upto, List.cons_append, List.nil_append, ob, oc, gf]; exact Wk.by _ _ _ [(0,0),(1,1),(3,3),(4,4),(5,5),(6,10)] [] [] (by simp) (by simp [wkV, PV.el, PV.weak, PS.get, PS.obj, PS.lv, lkp_hit, lkp_miss, lkp_nil, lko, wkL, wkC, res1, rcs_wk, ics_wk]) (by simp [PS.get, PS.obj, PS.lv, lkp_hit, lkp_miss, lkp_nil, lko, wkL, wkC, PV.weak, wkL, wkC, res1, rcs_wk, ics_wk]) (by simp [PS.get, PS.obj, PS.lv, lkp_hit, lkp_miss, lkp_nil, lko]) (by rfl) (by rfl) (by simp [lko]) (by simp) (by simp) (by simp) (fun i hi => by rcases i with _ | _ | _ | _ | _ | _ | i <;> first | rfl | (exfalso; omega)))
    | false =>
      (simp only [ofC3s, zipB, upto, List.cons_append, List.nil_append, ob, oc, gf]; exact Wk.by _ _ _ [(0,0),(1,1),(2,2),(3,3),(4,4),(5,5),(6,10)] [] [] (by simp) (by simp [wkV, PV.el, PV.weak, PS.get, PS.obj, PS.lv, lkp_hit, lkp_miss, lkp_nil, lko, wkL, wkC, res1, rcs_wk, ics_wk]) (by simp [PS.get, PS.obj, PS.lv, lkp_hit, lkp_miss, lkp_nil, lko, wkL, wkC, PV.weak, wkL, wkC, res1, rcs_wk, ics_wk]) (by simp [PS.get, PS.obj, PS.lv, lkp_hit, lkp_miss, lkp_nil, lko]) (by rfl) (by rfl) (by simp [lko]) (by simp) (by simp) (by simp) (fun i hi => by rcases i with _ | _ | _ | _ | _ | _ | i <;> first | rfl | (exfalso; omega)))
  refine VCY_sound mixed ?_
  have hn46 : Try.f54.ntmps = 63 := rfl
  simp -implicitDefEqProofs only [push_cast, itS, hn46, seval]
  refine YWP.loop (α := SpA out row) (SpA.st y z) (fun _ => none) (fun a => row.length - a.k) ⟨gf fl, 0, [], Nat.zero_le _, Nat.le_refl _, rfl, fun h => by cases fl with | true => exact ⟨(hfl rfl).1, rfl, (hfl rfl).2⟩ | false => cases h⟩ ?_ rfl ?_
  · cases fl with
    | true =>
      (simp only [SpA.st, ofC3s, ycOf, ob, oc, gf, nw, List.map_nil, List.append_nil]; exact Wk.by _ _ _ [(0,0),(1,1),(2,2),(3,3),(4,4),(5,5),(6,6),(7,7)] [] [] (by simp) (by simp [wkV, wkL, PV.el, PV.weak, PS.get, PS.obj, PS.lv, lkp_hit, lkp_miss, lkp_nil, lko]) (by simp [PS.get, PS.obj, PS.lv, lkp_hit, lkp_miss, lkp_nil, lko, wkL, wkC, PV.weak, rcs_wk, ics_wk]) (by simp) (by rfl) (by rfl) (by simp [lko]) (by simp) (by simp) (by simp) (fun i hi => by have hi' : i < 8 := hi; rcases i with _ | _ | _ | _ | _ | _ | _ | _ | i <;> first | rfl | (exfalso; omega)))
    | false =>
      (simp only [SpA.st, ofC3s, ycOf, ob, oc, gf, nw, List.map_nil, List.append_nil]; exact Wk.by _ _ _ [(0,0),(1,1),(2,2),(3,3),(4,4),(5,5),(6,6),(7,7)] [] [] (by simp) (by simp [wkV, wkL, PV.el, PV.weak, PS.get, PS.obj, PS.lv, lkp_hit, lkp_miss, lkp_nil, lko]) (by simp [PS.get, PS.obj, PS.lv, lkp_hit, lkp_miss, lkp_nil, lko, wkL, wkC, PV.weak, rcs_wk, ics_wk]) (by simp) (by rfl) (by rfl) (by simp [lko]) (by simp) (by simp) (by simp) (fun i hi => by have hi' : i < 8 := hi; rcases i with _ | _ | _ | _ | _ | _ | _ | _ | i <;> first | rfl | (exfalso; omega)))
  rintro ⟨g, k, pre, hk, hp, he, hg⟩
  refine VCY_sound mixed ?_
  simp only [SpA.st]
  cases c1 : decide ((k : Int) < (row.length : Int)) with
  | false =>
    have hke : k = row.length := by simp at c1; omega
    subst hke
    have hpre : pre = mrgs (str row) := by rw [← he, List.drop_length, show mrgs (str []) = [] from rfl, List.append_nil]
    cases g with
    | a =>
      obtain ⟨-, h2, h3⟩ := hg rfl
      exact absurd (hpre.symm.trans h2) (mrgs_ne h3)
    | b =>
      simp -implicitDefEqProofs only [push_cast, c1, seval]
      refine ⟨.inl rfl, key _ ?_⟩
      rw [hpre]
      simp -implicitDefEqProofs only [push_cast, ofC3s, seval]
      (simp only [ofD, ob, oc]; exact Wk.by _ _ _ [(0,0),(1,1),(2,2),(3,3),(4,4),(5,5)] [] [] (by simp) (by simp [wkV, PV.el, PV.weak, PS.get, PS.obj, PS.lv, lkp_hit, lkp_miss, lkp_nil, lko, wkL, wkC, res1, rcs_wk, ics_wk]) (by simp [PS.get, PS.obj, PS.lv, lkp_hit, lkp_miss, lkp_nil, lko, wkL, wkC, PV.weak, wkL, wkC, res1, rcs_wk, ics_wk]) (by simp [PS.get, PS.obj, PS.lv, lkp_hit, lkp_miss, lkp_nil, lko]) (by rfl) (by rfl) (by simp [lko]) (by simp) (by simp) (by simp) (fun i hi => by rcases i with _ | _ | _ | _ | _ | _ | i <;> first | rfl | (exfalso; omega)))
    | c =>
      simp -implicitDefEqProofs only [push_cast, c1, seval]
      refine ⟨.inl rfl, key _ ?_⟩
      rw [hpre]
      simp -implicitDefEqProofs only [push_cast, ofC3s, seval]
      (simp only [ofD, ob, oc]; exact Wk.by _ _ _ [(0,0),(1,1),(2,8),(3,3),(4,4),(5,5)] [] [] (by simp) (by simp [wkV, PV.el, PV.weak, PS.get, PS.obj, PS.lv, lkp_hit, lkp_miss, lkp_nil, lko, wkL, wkC, res1, rcs_wk, ics_wk]) (by simp [PS.get, PS.obj, PS.lv, lkp_hit, lkp_miss, lkp_nil, lko, wkL, wkC, PV.weak, wkL, wkC, res1, rcs_wk, ics_wk]) (by simp [PS.get, PS.obj, PS.lv, lkp_hit, lkp_miss, lkp_nil, lko]) (by rfl) (by rfl) (by simp [lko]) (by simp) (by simp) (by simp) (fun i hi => by rcases i with _ | _ | _ | _ | _ | _ | i <;> first | rfl | (exfalso; omega)))
  | true =>
    have hlt : k < row.length := by simp at c1; omega
    have hu := wr_up (k := k) (by omega)
    have p := cnt_pos (hb _ (List.getElem_mem hlt))
    have f0 := rcs_f0 hlt
    have f2 := rcs_f2 hlt
    have ro0 : 1 ≤ ((rcs row).drop (k * 4)).length := by rw [List.length_drop, rcs_length]; omega
    have ro2 : 1 ≤ ((rcs row).drop (k * 4 + 2)).length := by rw [List.length_drop, rcs_length]; omega
    have w1 : IntKind.i64.wrap (row[k].x + row[k].w) = row[k].x + row[k].w := wrap_i64_id (by omega) (by omega)
    simp -implicitDefEqProofs only [push_cast, c1, f0, f2, w1, seval]
    (repeat (first | refine ⟨(by omega : _ ≤ _), ?_⟩ | refine ⟨(by omega : _ < _), ?_⟩ | refine ⟨(by simp; omega), ?_⟩ | refine ⟨(by simp; done), ?_⟩ | refine ⟨(by (unfold drawOk; kernel_rfl)), ?_⟩))
    simp -implicitDefEqProofs only [push_cast, hu, seval]
    refine YWP.mono (Q := fun e S' pe' => e = .exit 2 ∧ pe' = none ∧ ∃ x : SiA row row[k].x (mrg row[k].x (row[k].x + row[k].w) (str (row.drop (k + 1)))) (k + 1), mrg row[k].x (row[k].x + row[k].w) (str (row.drop (k + 1))) = (row[k].x, x.b) :: mrgs (str (row.drop x.k)) ∧ Wk 8 S' (SiA.st y z g (out ++ nw pre y z) x)) ?_ ?_
    · refine YWP.loop (α := SiA row row[k].x (mrg row[k].x (row[k].x + row[k].w) (str (row.drop (k + 1)))) (k + 1)) (SiA.st y z g (out ++ nw pre y z)) (fun _ => none) (fun x => row.length - x.k) ⟨k + 1, row[k].x + row[k].w, hlt, Nat.le_refl _, rfl, by omega, by omega⟩ ?_ rfl ?_
      · cases g with
        | a =>
          (simp only [SiA.st, ofC3s, ycOf, ob, oc]; exact Wk.by _ _ _ [(0,0),(1,1),(2,2),(3,3),(4,4),(5,5),(6,6),(7,7),(9,93)] [] [] (by simp) (by simp [wkV, wkL, PV.el, PV.weak, PS.get, PS.obj, PS.lv, lkp_hit, lkp_miss, lkp_nil, lko]) (by simp [PS.get, PS.obj, PS.lv, lkp_hit, lkp_miss, lkp_nil, lko, wkL, wkC, PV.weak, rcs_wk, ics_wk]) (by simp) (by rfl) (by rfl) (by simp [lko]) (by simp) (by simp) (by simp) (fun i hi => by have hi' : i < 8 := hi; rcases i with _ | _ | _ | _ | _ | _ | _ | _ | i <;> first | rfl | (exfalso; omega)))
        | b =>
          (simp only [SiA.st, ofC3s, ycOf, ob, oc]; exact Wk.by _ _ _ [(0,0),(1,1),(2,2),(3,3),(4,4),(5,5),(6,6),(7,7),(9,93)] [] [] (by simp) (by simp [wkV, wkL, PV.el, PV.weak, PS.get, PS.obj, PS.lv, lkp_hit, lkp_miss, lkp_nil, lko]) (by simp [PS.get, PS.obj, PS.lv, lkp_hit, lkp_miss, lkp_nil, lko, wkL, wkC, PV.weak, rcs_wk, ics_wk]) (by simp) (by rfl) (by rfl) (by simp [lko]) (by simp) (by simp) (by simp) (fun i hi => by have hi' : i < 8 := hi; rcases i with _ | _ | _ | _ | _ | _ | _ | _ | i <;> first | rfl | (exfalso; omega)))
        | c =>
          (simp only [SiA.st, ofC3s, ycOf, ob, oc]; exact Wk.by _ _ _ [(0,0),(1,1),(2,2),(3,3),(4,4),(5,5),(6,6),(7,7),(8,8),(9,93)] [] [] (by simp) (by simp [wkV, wkL, PV.el, PV.weak, PS.get, PS.obj, PS.lv, lkp_hit, lkp_miss, lkp_nil, lko]) (by simp [PS.get, PS.obj, PS.lv, lkp_hit, lkp_miss, lkp_nil, lko, wkL, wkC, PV.weak, rcs_wk, ics_wk]) (by simp) (by rfl) (by rfl) (by simp [lko]) (by simp) (by simp) (by simp) (fun i hi => by have hi' : i < 8 := hi; rcases i with _ | _ | _ | _ | _ | _ | _ | _ | i <;> first | rfl | (exfalso; omega)))
      rintro ⟨k2, b, hk2, hk02, he2, hbb⟩
      refine VCY_sound mixed ?_
      simp only [SiA.st]
      cases c2 : decide ((k2 : Int) < (row.length : Int)) with
      | false =>
        have hke : k2 = row.length := by simp at c2; omega
        subst hke
        have hd0 : ((rcs row).drop (row.length * 4)).getD 0 .any = .any := by rw [List.drop_of_length_le (by rw [rcs_length]; exact Nat.le_refl _)]; rfl
        simp -implicitDefEqProofs only [push_cast, c2, hd0, seval]
        (repeat (first | refine ⟨(by omega : _ ≤ _), ?_⟩ | refine ⟨(by omega : _ < _), ?_⟩ | refine ⟨(by simp; omega), ?_⟩ | refine ⟨(by simp; done), ?_⟩ | refine ⟨(by (unfold drawOk; kernel_rfl)), ?_⟩))
        refine ⟨⟨row.length, b, hk2, hk02, he2, hbb⟩, ?_, ?_⟩
        · exact he2.symm.trans (by rw [List.drop_length]; rfl)
        · cases g with
          | a =>
            (simp only [SiA.st, ofC3s, ycOf, ob, oc]; exact Wk.by _ _ _ [(0,0),(1,1),(2,2),(3,3),(4,4),(5,5),(6,6),(7,7),(9,9)] [] [] (by simp) (by simp [wkV, wkL, PV.el, PV.weak, PS.get, PS.obj, PS.lv, lkp_hit, lkp_miss, lkp_nil, lko]) (by simp [PS.get, PS.obj, PS.lv, lkp_hit, lkp_miss, lkp_nil, lko, wkL, wkC, PV.weak, rcs_wk, ics_wk]) (by simp) (by rfl) (by rfl) (by simp [lko]) (by simp) (by simp) (by simp) (fun i hi => by have hi' : i < 8 := hi; rcases i with _ | _ | _ | _ | _ | _ | _ | _ | i <;> first | rfl | (exfalso; omega)))
          | b =>
            (simp only [SiA.st, ofC3s, ycOf, ob, oc]; exact Wk.by _ _ _ [(0,0),(1,1),(2,2),(3,3),(4,4),(5,5),(6,6),(7,7),(9,9)] [] [] (by simp) (by simp [wkV, wkL, PV.el, PV.weak, PS.get, PS.obj, PS.lv, lkp_hit, lkp_miss, lkp_nil, lko]) (by simp [PS.get, PS.obj, PS.lv, lkp_hit, lkp_miss, lkp_nil, lko, wkL, wkC, PV.weak, rcs_wk, ics_wk]) (by simp) (by rfl) (by rfl) (by simp [lko]) (by simp) (by simp) (by simp) (fun i hi => by have hi' : i < 8 := hi; rcases i with _ | _ | _ | _ | _ | _ | _ | _ | i <;> first | rfl | (exfalso; omega)))
          | c =>
            (simp only [SiA.st, ofC3s, ycOf, ob, oc]; exact Wk.by _ _ _ [(0,0),(1,1),(2,2),(3,3),(4,4),(5,5),(6,6),(7,7),(8,8),(9,9)] [] [] (by simp) (by simp [wkV, wkL, PV.el, PV.weak, PS.get, PS.obj, PS.lv, lkp_hit, lkp_miss, lkp_nil, lko]) (by simp [PS.get, PS.obj, PS.lv, lkp_hit, lkp_miss, lkp_nil, lko, wkL, wkC, PV.weak, rcs_wk, ics_wk]) (by simp) (by rfl) (by rfl) (by simp [lko]) (by simp) (by simp) (by simp) (fun i hi => by have hi' : i < 8 := hi; rcases i with _ | _ | _ | _ | _ | _ | _ | _ | i <;> first | rfl | (exfalso; omega)))
      | true =>
        have hlt2 : k2 < row.length := by simp at c2; omega
        have g0 := rcs_f0 hlt2
        have so0 : 1 ≤ ((rcs row).drop (k2 * 4)).length := by rw [List.length_drop, rcs_length]; omega
        have q := cnt_pos (hb _ (List.getElem_mem hlt2))
        have hu2 := wr_up (k := k2) (by omega)
        cases c3 : decide (row[k2].x ≤ b) with
        | false =>
          simp -implicitDefEqProofs only [push_cast, c2, g0, c3, seval]
          (repeat (first | refine ⟨(by omega : _ ≤ _), ?_⟩ | refine ⟨(by omega : _ < _), ?_⟩ | refine ⟨(by simp; omega), ?_⟩ | refine ⟨(by simp; done), ?_⟩ | refine ⟨(by (unfold drawOk; kernel_rfl)), ?_⟩))
          refine ⟨⟨k2, b, hk2, hk02, he2, hbb⟩, ?_, ?_⟩
          · exact he2.symm.trans (by rw [str_drop hlt2, mrg, if_neg (by simpa using c3)]; rfl)
          · cases g with
            | a =>
              (simp only [SiA.st, ofC3s, ycOf, ob, oc]; exact Wk.by _ _ _ [(0,0),(1,1),(2,2),(3,3),(4,4),(5,5),(6,6),(7,7),(9,9)] [] [] (by simp) (by simp [wkV, wkL, PV.el, PV.weak, PS.get, PS.obj, PS.lv, lkp_hit, lkp_miss, lkp_nil, lko]) (by simp [PS.get, PS.obj, PS.lv, lkp_hit, lkp_miss, lkp_nil, lko, wkL, wkC, PV.weak, rcs_wk, ics_wk]) (by simp) (by rfl) (by rfl) (by simp [lko]) (by simp) (by simp) (by simp) (fun i hi => by have hi' : i < 8 := hi; rcases i with _ | _ | _ | _ | _ | _ | _ | _ | i <;> first | rfl | (exfalso; omega)))
            | b =>
              (simp only [SiA.st, ofC3s, ycOf, ob, oc]; exact Wk.by _ _ _ [(0,0),(1,1),(2,2),(3,3),(4,4),(5,5),(6,6),(7,7),(9,9)] [] [] (by simp) (by simp [wkV, wkL, PV.el, PV.weak, PS.get, PS.obj, PS.lv, lkp_hit, lkp_miss, lkp_nil, lko]) (by simp [PS.get, PS.obj, PS.lv, lkp_hit, lkp_miss, lkp_nil, lko, wkL, wkC, PV.weak, rcs_wk, ics_wk]) (by simp) (by rfl) (by rfl) (by simp [lko]) (by simp) (by simp) (by simp) (fun i hi => by have hi' : i < 8 := hi; rcases i with _ | _ | _ | _ | _ | _ | _ | _ | i <;> first | rfl | (exfalso; omega)))
            | c =>
              (simp only [SiA.st, ofC3s, ycOf, ob, oc]; exact Wk.by _ _ _ [(0,0),(1,1),(2,2),(3,3),(4,4),(5,5),(6,6),(7,7),(8,8),(9,9)] [] [] (by simp) (by simp [wkV, wkL, PV.el, PV.weak, PS.get, PS.obj, PS.lv, lkp_hit, lkp_miss, lkp_nil, lko]) (by simp [PS.get, PS.obj, PS.lv, lkp_hit, lkp_miss, lkp_nil, lko, wkL, wkC, PV.weak, rcs_wk, ics_wk]) (by simp) (by rfl) (by rfl) (by simp [lko]) (by simp) (by simp) (by simp) (fun i hi => by have hi' : i < 8 := hi; rcases i with _ | _ | _ | _ | _ | _ | _ | _ | i <;> first | rfl | (exfalso; omega)))
        | true =>
          have g2 := rcs_f2 hlt2
          have so2 : 1 ≤ ((rcs row).drop (k2 * 4 + 2)).length := by rw [List.length_drop, rcs_length]; omega
          have w2 : IntKind.i64.wrap (row[k2].x + row[k2].w) = row[k2].x + row[k2].w := wrap_i64_id (by omega) (by omega)
          simp -implicitDefEqProofs only [push_cast, c2, g0, c3, g2, w2, seval]
          (repeat (first | refine ⟨(by omega : _ ≤ _), ?_⟩ | refine ⟨(by omega : _ < _), ?_⟩ | refine ⟨(by simp; omega), ?_⟩ | refine ⟨(by simp; done), ?_⟩ | refine ⟨(by (unfold drawOk; kernel_rfl)), ?_⟩))
          simp -implicitDefEqProofs only [push_cast, hu2, seval]
          refine ⟨⟨k2 + 1, if b < row[k2].x + row[k2].w then row[k2].x + row[k2].w else b, hlt2, by omega, ?_, by split <;> omega⟩, by simp only; omega, ?_, rfl⟩
          · have he3 := he2
            rw [str_drop hlt2, mrg, if_pos (by simpa using c3)] at he3
            rw [← he3]
            congr 1
            simp only [Int.max_def]
            split <;> split <;> omega
          · cases g with
            | a =>
              (simp only [SiA.st, ofC3s, ycOf, ob, oc]; exact Wk.by _ _ _ [(0,0),(1,1),(2,2),(3,3),(4,4),(5,5),(6,6),(7,7),(9,9)] [] [] (by simp) (by simp [wkV, wkL, PV.el, PV.weak, PS.get, PS.obj, PS.lv, lkp_hit, lkp_miss, lkp_nil, lko]) (by simp [PS.get, PS.obj, PS.lv, lkp_hit, lkp_miss, lkp_nil, lko, wkL, wkC, PV.weak, rcs_wk, ics_wk]) (by simp) (by rfl) (by rfl) (by simp [lko]) (by simp) (by simp) (by simp) (fun i hi => by have hi' : i < 8 := hi; rcases i with _ | _ | _ | _ | _ | _ | _ | _ | i <;> first | rfl | (exfalso; omega)))
            | b =>
              (simp only [SiA.st, ofC3s, ycOf, ob, oc]; exact Wk.by _ _ _ [(0,0),(1,1),(2,2),(3,3),(4,4),(5,5),(6,6),(7,7),(9,9)] [] [] (by simp) (by simp [wkV, wkL, PV.el, PV.weak, PS.get, PS.obj, PS.lv, lkp_hit, lkp_miss, lkp_nil, lko]) (by simp [PS.get, PS.obj, PS.lv, lkp_hit, lkp_miss, lkp_nil, lko, wkL, wkC, PV.weak, rcs_wk, ics_wk]) (by simp) (by rfl) (by rfl) (by simp [lko]) (by simp) (by simp) (by simp) (fun i hi => by have hi' : i < 8 := hi; rcases i with _ | _ | _ | _ | _ | _ | _ | _ | i <;> first | rfl | (exfalso; omega)))
            | c =>
              (simp only [SiA.st, ofC3s, ycOf, ob, oc]; exact Wk.by _ _ _ [(0,0),(1,1),(2,2),(3,3),(4,4),(5,5),(6,6),(7,7),(8,8),(9,9)] [] [] (by simp) (by simp [wkV, wkL, PV.el, PV.weak, PS.get, PS.obj, PS.lv, lkp_hit, lkp_miss, lkp_nil, lko]) (by simp [PS.get, PS.obj, PS.lv, lkp_hit, lkp_miss, lkp_nil, lko, wkL, wkC, PV.weak, rcs_wk, ics_wk]) (by simp) (by rfl) (by rfl) (by simp [lko]) (by simp) (by simp) (by simp) (fun i hi => by have hi' : i < 8 := hi; rcases i with _ | _ | _ | _ | _ | _ | _ | _ | i <;> first | rfl | (exfalso; omega)))
    · rintro e S' pe' ⟨rfl, rfl, ⟨k2, b, hk2, hk02, he2, hbb⟩, hM, hw⟩
      simp only at hM
      have hMk : pre ++ [(row[k].x, b)] ++ mrgs (str (row.drop k2)) = mrgs (str row) := by
        rw [← he, str_drop hlt, mrgs_cons, hM, List.append_assoc]; rfl
      have hMl : pre.length + 1 ≤ (mrgs (str row)).length := by rw [← hMk]; simp
      simp -implicitDefEqProofs only [push_cast, seval]
      refine YWP.weak hw ?_
      simp only [SiA.st]
      refine YWP.reg_y 2 mixed ⟨by rfl, by rfl, by simp [ycOf, ofC3s]⟩ ?_ ?_ ?_
      · intro S pe h
        have h' : ryK _ _ Exit.outgrown S pe := h
        rcases h'.1 with h | h <;> cases h
      · decide
      simp -implicitDefEqProofs only [push_cast, seval]
      (repeat (first | refine ⟨(by omega : _ ≤ _), ?_⟩ | refine ⟨(by omega : _ < _), ?_⟩ | refine ⟨(by simp; omega), ?_⟩ | refine ⟨(by simp; done), ?_⟩ | refine ⟨(by (unfold drawOk; kernel_rfl)), ?_⟩))
      refine yldE_of _ (.tmp 59) #[.tmp 60] #[59] 61 rfl rfl (by rfl) rfl (by rfl) (by rfl) (by rfl) (by rfl) (by simp) ?_
      refine RndP.of mixed ⟨by rfl, by rfl, by simp [ycOf, ofC3s]⟩ ?_
      have wb : IntKind.i64.wrap (b - row[k].x) = b - row[k].x := wrap_i64_id (by omega) (by omega)
      have wz : IntKind.i64.wrap (z - y) = z - y := wrap_i64_id (by omega) (by omega)
      cases g with
      | a =>
        obtain ⟨rfl, rfl, h3⟩ := hg rfl
        simp only [ycOf, ybeg, ofC3s, ob, oc]
        simp -implicitDefEqProofs only [push_cast, pz, wb, wz, seval]
        have hR : rcs (nw [(row[k].x, b)] y z) = [.int .i64 row[k].x, .int .i64 y, .int .i64 (b - row[k].x), .int .i64 (z - y)] := rfl
        have hL : (nw [(row[k].x, b)] y z).length = 1 := rfl
        refine ⟨⟨.c, k2, [(row[k].x, b)], hk2, by simp; omega, hMk, fun h => by cases h⟩, by simp only; omega, ?_, rfl⟩
        (simp only [SpA.st, ob, oc, List.nil_append]; exact Wk.by _ _ _ [(0,0),(1,1),(2,2),(3,3),(4,4),(5,5),(6,6),(7,7),(8,82)] [] [] (by simp) (by simp [wkV, wkL, PV.el, PV.weak, PS.get, PS.obj, PS.lv, lkp_hit, lkp_miss, lkp_nil, lko, hR, hL, PV.cells]) (by simp [PS.get, PS.obj, PS.lv, lkp_hit, lkp_miss, lkp_nil, lko, wkL, wkC, PV.weak, rcs_wk, ics_wk, hR, hL, PV.cells]) (by simp) (by rfl) (by rfl) (by simp [lko]) (by simp) (by simp) (by simp) (fun i hi => by have hi' : i < 8 := hi; rcases i with _ | _ | _ | _ | _ | _ | _ | _ | i <;> first | rfl | (exfalso; omega)))
      | b =>
        simp only [ycOf, ybeg, ofC3s, ob, oc]
        simp -implicitDefEqProofs only [push_cast, pz, wb, wz, seval]
        have hU : (out ++ nw pre y z).length = out.length + pre.length := by simp [nw]
        refine ⟨by rw [rcs_length]; omega, by omega, by omega, ?_⟩
        refine ⟨⟨.c, k2, pre ++ [(row[k].x, b)], hk2, by simp; omega, hMk, fun h => by cases h⟩, by simp only; omega, ?_, rfl⟩
        have hL : (out ++ nw (pre ++ [(row[k].x, b)]) y z).length = (out ++ nw pre y z).length + 1 := by simp [nw]; omega
        have hR : List.take ((out ++ nw pre y z).length * 4) (rcs (out ++ nw pre y z)) ++ [.int .i64 row[k].x, .int .i64 y, .int .i64 (b - row[k].x), .int .i64 (z - y)] = rcs (out ++ nw (pre ++ [(row[k].x, b)]) y z) := by
          rw [rcs_take, List.take_length, nw_app, ← List.append_assoc, rcs_app (out ++ nw pre y z)]
          rfl
        simp only [SpA.st]
        generalize out ++ nw (pre ++ [(row[k].x, b)]) y z = U2 at *
        generalize out ++ nw pre y z = U at *
        (simp only [SpA.st, ob, oc]; exact Wk.by _ _ _ [(0,0),(1,1),(2,2),(3,3),(4,4),(5,5),(6,6),(7,7),(8,82)] [] [] (by simp) (by simp [wkV, wkL, PV.el, PV.weak, PS.get, PS.obj, PS.lv, lkp_hit, lkp_miss, lkp_nil, lko, hR, hL, PV.cells]) (by simp [PS.get, PS.obj, PS.lv, lkp_hit, lkp_miss, lkp_nil, lko, wkL, wkC, PV.weak, rcs_wk, ics_wk, hR, hL, PV.cells]) (by simp) (by rfl) (by rfl) (by simp [lko]) (by simp) (by simp) (by simp) (fun i hi => by have hi' : i < 8 := hi; rcases i with _ | _ | _ | _ | _ | _ | _ | _ | i <;> first | rfl | (exfalso; omega)))
      | c =>
        simp only [ycOf, ybeg, ofC3s, ob, oc]
        simp -implicitDefEqProofs only [push_cast, pz, wb, wz, seval]
        have hU : (out ++ nw pre y z).length = out.length + pre.length := by simp [nw]
        refine ⟨by rw [rcs_length]; omega, by omega, by omega, ?_⟩
        refine ⟨⟨.c, k2, pre ++ [(row[k].x, b)], hk2, by simp; omega, hMk, fun h => by cases h⟩, by simp only; omega, ?_, rfl⟩
        have hL : (out ++ nw (pre ++ [(row[k].x, b)]) y z).length = (out ++ nw pre y z).length + 1 := by simp [nw]; omega
        have hR : List.take ((out ++ nw pre y z).length * 4) (rcs (out ++ nw pre y z)) ++ [.int .i64 row[k].x, .int .i64 y, .int .i64 (b - row[k].x), .int .i64 (z - y)] = rcs (out ++ nw (pre ++ [(row[k].x, b)]) y z) := by
          rw [rcs_take, List.take_length, nw_app, ← List.append_assoc, rcs_app (out ++ nw pre y z)]
          rfl
        simp only [SpA.st]
        generalize out ++ nw (pre ++ [(row[k].x, b)]) y z = U2 at *
        generalize out ++ nw pre y z = U at *
        (simp only [SpA.st, ob, oc]; exact Wk.by _ _ _ [(0,0),(1,1),(2,2),(3,3),(4,4),(5,5),(6,6),(7,7),(8,82)] [] [] (by simp) (by simp [wkV, wkL, PV.el, PV.weak, PS.get, PS.obj, PS.lv, lkp_hit, lkp_miss, lkp_nil, lko, hR, hL, PV.cells]) (by simp [PS.get, PS.obj, PS.lv, lkp_hit, lkp_miss, lkp_nil, lko, wkL, wkC, PV.weak, rcs_wk, ics_wk, hR, hL, PV.cells]) (by simp) (by rfl) (by rfl) (by simp [lko]) (by simp) (by simp) (by simp) (fun i hi => by have hi' : i < 8 := hi; rcases i with _ | _ | _ | _ | _ | _ | _ | _ | i <;> first | rfl | (exfalso; omega)))
end Go.Proofs.Sh

/- Package band, Of: a round from where its rectangles are there. -/
set_option maxRecDepth 100000
set_option linter.unusedSimpArgs false
set_option linter.unusedVariables false
namespace Go.Proofs.Sh
open Go.Pv
open Rg
theorem ent3 (args : Array Value) (w : World) : (callFunc 31 args).run Try.prog w = .ok (.enter 31 args) w := (enters_of Try.func31 (by kernel_rfl) rfl) args w
theorem ent1 (args : Array Value) (w : World) : (callFunc 25 args).run Try.prog w = .ok (.enter 25 args) w := (enters_of Try.func25 (by kernel_rfl) rfl) args w
def srtX (L : List Rt) : List Rt := srtBy (fun a b => cmpI a.x b.x) L
def srtYX (L : List Rt) : List Rt := srtBy cmpYX L
theorem sortX_fs (L : List Rt) (hl : L.length < 4611686018427387904) : Fsp Try.prog 24 [rcs L] 0 [.slg 0 L.length 4, .fn 31 []] [rcs (srtX L)] 0 (.tup []) := sort_fs (fun a b => @ord3_fs gt0 a b) swo_X ent3 L hl
theorem sortYX_fs (L : List Rt) (hl : L.length < 4611686018427387904) : Fsp Try.prog 24 [rcs L] 0 [.slg 0 L.length 4, .fn 25 []] [rcs (srtYX L)] 0 (.tup []) := sort_fs (fun a b => @ord1_fs gt0 a b) swo_YX ent1 L hl
theorem srtX_len (L : List Rt) : (srtX L).length = L.length := (srtBy_ok swo_X L).1.length_eq
theorem srtYX_len (L : List Rt) : (srtYX L).length = L.length := (srtBy_ok swo_YX L).1.length_eq
def ofC1 (A : List Rt) (ys : List Int) (fl : Bool) (out row : List Rt) (ab nx i : Nat) (y z : Int) : PS := { n := 134, env := [(13, .box 5 0), (12, .box 4 0), (11, .int .i64 i), (10, .int .i64 nx), (9, .int .i64 ab), (8, .slg 3 row.length 4), (7, .box 1 0), (6, .sl 1 (ics ys)), (3, .sl 4 (rts A)), (2, .box 0 0)], objs := (0, some [.nilsl]) :: (1, some [oc (gf fl) out.length]) :: (3, some (rcs row)) :: (4, some [.int .i64 y]) :: (5, some [.int .i64 z]) :: ob (gf fl) out, live := [], nxt := 6 }
def ofB1 (A : List Rt) (ys : List Int) (fl : Bool) (out row : List Rt) (ab came nx i : Nat) (y z : Int) : PS := { n := 134, env := [(14, .int .i64 came), (13, .box 5 0), (12, .box 4 0), (11, .int .i64 i), (10, .int .i64 nx), (9, .int .i64 ab), (8, .slg 3 row.length 4), (7, .box 1 0), (6, .sl 1 (ics ys)), (3, .sl 4 (rts A)), (2, .box 0 0)], objs := (0, some [.nilsl]) :: (1, some [oc (gf fl) out.length]) :: (3, some (rcs row)) :: (4, some [.int .i64 y]) :: (5, some [.int .i64 z]) :: ob (gf fl) out, live := [], nxt := 6 }
theorem ofC1_fs (A : List Rt) (ys : List Int) (fl : Bool) (out row : List Rt) (hfl : fl = true → out = []) (ab nx i : Nat) (y z : Int) (Q : Post)
    (hQ : PWP Try.prog 0 (tailN 5 (ofC3 Try.f5)) Q (ofC2 A ys fl out row ab nx i out.length y z)) : PWP Try.prog 0 (tailN 4 (ofC3 Try.f5)) Q (ofC1 A ys fl out row ab nx i y z) := by
  refine PWP.cutV mixed 0 ?_
  have key : ∀ S', Wk 0 S' (ofC2 A ys fl out row ab nx i out.length y z) → seqK (PWP Try.prog 0 (tailN 0 (tailN 4 (ofC3 Try.f5)))) Q .normal S' := fun S' hw => PWP.weak hw hQ
  generalize seqK (PWP Try.prog 0 (tailN 0 (tailN 4 (ofC3 Try.f5)))) Q = Q2 at *
  simp only [ofC3, Try.f5, Option.getD_some, tailN, headN, loopOf, blkOf]
  cases fl with
  | true =>
    have h0 := hfl rfl
    subst h0
    simp only [ofC1, ob, oc, gf]
    simp -implicitDefEqProofs only [push_cast, seval]
    refine key _ ?_
    (simp only [ofC2, ob, oc, gf]; exact Wk.by _ _ _ [(0,0),(1,1),(3,3),(4,4),(5,5)] [] [] (by simp) (by simp [wkV, PV.el, PV.weak, PS.get, PS.obj, PS.lv, lkp_hit, lkp_miss, lkp_nil, lko, wkL, wkC, res1, rcs_wk, ics_wk]) (by simp [PS.get, PS.obj, PS.lv, lkp_hit, lkp_miss, lkp_nil, lko, wkL, wkC, PV.weak, wkL, wkC, res1, rcs_wk, ics_wk]) (by simp [PS.get, PS.obj, PS.lv, lkp_hit, lkp_miss, lkp_nil, lko]) (by rfl) (by rfl) (by simp [lko]) (by simp) (by simp) (by simp) (fun i hi => by rcases i with _ | _ | _ | _ | _ | _ | i <;> first | rfl | (exfalso; omega)))
  | false =>
    simp only [ofC1, ob, oc, gf]
    simp -implicitDefEqProofs only [push_cast, seval]
    refine key _ ?_
    (simp only [ofC2, ob, oc, gf]; exact Wk.by _ _ _ [(0,0),(1,1),(2,2),(3,3),(4,4),(5,5)] [] [] (by simp) (by simp [wkV, PV.el, PV.weak, PS.get, PS.obj, PS.lv, lkp_hit, lkp_miss, lkp_nil, lko, wkL, wkC, res1, rcs_wk, ics_wk]) (by simp [PS.get, PS.obj, PS.lv, lkp_hit, lkp_miss, lkp_nil, lko, wkL, wkC, PV.weak, wkL, wkC, res1, rcs_wk, ics_wk]) (by simp [PS.get, PS.obj, PS.lv, lkp_hit, lkp_miss, lkp_nil, lko]) (by rfl) (by rfl) (by simp [lko]) (by simp) (by simp) (by simp) (fun i hi => by rcases i with _ | _ | _ | _ | _ | _ | i <;> first | rfl | (exfalso; omega)))
theorem ofB1_fs (A : List Rt) (ys : List Int) (fl : Bool) (out row : List Rt) (hl : row.length ≤ 4398046511104) (ab came nx i : Nat) (y z : Int) (Q : Post)
    (hQ : PWP Try.prog 0 (tailN 4 (ofC3 Try.f5)) Q (ofC1 A ys fl out (if came < nx then srtX row else row) ab nx i y z)) : PWP Try.prog 0 (tailN 3 (ofC3 Try.f5)) Q (ofB1 A ys fl out row ab came nx i y z) := by
  have hX := sortX_fs row (by omega)
  refine PWP.cutV mixed 0 ?_
  have key : ∀ S', Wk 0 S' (ofC1 A ys fl out (if came < nx then srtX row else row) ab nx i y z) → seqK (PWP Try.prog 0 (tailN 0 (tailN 3 (ofC3 Try.f5)))) Q .normal S' := fun S' hw => PWP.weak hw hQ
  generalize seqK (PWP Try.prog 0 (tailN 0 (tailN 3 (ofC3 Try.f5)))) Q = Q2 at *
  simp only [ofC3, Try.f5, Option.getD_some, tailN, headN, loopOf, blkOf]
  simp only [ofB1]
  cases c1 : decide ((came : Int) < (nx : Int)) with
  | true =>
    rw [if_pos (by simpa using c1)] at key
    have hxl := srtX_len row
    generalize srtX row = R2 at *
    simp -implicitDefEqProofs only [push_cast, c1, gt_iff_lt, seval]
    refine callE_box hX [3] [] (by rfl) (by rfl) (by rfl) (by rfl) (by rfl) (by rfl) (fun i j cs h1 h2 => by (rcases i with _ | _ | _ | i <;> simp at h1 h2 <;> (subst h1; subst h2; exact ⟨_, rfl, (by first | exact rcs_cell _ _ _ | exact ics_cell _ _ _ | exact (by (repeat' (first | exact wkL_nil | refine wkL_cons ?_ ?_)); all_goals (first | exact .inl ⟨_, _, _, _, rfl, rfl, rfl⟩ | exact .inr (.inr (.inr (.inr (.inl ⟨_, _, _, rfl, rfl, rfl⟩)))) | exact .inr (.inr (.inr (.inr (.inr (.inl ⟨_, _, _, _, rfl, rfl, rfl⟩))))) | exact .inr (.inr (.inr (.inr (.inr (.inr ⟨_, _, rfl, rfl, rfl⟩))))) | exact .inr (.inl rfl) | exact .inr (.inr (.inl ⟨_, _, _, rfl, rfl, rfl⟩)))) | exact (by (repeat' (first | exact wkL_nil | refine wkL_cons ?_ ?_)); all_goals (first | exact .inr (.inl rfl) | exact .inr (.inr (.inl ⟨_, _, _, rfl, rfl, rfl⟩)) | exact .inr (.inr (.inr (.inl ⟨_, _, _, _, _, rfl, rfl, rfl⟩))) | exact .inr (.inr (.inr (.inr (.inr (.inr (.inr ⟨_, _, _, _, rfl, rfl, rfl⟩)))))))))⟩))) (by simp [PS.lv, lkp_hit, lkp_miss, lkp_nil]) (by (repeat' (first | exact wkL_nil | refine wkL_cons ?_ ?_)); all_goals (first | exact .inl ⟨_, _, _, rfl, rfl, rfl⟩ | exact .inr (.inl rfl) | exact .inr (.inr (.inl ⟨_, _, _, _, rfl, rfl, rfl⟩)) | exact .inr (.inr (.inr (.inl ⟨_, _, _, rfl, rfl, rfl, (wkL_get (by (repeat' (first | exact wkL_nil | refine wkL_cons ?_ ?_)); all_goals (first | exact .inl ⟨_, _, _, rfl, rfl, rfl⟩ | exact .inr rfl))).2⟩))) | exact .inr (.inr (.inr (.inr (.inr (.inr (.inl ⟨_, _, _, _, rfl, rfl, rfl⟩)))))) | exact .inr (.inr (.inr (.inr (.inr (.inr (.inr ⟨_, _, _, _, _, rfl, rfl, rfl⟩)))))))) (by decide) (by simp) (by rfl) (by (repeat' (first | exact tok_nil | refine tok_cons ?_ ?_)); all_goals (first | exact rcs_tok _ _ _ _ | exact ics_tok _ _ _ _ | (simp [tokLt1]; done))) (fun _ => by rfl) (by first | rfl | simp [gdOk, newToks]) ?_
    simp -implicitDefEqProofs only [push_cast, rcs_back, seval]
    refine key _ ?_
    cases fl with
    | true =>
      (simp only [ofC1, ob, oc, gf, zipB, upto, List.cons_append, List.nil_append]; exact Wk.by _ _ _ [(0,0),(1,1),(3,3),(4,4),(5,5)] [] [] (by simp) (by simp [wkV, PV.el, PV.weak, PS.get, PS.obj, PS.lv, lkp_hit, lkp_miss, lkp_nil, lko, wkL, wkC, res1, rcs_wk, ics_wk, hxl]) (by simp [PS.get, PS.obj, PS.lv, lkp_hit, lkp_miss, lkp_nil, lko, wkL, wkC, PV.weak, wkL, wkC, res1, rcs_wk, ics_wk, hxl]) (by simp [PS.get, PS.obj, PS.lv, lkp_hit, lkp_miss, lkp_nil, lko]) (by rfl) (by rfl) (by simp [lko]) (by simp) (by simp) (by simp) (fun i hi => by rcases i with _ | _ | _ | _ | _ | _ | i <;> first | rfl | (exfalso; omega)))
    | false =>
      (simp only [ofC1, ob, oc, gf, zipB, upto, List.cons_append, List.nil_append]; exact Wk.by _ _ _ [(0,0),(1,1),(2,2),(3,3),(4,4),(5,5)] [] [] (by simp) (by simp [wkV, PV.el, PV.weak, PS.get, PS.obj, PS.lv, lkp_hit, lkp_miss, lkp_nil, lko, wkL, wkC, res1, rcs_wk, ics_wk, hxl]) (by simp [PS.get, PS.obj, PS.lv, lkp_hit, lkp_miss, lkp_nil, lko, wkL, wkC, PV.weak, wkL, wkC, res1, rcs_wk, ics_wk, hxl]) (by simp [PS.get, PS.obj, PS.lv, lkp_hit, lkp_miss, lkp_nil, lko]) (by rfl) (by rfl) (by simp [lko]) (by simp) (by simp) (by simp) (fun i hi => by rcases i with _ | _ | _ | _ | _ | _ | i <;> first | rfl | (exfalso; omega)))
  | false =>
    rw [if_neg (by simpa using c1)] at key
    simp -implicitDefEqProofs only [push_cast, c1, gt_iff_lt, seval]
    refine key _ ?_
    cases fl with
    | true =>
      (simp only [ofC1, ob, oc, gf]; exact Wk.by _ _ _ [(0,0),(1,1),(3,3),(4,4),(5,5)] [] [] (by simp) (by simp [wkV, PV.el, PV.weak, PS.get, PS.obj, PS.lv, lkp_hit, lkp_miss, lkp_nil, lko, wkL, wkC, res1, rcs_wk, ics_wk]) (by simp [PS.get, PS.obj, PS.lv, lkp_hit, lkp_miss, lkp_nil, lko, wkL, wkC, PV.weak, wkL, wkC, res1, rcs_wk, ics_wk]) (by simp [PS.get, PS.obj, PS.lv, lkp_hit, lkp_miss, lkp_nil, lko]) (by rfl) (by rfl) (by simp [lko]) (by simp) (by simp) (by simp) (fun i hi => by rcases i with _ | _ | _ | _ | _ | _ | i <;> first | rfl | (exfalso; omega)))
    | false =>
      (simp only [ofC1, ob, oc, gf]; exact Wk.by _ _ _ [(0,0),(1,1),(2,2),(3,3),(4,4),(5,5)] [] [] (by simp) (by simp [wkV, PV.el, PV.weak, PS.get, PS.obj, PS.lv, lkp_hit, lkp_miss, lkp_nil, lko, wkL, wkC, res1, rcs_wk, ics_wk]) (by simp [PS.get, PS.obj, PS.lv, lkp_hit, lkp_miss, lkp_nil, lko, wkL, wkC, PV.weak, wkL, wkC, res1, rcs_wk, ics_wk]) (by simp [PS.get, PS.obj, PS.lv, lkp_hit, lkp_miss, lkp_nil, lko]) (by rfl) (by rfl) (by simp [lko]) (by simp) (by simp) (by simp) (fun i hi => by rcases i with _ | _ | _ | _ | _ | _ | i <;> first | rfl | (exfalso; omega)))
end Go.Proofs.Sh

/- Package band, Of: those that begin at a row come to the row's. -/
set_option maxRecDepth 100000
set_option linter.unusedSimpArgs false
set_option linter.unusedVariables false
namespace Go.Proofs.Sh
open Go.Pv
open Rg
/-- How many from a place on begin at a row. -/
def cme (A : List Rt) (y : Int) (nx : Nat) : Nat := ((A.drop nx).takeWhile fun r => decide (r.y = y)).length
def rw' (g : Bool) (n : Nat) : PV := match g with
  | true => .nilsl
  | false => .slg 3 n 4
def rb (g : Bool) (row : List Rt) : List (Nat × Option (List PV)) := match g with
  | true => []
  | false => [(3, some (rcs row))]
/-- Before: the row may be nil. -/
def ofB0 (A : List Rt) (ys : List Int) (fl : Bool) (out row : List Rt) (ab came nx i : Nat) (y z : Int) : PS := { n := 134, env := [(14, .int .i64 came), (13, .box 5 0), (12, .box 4 0), (11, .int .i64 i), (10, .int .i64 nx), (9, .int .i64 ab), (8, rw' fl row.length), (7, .box 1 0), (6, .sl 1 (ics ys)), (3, .sl 4 (rts A)), (2, .box 0 0)], objs := (0, some [.nilsl]) :: (1, some [oc (gf fl) out.length]) :: (4, some [.int .i64 y]) :: (5, some [.int .i64 z]) :: (rb fl row ++ ob (gf fl) out), live := [], nxt := 6 }
structure CmA (A : List Rt) (y : Int) (row0 : List Rt) (nx0 : Nat) (fl : Bool) where
  g : Bool
  nx : Nat
  row : List Rt
  hx : nx ≤ A.length
  hx0 : nx0 ≤ nx
  hr : row = row0 ++ (A.drop nx0).take (nx - nx0)
  hc : nx - nx0 + cme A y nx = cme A y nx0
  hg : g = true → row = [] ∧ fl = true
def CmA.st (ys : List Int) (out : List Rt) (ab came i : Nat) (z : Int) {A : List Rt} {y : Int} {row0 : List Rt} {nx0 : Nat} {fl : Bool} (a : CmA A y row0 nx0 fl) : PS := { n := 134, env := [(14, .int .i64 came), (13, .box 5 0), (12, .box 4 0), (11, .int .i64 i), (10, .int .i64 a.nx), (9, .int .i64 ab), (8, rw' a.g a.row.length), (7, .box 1 0), (6, .sl 1 (ics ys)), (3, .sl 4 (rts A)), (2, .box 0 0)], objs := (0, some [.nilsl]) :: (1, some [oc (gf fl) out.length]) :: (4, some [.int .i64 y]) :: (5, some [.int .i64 z]) :: (rb a.g a.row ++ ob (gf fl) out), live := [], nxt := 6 }
theorem cme_end (A : List Rt) (y : Int) : cme A y A.length = 0 := by unfold cme; rw [List.drop_length]; rfl
theorem cme_yes {A : List Rt} {y : Int} {k : Nat} (h : k < A.length) (e : A[k].y = y) : cme A y k = cme A y (k + 1) + 1 := by
  unfold cme; rw [rdrop h, List.takeWhile_cons, if_pos (by simpa using e), List.length_cons]
theorem cme_no {A : List Rt} {y : Int} {k : Nat} (h : k < A.length) (e : A[k].y ≠ y) : cme A y k = 0 := by
  unfold cme; rw [rdrop h, List.takeWhile_cons, if_neg (by simpa using e)]; rfl
set_option maxHeartbeats 1000000 in
theorem ofB0_fs (A : List Rt) (ys : List Int) (fl : Bool) (out row : List Rt) (hA : A.length ≤ 4398046511104) (ab nx i : Nat) (hrl : row.length ≤ nx) (hnx : nx ≤ A.length) (y z : Int) (hfl : fl = true → row = [] ∧ 0 < cme A y nx) (Q : Post)
    (hQ : PWP Try.prog 0 (tailN 3 (ofC3 Try.f5)) Q (ofB1 A ys fl out (row ++ (A.drop nx).take (cme A y nx)) ab nx (nx + cme A y nx) i y z)) : PWP Try.prog 0 (tailN 2 (ofC3 Try.f5)) Q (ofB0 A ys fl out row ab nx nx i y z) := by
  refine PWP.cutV mixed 0 ?_
  have key : ∀ S', Wk 0 S' (ofB1 A ys fl out (row ++ (A.drop nx).take (cme A y nx)) ab nx (nx + cme A y nx) i y z) → seqK (PWP Try.prog 0 (tailN 0 (tailN 2 (ofC3 Try.f5)))) Q .normal S' := fun S' hw => PWP.weak hw hQ
  generalize seqK (PWP Try.prog 0 (tailN 0 (tailN 2 (ofC3 Try.f5)))) Q = Q2 at *
  simp only [ofC3, Try.f5, Option.getD_some, tailN, headN, loopOf, blkOf]
  simp only [ofB0]
  simp -implicitDefEqProofs only [push_cast, seval]
  refine loopC_of (α := CmA A y row nx fl) (CmA.st ys out ab nx i z) (fun a => A.length - a.nx) ⟨fl, nx, row, hnx, Nat.le_refl _, by simp, by omega, fun h => ⟨(hfl h).1, h⟩⟩ ?_ ?_
  · cases fl with
    | true =>
      (simp only [CmA.st, ob, oc, gf, rb, rw', List.cons_append, List.nil_append]; exact Wk.by _ _ _ [(0,0),(1,1),(4,4),(5,5)] [] [] (by simp) (by simp [wkV, PV.el, PV.weak, PS.get, PS.obj, PS.lv, lkp_hit, lkp_miss, lkp_nil, lko, wkL, wkC, res1, rcs_wk, ics_wk]) (by simp [PS.get, PS.obj, PS.lv, lkp_hit, lkp_miss, lkp_nil, lko, wkL, wkC, PV.weak, wkL, wkC, res1, rcs_wk, ics_wk]) (by simp [PS.get, PS.obj, PS.lv, lkp_hit, lkp_miss, lkp_nil, lko]) (by rfl) (by rfl) (by simp [lko]) (by simp) (by simp) (by simp) (fun i hi => by rcases i with _ | _ | _ | _ | _ | _ | i <;> first | rfl | (exfalso; omega)))
    | false =>
      (simp only [CmA.st, ob, oc, gf, rb, rw', List.cons_append, List.nil_append]; exact Wk.by _ _ _ [(0,0),(1,1),(2,2),(3,3),(4,4),(5,5)] [] [] (by simp) (by simp [wkV, PV.el, PV.weak, PS.get, PS.obj, PS.lv, lkp_hit, lkp_miss, lkp_nil, lko, wkL, wkC, res1, rcs_wk, ics_wk]) (by simp [PS.get, PS.obj, PS.lv, lkp_hit, lkp_miss, lkp_nil, lko, wkL, wkC, PV.weak, wkL, wkC, res1, rcs_wk, ics_wk]) (by simp [PS.get, PS.obj, PS.lv, lkp_hit, lkp_miss, lkp_nil, lko]) (by rfl) (by rfl) (by simp [lko]) (by simp) (by simp) (by simp) (fun i hi => by rcases i with _ | _ | _ | _ | _ | _ | i <;> first | rfl | (exfalso; omega)))
  rintro ⟨g, n, R, hx, hx0, hr, hc, hg⟩
  simp only [CmA.st]
  have hcm : cme A y nx ≤ A.length - nx := by unfold cme; have := (List.takeWhile_sublist (l := A.drop nx) fun r : Rt => decide (r.y = y)).length_le; rw [List.length_drop] at this; exact this
  cases c1 : decide ((n : Int) < (A.length : Int)) with
  | false =>
    have hke : n = A.length := by simp at c1; omega
    have hz : cme A y n = 0 := by rw [hke]; exact cme_end A y
    have hd0 : (rts A).getD n .any = .any := by rw [hke]; unfold rts; rw [List.getD_eq_getElem?_getD, List.getElem?_eq_none (by simp)]; rfl
    have hn0 : ([] : List PV).getD 0 .any = .any := rfl
    simp -implicitDefEqProofs only [push_cast, rts_length, c1, hd0, hn0, seval]
    (repeat (first | refine ⟨(by omega : _ ≤ _), ?_⟩ | refine ⟨(by omega : _ < _), ?_⟩ | refine ⟨(by simp; omega), ?_⟩ | refine ⟨(by simp; done), ?_⟩ | refine ⟨(by (unfold drawOk; kernel_rfl)), ?_⟩))
    have hnn : n = nx + cme A y nx := by omega
    have hR : row ++ (A.drop nx).take (cme A y nx) = R := by rw [hr]; congr 2; omega
    rw [hR, ← hnn] at key
    refine key _ ?_
    cases g with
    | true =>
      obtain ⟨h1, h2⟩ := hg rfl
      have h3 := (hfl h2).2
      have h4 := congrArg List.length hR
      rw [h1, List.length_append, List.length_take, List.length_drop, List.length_nil] at h4
      omega
    | false =>
      cases fl with
      | true =>
        (simp only [ofB1, ob, oc, gf, rb, rw', List.cons_append, List.nil_append]; exact Wk.by _ _ _ [(0,0),(1,1),(3,3),(4,4),(5,5)] [] [] (by simp) (by simp [wkV, PV.el, PV.weak, PS.get, PS.obj, PS.lv, lkp_hit, lkp_miss, lkp_nil, lko, wkL, wkC, res1, rcs_wk, ics_wk]) (by simp [PS.get, PS.obj, PS.lv, lkp_hit, lkp_miss, lkp_nil, lko, wkL, wkC, PV.weak, wkL, wkC, res1, rcs_wk, ics_wk]) (by simp [PS.get, PS.obj, PS.lv, lkp_hit, lkp_miss, lkp_nil, lko]) (by rfl) (by rfl) (by simp [lko]) (by simp) (by simp) (by simp) (fun i hi => by rcases i with _ | _ | _ | _ | _ | _ | i <;> first | rfl | (exfalso; omega)))
      | false =>
        (simp only [ofB1, ob, oc, gf, rb, rw', List.cons_append, List.nil_append]; exact Wk.by _ _ _ [(0,0),(1,1),(2,2),(3,3),(4,4),(5,5)] [] [] (by simp) (by simp [wkV, PV.el, PV.weak, PS.get, PS.obj, PS.lv, lkp_hit, lkp_miss, lkp_nil, lko, wkL, wkC, res1, rcs_wk, ics_wk]) (by simp [PS.get, PS.obj, PS.lv, lkp_hit, lkp_miss, lkp_nil, lko, wkL, wkC, PV.weak, wkL, wkC, res1, rcs_wk, ics_wk]) (by simp [PS.get, PS.obj, PS.lv, lkp_hit, lkp_miss, lkp_nil, lko]) (by rfl) (by rfl) (by simp [lko]) (by simp) (by simp) (by simp) (fun i hi => by rcases i with _ | _ | _ | _ | _ | _ | i <;> first | rfl | (exfalso; omega)))
  | true =>
    have hlt : n < A.length := by simp at c1; omega
    have ha := rt_at hlt
    have hu := wr_up (k := n) (by omega)
    cases c2 : (A[n].y == y) with
    | false =>
      have hz : cme A y n = 0 := cme_no hlt (by simpa using c2)
      simp -implicitDefEqProofs only [push_cast, rts_length, c1, ha, rpv, rc, c2, seval]
      (repeat (first | refine ⟨(by omega : _ ≤ _), ?_⟩ | refine ⟨(by omega : _ < _), ?_⟩ | refine ⟨(by simp; omega), ?_⟩ | refine ⟨(by simp; done), ?_⟩ | refine ⟨(by (unfold drawOk; kernel_rfl)), ?_⟩))
      have hnn : n = nx + cme A y nx := by omega
      have hR : row ++ (A.drop nx).take (cme A y nx) = R := by rw [hr]; congr 2; omega
      rw [hR, ← hnn] at key
      refine key _ ?_
      cases g with
      | true =>
        obtain ⟨h1, h2⟩ := hg rfl
        have h3 := (hfl h2).2
        have h4 := congrArg List.length hR
        rw [h1, List.length_append, List.length_take, List.length_drop, List.length_nil] at h4
        omega
      | false =>
        cases fl with
        | true =>
          (simp only [ofB1, ob, oc, gf, rb, rw', List.cons_append, List.nil_append]; exact Wk.by _ _ _ [(0,0),(1,1),(3,3),(4,4),(5,5)] [] [] (by simp) (by simp [wkV, PV.el, PV.weak, PS.get, PS.obj, PS.lv, lkp_hit, lkp_miss, lkp_nil, lko, wkL, wkC, res1, rcs_wk, ics_wk]) (by simp [PS.get, PS.obj, PS.lv, lkp_hit, lkp_miss, lkp_nil, lko, wkL, wkC, PV.weak, wkL, wkC, res1, rcs_wk, ics_wk]) (by simp [PS.get, PS.obj, PS.lv, lkp_hit, lkp_miss, lkp_nil, lko]) (by rfl) (by rfl) (by simp [lko]) (by simp) (by simp) (by simp) (fun i hi => by rcases i with _ | _ | _ | _ | _ | _ | i <;> first | rfl | (exfalso; omega)))
        | false =>
          (simp only [ofB1, ob, oc, gf, rb, rw', List.cons_append, List.nil_append]; exact Wk.by _ _ _ [(0,0),(1,1),(2,2),(3,3),(4,4),(5,5)] [] [] (by simp) (by simp [wkV, PV.el, PV.weak, PS.get, PS.obj, PS.lv, lkp_hit, lkp_miss, lkp_nil, lko, wkL, wkC, res1, rcs_wk, ics_wk]) (by simp [PS.get, PS.obj, PS.lv, lkp_hit, lkp_miss, lkp_nil, lko, wkL, wkC, PV.weak, wkL, wkC, res1, rcs_wk, ics_wk]) (by simp [PS.get, PS.obj, PS.lv, lkp_hit, lkp_miss, lkp_nil, lko]) (by rfl) (by rfl) (by simp [lko]) (by simp) (by simp) (by simp) (fun i hi => by rcases i with _ | _ | _ | _ | _ | _ | i <;> first | rfl | (exfalso; omega)))
    | true =>
      have hz := cme_yes hlt (by simpa using c2)
      have hRl : R.length = row.length + (n - nx) := by rw [hr, List.length_append, List.length_take, List.length_drop]; omega
      have hr2 : R ++ [A[n]] = row ++ (A.drop nx).take (n + 1 - nx) := by
        rw [hr, List.append_assoc, show n + 1 - nx = (n - nx) + 1 by omega, take_one (by rw [List.length_drop]; omega), List.getElem_drop]
        congr 4
        omega
      cases g with
      | true =>
        obtain ⟨h1, h2⟩ := hg rfl
        subst h1
        simp only [rb, rw', List.nil_append]
        simp -implicitDefEqProofs only [push_cast, rts_length, c1, ha, rpv, rc, c2, seval]
        (repeat (first | refine ⟨(by omega : _ ≤ _), ?_⟩ | refine ⟨(by omega : _ < _), ?_⟩ | refine ⟨(by simp; omega), ?_⟩ | refine ⟨(by simp; done), ?_⟩ | refine ⟨(by (unfold drawOk; kernel_rfl)), ?_⟩))
        refine ⟨⟨false, n + 1, [A[n]], hlt, by omega, by simpa using hr2, by omega, fun h => by cases h⟩, by simp only; omega, ?_⟩
        have hC : rcs [A[n]] = [.int .i64 A[n].x, .int .i64 A[n].y, .int .i64 A[n].w, .int .i64 A[n].h] := rfl
        cases fl with
        | true =>
          (simp only [CmA.st, ob, oc, gf, rb, rw', List.cons_append, List.nil_append]; exact Wk.by _ _ _ [(0,0),(1,1),(3,82),(4,4),(5,5)] [] [] (by simp) (by simp [wkV, PV.el, PV.weak, PS.get, PS.obj, PS.lv, lkp_hit, lkp_miss, lkp_nil, lko, wkL, wkC, res1, rcs_wk, ics_wk, hC, hu, PV.cells]) (by simp [PS.get, PS.obj, PS.lv, lkp_hit, lkp_miss, lkp_nil, lko, wkL, wkC, PV.weak, wkL, wkC, res1, rcs_wk, ics_wk, hC, hu, PV.cells]) (by simp [PS.get, PS.obj, PS.lv, lkp_hit, lkp_miss, lkp_nil, lko]) (by rfl) (by rfl) (by simp [lko]) (by simp) (by simp) (by simp) (fun i hi => by rcases i with _ | _ | _ | _ | _ | _ | i <;> first | rfl | (exfalso; omega)))
        | false =>
          (simp only [CmA.st, ob, oc, gf, rb, rw', List.cons_append, List.nil_append]; exact Wk.by _ _ _ [(0,0),(1,1),(2,2),(3,82),(4,4),(5,5)] [] [] (by simp) (by simp [wkV, PV.el, PV.weak, PS.get, PS.obj, PS.lv, lkp_hit, lkp_miss, lkp_nil, lko, wkL, wkC, res1, rcs_wk, ics_wk, hC, hu, PV.cells]) (by simp [PS.get, PS.obj, PS.lv, lkp_hit, lkp_miss, lkp_nil, lko, wkL, wkC, PV.weak, wkL, wkC, res1, rcs_wk, ics_wk, hC, hu, PV.cells]) (by simp [PS.get, PS.obj, PS.lv, lkp_hit, lkp_miss, lkp_nil, lko]) (by rfl) (by rfl) (by simp [lko]) (by simp) (by simp) (by simp) (fun i hi => by rcases i with _ | _ | _ | _ | _ | _ | i <;> first | rfl | (exfalso; omega)))
      | false =>
        simp only [rb, rw', List.cons_append, List.nil_append]
        simp -implicitDefEqProofs only [push_cast, rts_length, c1, ha, rpv, rc, c2, seval]
        (repeat (first | refine ⟨(by omega : _ ≤ _), ?_⟩ | refine ⟨(by omega : _ < _), ?_⟩ | refine ⟨(by simp; omega), ?_⟩ | refine ⟨(by simp; done), ?_⟩ | refine ⟨(by (unfold drawOk; kernel_rfl)), ?_⟩))
        refine ⟨by rw [rcs_length]; omega, by omega, by omega, ?_⟩
        refine ⟨⟨false, n + 1, R ++ [A[n]], hlt, by omega, hr2, by omega, fun h => by cases h⟩, by simp only; omega, ?_⟩
        have hC : List.take (R.length * 4) (rcs R) ++ [.int .i64 A[n].x, .int .i64 A[n].y, .int .i64 A[n].w, .int .i64 A[n].h] = rcs (R ++ [A[n]]) := by rw [rcs_take, List.take_length, rcs_app]; rfl
        have hL : (R ++ [A[n]]).length = R.length + 1 := by simp
        simp only [CmA.st]
        generalize R ++ [A[n]] = R2 at *
        cases fl with
        | true =>
          (simp only [CmA.st, ob, oc, gf, rb, rw', List.cons_append, List.nil_append]; exact Wk.by _ _ _ [(0,0),(1,1),(3,82),(4,4),(5,5)] [] [] (by simp) (by simp [wkV, PV.el, PV.weak, PS.get, PS.obj, PS.lv, lkp_hit, lkp_miss, lkp_nil, lko, wkL, wkC, res1, rcs_wk, ics_wk, hC, hL, hu, PV.cells]) (by simp [PS.get, PS.obj, PS.lv, lkp_hit, lkp_miss, lkp_nil, lko, wkL, wkC, PV.weak, wkL, wkC, res1, rcs_wk, ics_wk, hC, hL, hu, PV.cells]) (by simp [PS.get, PS.obj, PS.lv, lkp_hit, lkp_miss, lkp_nil, lko]) (by rfl) (by rfl) (by simp [lko]) (by simp) (by simp) (by simp) (fun i hi => by rcases i with _ | _ | _ | _ | _ | _ | i <;> first | rfl | (exfalso; omega)))
        | false =>
          (simp only [CmA.st, ob, oc, gf, rb, rw', List.cons_append, List.nil_append]; exact Wk.by _ _ _ [(0,0),(1,1),(2,2),(3,82),(4,4),(5,5)] [] [] (by simp) (by simp [wkV, PV.el, PV.weak, PS.get, PS.obj, PS.lv, lkp_hit, lkp_miss, lkp_nil, lko, wkL, wkC, res1, rcs_wk, ics_wk, hC, hL, hu, PV.cells]) (by simp [PS.get, PS.obj, PS.lv, lkp_hit, lkp_miss, lkp_nil, lko, wkL, wkC, PV.weak, wkL, wkC, res1, rcs_wk, ics_wk, hC, hL, hu, PV.cells]) (by simp [PS.get, PS.obj, PS.lv, lkp_hit, lkp_miss, lkp_nil, lko]) (by rfl) (by rfl) (by simp [lko]) (by simp) (by simp) (by simp) (fun i hi => by rcases i with _ | _ | _ | _ | _ | _ | i <;> first | rfl | (exfalso; omega)))
end Go.Proofs.Sh

/- Package band, Of: what a round makes (plain); its beginning. -/
set_option maxRecDepth 100000
set_option linter.unusedSimpArgs false
set_option linter.unusedVariables false
namespace Go.Proofs.Sh
open Go.Pv
open Rg
/-- What is known where a round begins. -/
structure OfA (A : List Rt) where
  i : Nat
  nx : Nat
  row : List Rt
  B : List Bd
  ab : Nat
  hi : i < (edg A).length
  hrow : ∀ r, (r ∈ row ∧ (edg A)[i] < r.y + r.h) ↔ (r ∈ A ∧ r.y < (edg A)[i] ∧ (edg A)[i] < r.y + r.h)
  hsub : ∀ r ∈ row, r ∈ A
  hsx : SX row
  hrl : row.length ≤ nx
  hx : nx ≤ A.length
  hx1 : ∀ k (h : k < A.length), k < nx → A[k].y < (edg A)[i]
  hx2 : ∀ k (h : k < A.length), nx ≤ k → (edg A)[i] ≤ A[k].y
  hB : BdOk B
  hz : ∀ c ∈ B, c.z ≤ (edg A)[i]
  hin : InB (-1048576) 1048576 (-1048576) (edg A)[i] B
  hsw : swp (rowF A) B ((edg A).drop i) = swp (rowF A) [] (edg A)
  hab : AbOk B (edg A)[i] ab
  h0 : i = 0 → row = [] ∧ B = []
theorem ris_get : ∀ {L : List Int}, Ris L → ∀ (i j : Nat) (hi : i < L.length) (hj : j < L.length), i < j → L[i] < L[j]
  | y :: L, h, 0, j + 1, _, hj, _ => h.1 _ (List.getElem_mem _)
  | y :: L, h, i + 1, j + 1, hi, hj, hij => ris_get h.2 i j (by simpa using hi) (by simpa using hj) (by omega)
/-- Between two rows that follow each other nothing begins or ends. -/
theorem edg_gap {A : List Rt} {i : Nat} (h : i + 1 < (edg A).length) {u : Int} (hu : u ∈ edg A) : u ≤ (edg A)[i] ∨ (edg A)[i + 1] ≤ u := by
  obtain ⟨j, hj, rfl⟩ := List.mem_iff_getElem.1 hu
  have hr := edg_ris A
  rcases Nat.lt_trichotomy j i with h1 | rfl | h1
  · exact .inl (Int.le_of_lt (ris_get hr j i hj (by omega) h1))
  · exact .inl (Int.le_refl _)
  · rcases Nat.lt_or_ge (i + 1) j with h2 | h2
    · exact .inr (Int.le_of_lt (ris_get hr (i + 1) j h hj h2))
    · have : j = i + 1 := by omega
      subst this
      exact .inr (Int.le_refl _)
/-- From above. -/
def SY (A : List Rt) : Prop := ∀ j k (hj : j < A.length) (hk : k < A.length), j ≤ k → A[j].y ≤ A[k].y
theorem srtYX_sy (L : List Rt) : SY (srtYX L) := by
  intro j k hj hk hjk
  rcases Nat.lt_or_ge j k with h | h
  · have := (List.pairwise_iff_getElem.1 (srtBy_ok swo_YX L).2) j k hj hk h
    rw [lt_YX, decide_eq_false_iff_not] at this
    show (srtBy cmpYX L)[j].y ≤ (srtBy cmpYX L)[k].y
    omega
  · have : j = k := by omega
    subst this
    exact Int.le_refl _
theorem srtX_sx (L : List Rt) : SX (srtX L) := by
  refine (srtBy_ok swo_X L).2.imp fun {a b} h => ?_
  rw [lt_X, decide_eq_false_iff_not] at h
  omega
theorem mem_srtX {L : List Rt} {r : Rt} : r ∈ srtX L ↔ r ∈ L := (srtBy_ok swo_X L).1.mem_iff
theorem mem_kp {y : Int} {L : List Rt} {r : Rt} : r ∈ kp y L ↔ r ∈ L ∧ y < r.y + r.h := by
  unfold kp abv
  rw [List.mem_filter]
  simp
def row2 (A : List Rt) (y : Int) (nx : Nat) (row : List Rt) : List Rt := kp y row ++ (A.drop nx).take (cme A y nx)
def row3 (A : List Rt) (y : Int) (nx : Nat) (row : List Rt) : List Rt := if nx < nx + cme A y nx then srtX (row2 A y nx row) else row2 A y nx row
theorem cme_le (A : List Rt) (y : Int) (nx : Nat) : cme A y nx ≤ A.length - nx := by
  have := (List.takeWhile_sublist (l := A.drop nx) fun r : Rt => decide (r.y = y)).length_le
  rw [List.length_drop] at this
  exact this
theorem take_cme (A : List Rt) (y : Int) (nx : Nat) : (A.drop nx).take (cme A y nx) = (A.drop nx).takeWhile fun r => decide (r.y = y) := by
  unfold cme
  exact (List.prefix_iff_eq_take.1 (List.takeWhile_prefix _)).symm
theorem cme_in {A : List Rt} {y : Int} {nx k : Nat} (hk : k < A.length) (h1 : nx ≤ k) (h2 : k < nx + cme A y nx) : A[k].y = y := by
  have hm : A[k] ∈ (A.drop nx).takeWhile fun r => decide (r.y = y) := by
    rw [← take_cme]
    refine List.mem_iff_getElem.2 ⟨k - nx, by rw [List.length_take, List.length_drop]; omega, ?_⟩
    rw [List.getElem_take, List.getElem_drop]
    congr 1
    omega
  simpa using List.all_takeWhile (l := A.drop nx) (p := fun r : Rt => decide (r.y = y)) |> fun h => (List.all_eq_true.1 h) _ hm
theorem cme_stop (A : List Rt) (y : Int) : ∀ (n nx : Nat), A.length - nx = n → ∀ (h : nx + cme A y nx < A.length), A[nx + cme A y nx].y ≠ y
  | 0, nx, hn, h => by omega
  | n + 1, nx, hn, h => by
    have hlt : nx < A.length := by omega
    by_cases e : A[nx].y = y
    · have h1 := cme_yes hlt e
      have ih := cme_stop A y n (nx + 1) (by omega) (by omega)
      have e2 : nx + 1 + cme A y (nx + 1) = nx + cme A y nx := by omega
      simp only [e2] at ih
      exact ih
    · have h1 := cme_no hlt e
      simp only [h1, Nat.add_zero]
      exact e
theorem cme_out {A : List Rt} {y : Int} {nx : Nat} (hS : SY A) (hge : ∀ k (h : k < A.length), nx ≤ k → y ≤ A[k].y) {k : Nat} (hk : k < A.length) (h2 : nx + cme A y nx ≤ k) : y < A[k].y := by
  have hne := cme_stop A y _ nx rfl (by omega : nx + cme A y nx < A.length)
  have h3 := hge (nx + cme A y nx) (by omega) (by omega)
  have h4 := hS (nx + cme A y nx) k (by omega) hk h2
  omega
/-- A round's row. -/
theorem step_row {A : List Rt} (hp : Pos A) (hS : SY A) (a : OfA A) (h1 : a.i + 1 < (edg A).length) :
    (∀ r, r ∈ row3 A (edg A)[a.i] a.nx a.row ↔ r ∈ A ∧ r.y ≤ (edg A)[a.i] ∧ (edg A)[a.i] < r.y + r.h) ∧ SX (row3 A (edg A)[a.i] a.nx a.row) ∧ (row3 A (edg A)[a.i] a.nx a.row).length ≤ a.nx + cme A (edg A)[a.i] a.nx := by
  obtain ⟨i, nx, row, B, ab, hi, hrow, hsub, hsx, hrl, hx, hx1, hx2, hB, hz, hin, hsw, hab, h0⟩ := a
  simp only at h1 ⊢
  have hc := cme_le A (edg A)[i] nx
  have hm2 : ∀ r, r ∈ row2 A (edg A)[i] nx row ↔ r ∈ A ∧ r.y ≤ (edg A)[i] ∧ (edg A)[i] < r.y + r.h := by
    intro r
    unfold row2
    rw [List.mem_append, mem_kp]
    constructor
    · rintro (h | h)
      · have := (hrow r).1 h
        exact ⟨this.1, by omega, this.2.2⟩
      · obtain ⟨j, hj, rfl⟩ := List.mem_iff_getElem.1 h
        rw [List.length_take, List.length_drop] at hj
        have hk : nx + j < A.length := by omega
        have e := cme_in hk (by omega) (by omega : nx + j < nx + cme A (edg A)[i] nx)
        rw [List.getElem_take, List.getElem_drop]
        have := hp _ (List.getElem_mem hk)
        exact ⟨List.getElem_mem hk, by omega, by omega⟩
    · rintro ⟨h, h3, h4⟩
      by_cases h5 : r.y < (edg A)[i]
      · exact .inl ((hrow r).2 ⟨h, h5, h4⟩)
      · right
        obtain ⟨k, hk, rfl⟩ := List.mem_iff_getElem.1 h
        have h6 : nx ≤ k := by
          rcases Nat.lt_or_ge k nx with h7 | h7
          · have := hx1 k hk h7; omega
          · exact h7
        have h7 : k < nx + cme A (edg A)[i] nx := by
          rcases Nat.lt_or_ge k (nx + cme A (edg A)[i] nx) with h8 | h8
          · exact h8
          · have := cme_out hS hx2 hk h8; omega
        refine List.mem_iff_getElem.2 ⟨k - nx, by rw [List.length_take, List.length_drop]; omega, ?_⟩
        rw [List.getElem_take, List.getElem_drop]
        congr 1
        omega
  have hl2 : (row2 A (edg A)[i] nx row).length ≤ nx + cme A (edg A)[i] nx := by
    unfold row2
    rw [List.length_append, List.length_take, List.length_drop]
    have := kp_le (edg A)[i] row
    omega
  unfold row3
  split
  · exact ⟨fun r => by rw [mem_srtX]; exact hm2 r, srtX_sx _, by rw [srtX_len]; exact hl2⟩
  · rename_i hcm
    refine ⟨hm2, ?_, hl2⟩
    have e : row2 A (edg A)[i] nx row = kp (edg A)[i] row := by
      unfold row2
      rw [show cme A (edg A)[i] nx = 0 by omega, List.take_zero, List.append_nil]
    rw [e]
    exact hsx.sublist List.filter_sublist
/-- What is known where the next one begins. -/
def OfA.next {A : List Rt} (hp : Pos A) (hcb : Bnd A) (hS : SY A) (a : OfA A) (h1 : a.i + 1 < (edg A).length) : OfA A where
  i := a.i + 1
  nx := a.nx + cme A (edg A)[a.i] a.nx
  row := row3 A (edg A)[a.i] a.nx a.row
  B := add a.B (edg A)[a.i] (edg A)[a.i + 1] (rowF A (edg A)[a.i])
  ab := if alk ((flat a.B).drop a.ab) (nw (rowF A (edg A)[a.i]) (edg A)[a.i] (edg A)[a.i + 1]) = true then a.ab else (flat a.B).length
  hi := h1
  hrow := fun r => by
    have hr := (step_row hp hS a h1).1 r
    have hlt := ris_get (edg_ris A) a.i (a.i + 1) (by omega) h1 (by omega)
    constructor
    · rintro ⟨h2, h3⟩
      have := hr.1 h2
      exact ⟨this.1, by omega, h3⟩
    · rintro ⟨h2, h3, h4⟩
      refine ⟨hr.2 ⟨h2, ?_, by omega⟩, h4⟩
      have hg := edg_gap h1 (mem_edg.2 ⟨r, h2, .inl rfl⟩)
      omega
  hsub := fun r h => ((step_row hp hS a h1).1 r).1 h |>.1
  hsx := (step_row hp hS a h1).2.1
  hrl := (step_row hp hS a h1).2.2
  hx := by have := cme_le A (edg A)[a.i] a.nx; have := a.hx; omega
  hx1 := fun k hk hkn => by
    have hlt := ris_get (edg_ris A) a.i (a.i + 1) (by omega) h1 (by omega)
    rcases Nat.lt_or_ge k a.nx with h2 | h2
    · have := a.hx1 k hk h2; omega
    · have := cme_in hk h2 hkn; omega
  hx2 := fun k hk hkn => by
    have h2 := cme_out hS a.hx2 hk hkn
    have hg := edg_gap h1 (mem_edg.2 ⟨A[k], List.getElem_mem hk, .inl rfl⟩)
    omega
  hB := add_ok a.hB (ris_get (edg_ris A) a.i (a.i + 1) (by omega) h1 (by omega)) (rowF_ok hp _).1 a.hz
  hz := add_high (ris_get (edg_ris A) a.i (a.i + 1) (by omega) h1 (by omega)) a.hz
  hin := add_in a.hin (by
      obtain ⟨r, hr, h⟩ := mem_edg.1 (List.getElem_mem a.hi)
      have := cnt_pos (hcb r hr)
      omega) (ris_get (edg_ris A) a.i (a.i + 1) (by omega) h1 (by omega)) (by
      refine mrgs_in2 fun t ht => ?_
      have ht2 := (mem_srtI t _).1 ht
      obtain ⟨r, hr, -, rfl⟩ := mem_actI.1 ht2
      have := cnt_pos (hcb r hr)
      simp only
      omega)
  hsw := by
    have e := a.hsw
    rw [List.drop_eq_getElem_cons (show a.i < (edg A).length by omega), List.drop_eq_getElem_cons h1] at e
    rw [← e, List.drop_eq_getElem_cons h1]
    rfl
  hab := by
    have hlt := ris_get (edg_ris A) a.i (a.i + 1) (by omega) h1 (by omega)
    split
    · rename_i h; exact (ab_true a.hB hlt a.hab h).2
    · rename_i h; exact (ab_false a.hB hlt a.hz a.hab (by simpa using h)).2
  h0 := fun h => by omega
theorem step_out {A : List Rt} (a : OfA A) (h1 : a.i + 1 < (edg A).length) :
    flat (add a.B (edg A)[a.i] (edg A)[a.i + 1] (rowF A (edg A)[a.i])) = if alk ((flat a.B).drop a.ab) (nw (rowF A (edg A)[a.i]) (edg A)[a.i] (edg A)[a.i + 1]) = true then (flat a.B).take a.ab ++ ((flat a.B).drop a.ab).map (tall ((edg A)[a.i + 1] - (edg A)[a.i])) else flat a.B ++ nw (rowF A (edg A)[a.i]) (edg A)[a.i] (edg A)[a.i + 1] := by
  have hlt := ris_get (edg_ris A) a.i (a.i + 1) (by omega) h1 (by omega)
  split
  · rename_i h; exact (ab_true a.hB hlt a.hab h).1
  · rename_i h; exact (ab_false a.hB hlt a.hz a.hab (by simpa using h)).1
theorem bnd_flat : ∀ {B : List Bd}, BdOk B → InB (-1048576) 1048576 (-1048576) 1048576 B → Bnd (flat B)
  | [], _, _ => fun r h => by cases h
  | b :: B, h, hI => fun r hr => by
    have e : flat (b :: B) = nw b.s b.y b.z ++ flat B := by rw [← flat_one, ← flat_app]; rfl
    rw [e] at hr
    rcases List.mem_append.1 hr with hr | hr
    · obtain ⟨s, hs, rfl⟩ := List.mem_map.1 hr
      have h1 := hI b List.mem_cons_self
      have h2 := h1.2.2 s hs
      have h3 := h.2.2.1.lt s hs
      have h4 := h.1
      unfold cntB
      rw [Bool.and_eq_true, fit_iff, fit_iff]
      simp only
      omega
    · exact bnd_flat h.2.2.2.2.2 (fun c hc => hI c (List.mem_cons_of_mem _ hc)) r hr
end Go.Proofs.Sh

/- Package band, Of: a round from its beginning. -/
set_option maxRecDepth 100000
set_option linter.unusedSimpArgs false
set_option linter.unusedVariables false
namespace Go.Proofs.Sh
open Go.Pv
open Rg
theorem ics_at {L : List Int} {k : Nat} (h : k < L.length) : (ics L).getD k .any = .int .i64 L[k] := by
  rw [ics, List.getD_eq_getElem?_getD, List.getElem?_map, List.getElem?_eq_getElem h]; rfl
def ofH (A : List Rt) (ys : List Int) (fl : Bool) (out row : List Rt) (ab nx i : Nat) : PS := { n := 134, env := [(11, .int .i64 i), (10, .int .i64 nx), (9, .int .i64 ab), (8, rw' fl row.length), (7, .box 1 0), (6, .sl 1 (ics ys)), (3, .sl 4 (rts A)), (2, .box 0 0)], objs := (0, some [.nilsl]) :: (1, some [oc (gf fl) out.length]) :: (rb fl row ++ ob (gf fl) out), live := [], nxt := 6 }
theorem ofA_fs (A : List Rt) (ys : List Int) (fl : Bool) (out row : List Rt) (hb : Bnd row) (hl : row.length ≤ 4398046511104) (hfl : fl = true → row = []) (ab nx i : Nat) (hi : i + 1 < ys.length) (hys : ys.length ≤ 1000000000000000) (Q : Post)
    (hQ : PWP Try.prog 0 (tailN 2 (ofC3 Try.f5)) Q (ofB0 A ys fl out (kp (ys[i]'(by omega)) row) ab nx nx i (ys[i]'(by omega)) ys[i + 1])) : PWP Try.prog 0 (ofC3 Try.f5) Q (ofH A ys fl out row ab nx i) := by
  refine PWP.cutV mixed 2 ?_
  have key : ∀ S', Wk 0 S' (ofB0 A ys fl out (kp (ys[i]'(by omega)) row) ab nx nx i (ys[i]'(by omega)) ys[i + 1]) → seqK (PWP Try.prog 0 (tailN 2 (ofC3 Try.f5))) Q .normal S' := fun S' hw => PWP.weak hw hQ
  generalize seqK (PWP Try.prog 0 (tailN 2 (ofC3 Try.f5))) Q = Q2 at *
  simp only [ofC3, Try.f5, Option.getD_some, tailN, headN, loopOf, blkOf]
  have hu := wr_up (k := i) (by omega)
  have h1 := ics_at (L := ys) (k := i) (by omega)
  have h2 := ics_at hi
  have hil := ics_length ys
  have hi1 : ((i : Int) + 1).toNat = i + 1 := by omega
  cases fl with
  | true =>
    have h0 := hfl rfl
    subst h0
    have hD := delf_nil (ys[i]'(by omega))
    rw [show kp (ys[i]'(by omega)) [] = [] from rfl] at key
    simp only [ofH, ob, oc, gf, rb, rw', List.nil_append]
    simp -implicitDefEqProofs only [push_cast, hu, h1, h2, hil, hi1, seval]
    (repeat (first | refine ⟨(by omega : _ ≤ _), ?_⟩ | refine ⟨(by omega : _ < _), ?_⟩ | refine ⟨(by simp; omega), ?_⟩ | refine ⟨(by simp; done), ?_⟩ | refine ⟨(by (unfold drawOk; kernel_rfl)), ?_⟩))
    refine callE_box hD [42] [] (by rfl) (by rfl) (by rfl) (by rfl) (by rfl) (by rfl) (fun i j cs h1 h2 => by (rcases i with _ | _ | _ | i <;> simp at h1 h2 <;> (subst h1; subst h2; exact ⟨_, rfl, (by first | exact rcs_cell _ _ _ | exact ics_cell _ _ _ | exact (by (repeat' (first | exact wkL_nil | refine wkL_cons ?_ ?_)); all_goals (first | exact .inl ⟨_, _, _, _, rfl, rfl, rfl⟩ | exact .inr (.inr (.inr (.inr (.inl ⟨_, _, _, rfl, rfl, rfl⟩)))) | exact .inr (.inr (.inr (.inr (.inr (.inl ⟨_, _, _, _, rfl, rfl, rfl⟩))))) | exact .inr (.inr (.inr (.inr (.inr (.inr ⟨_, _, rfl, rfl, rfl⟩))))) | exact .inr (.inl rfl) | exact .inr (.inr (.inl ⟨_, _, _, rfl, rfl, rfl⟩)))) | exact (by (repeat' (first | exact wkL_nil | refine wkL_cons ?_ ?_)); all_goals (first | exact .inr (.inl rfl) | exact .inr (.inr (.inl ⟨_, _, _, rfl, rfl, rfl⟩)) | exact .inr (.inr (.inr (.inl ⟨_, _, _, _, _, rfl, rfl, rfl⟩))) | exact .inr (.inr (.inr (.inr (.inr (.inr (.inr ⟨_, _, _, _, rfl, rfl, rfl⟩)))))))))⟩))) (by simp [PS.lv, lkp_hit, lkp_miss, lkp_nil]) (by (repeat' (first | exact wkL_nil | refine wkL_cons ?_ ?_)); all_goals (first | exact .inl ⟨_, _, _, rfl, rfl, rfl⟩ | exact .inr (.inl rfl) | exact .inr (.inr (.inl ⟨_, _, _, _, rfl, rfl, rfl⟩)) | exact .inr (.inr (.inr (.inl ⟨_, _, _, rfl, rfl, rfl, (wkL_get (by (repeat' (first | exact wkL_nil | refine wkL_cons ?_ ?_)); all_goals (first | exact .inl ⟨_, _, _, rfl, rfl, rfl⟩ | exact .inr rfl))).2⟩))) | exact .inr (.inr (.inr (.inr (.inr (.inr (.inl ⟨_, _, _, _, rfl, rfl, rfl⟩)))))) | exact .inr (.inr (.inr (.inr (.inr (.inr (.inr ⟨_, _, _, _, _, rfl, rfl, rfl⟩)))))))) (by decide) (by simp) (by rfl) (by (repeat' (first | exact tok_nil | refine tok_cons ?_ ?_)); all_goals (first | exact rcs_tok _ _ _ _ | exact ics_tok _ _ _ _ | (simp [tokLt1]; done))) (fun _ => by rfl) (by first | rfl | simp [gdOk, newToks]) ?_
    simp -implicitDefEqProofs only [push_cast, seval]
    (repeat (first | refine ⟨(by omega : _ ≤ _), ?_⟩ | refine ⟨(by omega : _ < _), ?_⟩ | refine ⟨(by simp; omega), ?_⟩ | refine ⟨(by simp; done), ?_⟩ | refine ⟨(by (unfold drawOk; kernel_rfl)), ?_⟩))
    refine key _ ?_
    (simp only [ofB0, ob, oc, gf, rb, rw', List.cons_append, List.nil_append, zipB, upto]; exact Wk.by _ _ _ [(0,0),(1,1),(4,42),(5,46)] [] [] (by simp) (by simp [wkV, PV.el, PV.weak, PS.get, PS.obj, PS.lv, lkp_hit, lkp_miss, lkp_nil, lko, wkL, wkC, res1, rcs_wk, ics_wk]) (by simp [PS.get, PS.obj, PS.lv, lkp_hit, lkp_miss, lkp_nil, lko, wkL, wkC, PV.weak, wkL, wkC, res1, rcs_wk, ics_wk]) (by simp [PS.get, PS.obj, PS.lv, lkp_hit, lkp_miss, lkp_nil, lko]) (by rfl) (by rfl) (by simp [lko]) (by simp) (by simp) (by simp) (fun i hi => by rcases i with _ | _ | _ | _ | _ | _ | i <;> first | rfl | (exfalso; omega)))
  | false =>
    have hD := delf_fs (ys[i]'(by omega)) row hb hl
    simp only [ofH, ob, oc, gf, rb, rw', List.cons_append, List.nil_append]
    simp -implicitDefEqProofs only [push_cast, hu, h1, h2, hil, hi1, seval]
    (repeat (first | refine ⟨(by omega : _ ≤ _), ?_⟩ | refine ⟨(by omega : _ < _), ?_⟩ | refine ⟨(by simp; omega), ?_⟩ | refine ⟨(by simp; done), ?_⟩ | refine ⟨(by (unfold drawOk; kernel_rfl)), ?_⟩))
    refine callE_box hD [3, 42] [] (by rfl) (by rfl) (by rfl) (by rfl) (by rfl) (by rfl) (fun i j cs h1 h2 => by (rcases i with _ | _ | _ | i <;> simp at h1 h2 <;> (subst h1; subst h2; exact ⟨_, rfl, (by first | exact rcs_cell _ _ _ | exact ics_cell _ _ _ | exact (by (repeat' (first | exact wkL_nil | refine wkL_cons ?_ ?_)); all_goals (first | exact .inl ⟨_, _, _, _, rfl, rfl, rfl⟩ | exact .inr (.inr (.inr (.inr (.inl ⟨_, _, _, rfl, rfl, rfl⟩)))) | exact .inr (.inr (.inr (.inr (.inr (.inl ⟨_, _, _, _, rfl, rfl, rfl⟩))))) | exact .inr (.inr (.inr (.inr (.inr (.inr ⟨_, _, rfl, rfl, rfl⟩))))) | exact .inr (.inl rfl) | exact .inr (.inr (.inl ⟨_, _, _, rfl, rfl, rfl⟩)))) | exact (by (repeat' (first | exact wkL_nil | refine wkL_cons ?_ ?_)); all_goals (first | exact .inr (.inl rfl) | exact .inr (.inr (.inl ⟨_, _, _, rfl, rfl, rfl⟩)) | exact .inr (.inr (.inr (.inl ⟨_, _, _, _, _, rfl, rfl, rfl⟩))) | exact .inr (.inr (.inr (.inr (.inr (.inr (.inr ⟨_, _, _, _, rfl, rfl, rfl⟩)))))))))⟩))) (by simp [PS.lv, lkp_hit, lkp_miss, lkp_nil]) (by (repeat' (first | exact wkL_nil | refine wkL_cons ?_ ?_)); all_goals (first | exact .inl ⟨_, _, _, rfl, rfl, rfl⟩ | exact .inr (.inl rfl) | exact .inr (.inr (.inl ⟨_, _, _, _, rfl, rfl, rfl⟩)) | exact .inr (.inr (.inr (.inl ⟨_, _, _, rfl, rfl, rfl, (wkL_get (by (repeat' (first | exact wkL_nil | refine wkL_cons ?_ ?_)); all_goals (first | exact .inl ⟨_, _, _, rfl, rfl, rfl⟩ | exact .inr rfl))).2⟩))) | exact .inr (.inr (.inr (.inr (.inr (.inr (.inl ⟨_, _, _, _, rfl, rfl, rfl⟩)))))) | exact .inr (.inr (.inr (.inr (.inr (.inr (.inr ⟨_, _, _, _, _, rfl, rfl, rfl⟩)))))))) (by decide) (by simp) (by rfl) (by (repeat' (first | exact tok_nil | refine tok_cons ?_ ?_)); all_goals (first | exact rcs_tok _ _ _ _ | exact ics_tok _ _ _ _ | (simp [tokLt1]; done))) (fun _ => by rfl) (by first | rfl | simp [gdOk, newToks]) ?_
    simp -implicitDefEqProofs only [push_cast, rcs_back, seval]
    (repeat (first | refine ⟨(by omega : _ ≤ _), ?_⟩ | refine ⟨(by omega : _ < _), ?_⟩ | refine ⟨(by simp; omega), ?_⟩ | refine ⟨(by simp; done), ?_⟩ | refine ⟨(by (unfold drawOk; kernel_rfl)), ?_⟩))
    refine key _ ?_
    generalize kp (ys[i]'(by omega)) row = R2 at *
    (simp only [ofB0, ob, oc, gf, rb, rw', List.cons_append, List.nil_append, zipB, upto]; exact Wk.by _ _ _ [(0,0),(1,1),(2,2),(3,3),(4,42),(5,46)] [] [] (by simp) (by simp [wkV, PV.el, PV.weak, PS.get, PS.obj, PS.lv, lkp_hit, lkp_miss, lkp_nil, lko, wkL, wkC, res1, rcs_wk, ics_wk]) (by simp [PS.get, PS.obj, PS.lv, lkp_hit, lkp_miss, lkp_nil, lko, wkL, wkC, PV.weak, wkL, wkC, res1, rcs_wk, ics_wk]) (by simp [PS.get, PS.obj, PS.lv, lkp_hit, lkp_miss, lkp_nil, lko]) (by rfl) (by rfl) (by simp [lko]) (by simp) (by simp) (by simp) (fun i hi => by rcases i with _ | _ | _ | _ | _ | _ | i <;> first | rfl | (exfalso; omega)))
end Go.Proofs.Sh

/- Package band, Of: its rounds. -/
set_option maxRecDepth 100000
set_option linter.unusedSimpArgs false
set_option linter.unusedVariables false
namespace Go.Proofs.Sh
open Go.Pv
open Rg
def ofT (f : Func) : Code := tailN 7 (f.body.getD .skip)
def c13 : Code → Code
  | .seq (.seq r _) _ => r
  | _ => .skip
def cEnd : Code → Code
  | .seq _ y => y
  | _ => .skip
def cHd : Code → Code
  | .seq a _ => a
  | _ => .skip
def c15 : Code → Code
  | .seq _ (.seq _ r) => r
  | _ => .skip
theorem of_shape : ofT Try.f5 = .seq (.seq (c13 (ofT Try.f5)) (.block 2 (.loop (loopOf (ofT Try.f5))))) (cEnd (ofT Try.f5)) := by kernel_rfl
theorem of_shape2 : loopOf (ofT Try.f5) = .seq (cHd (loopOf (ofT Try.f5))) (.seq (.block 3 (ofC3 Try.f5)) (c15 (loopOf (ofT Try.f5)))) := by kernel_rfl
theorem ofHd_fs (A : List Rt) (ys : List Int) (fl : Bool) (out row : List Rt) (ab nx i : Nat) (hi : i < ys.length) (hys : ys.length ≤ 1000000000000000) (Q : Post) (k1 : i + 1 < ys.length → ∀ S, Wk 0 S (ofH A ys fl out row ab nx i) → Q .normal S) (k2 : ys.length = i + 1 → ∀ S, Wk 0 S (ofH A ys fl out row ab nx i) → Q (.exit 2) S) : PWP Try.prog 0 (cHd (loopOf (ofT Try.f5))) Q (ofH A ys fl out row ab nx i) := by
  simp only [ofT, Try.f5, Option.getD_some, tailN, loopOf, cHd]
  refine VC_sound mixed ?_
  have hu := wr_up (k := i) (by omega)
  have hil := ics_length ys
  simp only [ofH]
  cases c1 : decide ((i : Int) + 1 < (ys.length : Int)) with
  | false =>
    simp -implicitDefEqProofs only [push_cast, hu, hil, c1, seval]
    refine k2 (by simp at c1; omega) _ ?_
    cases fl with
    | true =>
      (simp only [ofH, ob, oc, gf, rb, rw', List.cons_append, List.nil_append]; exact Wk.by _ _ _ [(0,0),(1,1)] [] [] (by simp) (by simp [wkV, PV.el, PV.weak, PS.get, PS.obj, PS.lv, lkp_hit, lkp_miss, lkp_nil, lko, wkL, wkC, res1, rcs_wk, ics_wk]) (by simp [PS.get, PS.obj, PS.lv, lkp_hit, lkp_miss, lkp_nil, lko, wkL, wkC, PV.weak, wkL, wkC, res1, rcs_wk, ics_wk]) (by simp [PS.get, PS.obj, PS.lv, lkp_hit, lkp_miss, lkp_nil, lko]) (by rfl) (by rfl) (by simp [lko]) (by simp) (by simp) (by simp) (fun i hi => by rcases i with _ | _ | _ | _ | _ | _ | i <;> first | rfl | (exfalso; omega)))
    | false =>
      (simp only [ofH, ob, oc, gf, rb, rw', List.cons_append, List.nil_append]; exact Wk.by _ _ _ [(0,0),(1,1),(2,2),(3,3)] [] [] (by simp) (by simp [wkV, PV.el, PV.weak, PS.get, PS.obj, PS.lv, lkp_hit, lkp_miss, lkp_nil, lko, wkL, wkC, res1, rcs_wk, ics_wk]) (by simp [PS.get, PS.obj, PS.lv, lkp_hit, lkp_miss, lkp_nil, lko, wkL, wkC, PV.weak, wkL, wkC, res1, rcs_wk, ics_wk]) (by simp [PS.get, PS.obj, PS.lv, lkp_hit, lkp_miss, lkp_nil, lko]) (by rfl) (by rfl) (by simp [lko]) (by simp) (by simp) (by simp) (fun i hi => by rcases i with _ | _ | _ | _ | _ | _ | i <;> first | rfl | (exfalso; omega)))
  | true =>
    simp -implicitDefEqProofs only [push_cast, hu, hil, c1, seval]
    refine k1 (by simp at c1; omega) _ ?_
    cases fl with
    | true =>
      (simp only [ofH, ob, oc, gf, rb, rw', List.cons_append, List.nil_append]; exact Wk.by _ _ _ [(0,0),(1,1)] [] [] (by simp) (by simp [wkV, PV.el, PV.weak, PS.get, PS.obj, PS.lv, lkp_hit, lkp_miss, lkp_nil, lko, wkL, wkC, res1, rcs_wk, ics_wk]) (by simp [PS.get, PS.obj, PS.lv, lkp_hit, lkp_miss, lkp_nil, lko, wkL, wkC, PV.weak, wkL, wkC, res1, rcs_wk, ics_wk]) (by simp [PS.get, PS.obj, PS.lv, lkp_hit, lkp_miss, lkp_nil, lko]) (by rfl) (by rfl) (by simp [lko]) (by simp) (by simp) (by simp) (fun i hi => by rcases i with _ | _ | _ | _ | _ | _ | i <;> first | rfl | (exfalso; omega)))
    | false =>
      (simp only [ofH, ob, oc, gf, rb, rw', List.cons_append, List.nil_append]; exact Wk.by _ _ _ [(0,0),(1,1),(2,2),(3,3)] [] [] (by simp) (by simp [wkV, PV.el, PV.weak, PS.get, PS.obj, PS.lv, lkp_hit, lkp_miss, lkp_nil, lko, wkL, wkC, res1, rcs_wk, ics_wk]) (by simp [PS.get, PS.obj, PS.lv, lkp_hit, lkp_miss, lkp_nil, lko, wkL, wkC, PV.weak, wkL, wkC, res1, rcs_wk, ics_wk]) (by simp [PS.get, PS.obj, PS.lv, lkp_hit, lkp_miss, lkp_nil, lko]) (by rfl) (by rfl) (by simp [lko]) (by simp) (by simp) (by simp) (fun i hi => by rcases i with _ | _ | _ | _ | _ | _ | i <;> first | rfl | (exfalso; omega)))
theorem of15_fs (A : List Rt) (ys : List Int) (out row : List Rt) (ab nx i : Nat) (hi : i ≤ 1000000000000000) (Q : Post) (k1 : ∀ S, Wk 0 S (ofE A ys out row ab nx (i + 1)) → Q .normal S) : PWP Try.prog 0 (c15 (loopOf (ofT Try.f5))) Q (ofE A ys out row ab nx i) := by
  simp only [ofT, Try.f5, Option.getD_some, tailN, loopOf, c15]
  refine VC_sound mixed ?_
  have hu := wr_up (k := i) (by omega)
  simp only [ofE]
  simp -implicitDefEqProofs only [push_cast, hu, seval]
  refine k1 _ ?_
  (simp only [ofE]; exact Wk.by _ _ _ [(0,0),(1,1),(2,2),(3,3)] [] [] (by simp) (by simp [wkV, PV.el, PV.weak, PS.get, PS.obj, PS.lv, lkp_hit, lkp_miss, lkp_nil, lko, wkL, wkC, res1, rcs_wk, ics_wk, hu]) (by simp [PS.get, PS.obj, PS.lv, lkp_hit, lkp_miss, lkp_nil, lko, wkL, wkC, PV.weak, wkL, wkC, res1, rcs_wk, ics_wk, hu]) (by simp [PS.get, PS.obj, PS.lv, lkp_hit, lkp_miss, lkp_nil, lko]) (by rfl) (by rfl) (by simp [lko]) (by simp) (by simp) (by simp) (fun i hi => by rcases i with _ | _ | _ | _ | _ | _ | i <;> first | rfl | (exfalso; omega)))
/-- Rows that are not written any more. -/
theorem fz_int (m : Nat) (ps : List PV) (k : IntKind) (n : Int) : deep3 (frz1 m ps) (.int k n) = .int k n := rfl
theorem fz_nilsl (m : Nat) (ps : List PV) : deep3 (frz1 m ps) .nilsl = .nilsl := rfl
theorem fz_sl (m : Nat) (ps : List PV) (z : Nat) (l : List PV) : deep3 (frz1 m ps) (.sl z l) = .sl z l := rfl
theorem fz_box (m i off : Nat) (ps : List PV) (h : i ≠ m) : deep3 (frz1 m ps) (.box i off) = .box i off := by show frz1 m ps (.box i off) = _; rw [frz1, if_neg h]
theorem fz_slg' (m i n z : Nat) (ps : List PV) (h : i ≠ m) : deep3 (frz1 m ps) (.slg i n z) = .slg i n z := by show frz1 m ps (.slg i n z) = _; rw [frz1, if_neg h]
theorem fz_slg (m n z : Nat) (ps : List PV) (h : n * z ≤ ps.length) : deep3 (frz1 m ps) (.slg m n z) = slOr z (chunk z n ps) := by show frz1 m ps (.slg m n z) = _; rw [frz1, if_pos rfl, if_pos h]
theorem f1_slg (m n z : Nat) (ps : List PV) (h : n * z ≤ ps.length) : frz1 m ps (.slg m n z) = slOr z (chunk z n ps) := by rw [frz1, if_pos rfl, if_pos h]
theorem f1_nilsl (m : Nat) (ps : List PV) : frz1 m ps .nilsl = .nilsl := rfl
theorem chunk_rcs : ∀ L : List Rt, chunk 4 L.length (rcs L) = rts L
  | [] => rfl
  | r :: L => by
    have ih := chunk_rcs L
    rw [List.length_cons, rcs_cons]
    show (.agg (((rc r ++ rcs L).take 4).map PV.weak)) :: chunk 4 L.length ((rc r ++ rcs L).drop 4) = rpv r :: rts L
    rw [show (rc r ++ rcs L).drop 4 = rcs L from rfl, ih]
    rfl
theorem chunk_ics : ∀ L : List Int, chunk 1 L.length (ics L) = ics L
  | [] => rfl
  | n :: L => by
    have ih := chunk_ics L
    show (((ics (n :: L)).getD 0 .any).weak) :: chunk 1 L.length ((ics (n :: L)).drop 1) = _
    rw [show (ics (n :: L)).drop 1 = ics L from rfl, ih]
    rfl
theorem slOr_ne {z : Nat} {l : List PV} (h : l ≠ []) : slOr z l = .sl z l := by cases l with
  | nil => exact absurd rfl h
  | cons x l => rfl
theorem frzR {L : List Rt} (h : L ≠ []) : slOr 4 (chunk 4 L.length (rcs L)) = .sl 4 (rts L) := by rw [chunk_rcs]; exact slOr_ne (by intro e; exact h (List.map_eq_nil_iff.1 e))
theorem frzI {L : List Int} (h : L ≠ []) : slOr 1 (chunk 1 L.length (ics L)) = .sl 1 (ics L) := by rw [chunk_ics]; exact slOr_ne (by intro e; exact h (List.map_eq_nil_iff.1 e))
def ofZ (out : List Rt) : PS := { n := 134, env := [(7, .box 1 0), (2, .box 0 0)], objs := [(0, some [.nilsl]), (1, some [.sl 4 (rts out)])], live := [], nxt := 6 }
theorem ofEnd_fs (A : List Rt) (ys : List Int) (out row : List Rt) (hout : out ≠ []) (hl : out.length ≤ 4398046511104) (ab nx i : Nat) : PWP Try.prog 0 (cEnd (ofT Try.f5)) (retQ Try.prog 0 Try.f5.results.toList [] 0 (rgn out)) (ofE A ys out row ab nx i) := by
  have hC := clip_fs out hl
  refine PWP.weak (T := ofZ out) ?_ ?_
  · refine Wk.trans (Wk.frz (id := 2) (ps := rcs out) (by simp [ofE, PS.obj, lkp_hit, lkp_miss]) (Nat.zero_le _)) ?_
    have h2 : out.length * 4 ≤ (rcs out).length := by rw [rcs_length]; exact Nat.le_refl _
    have h3 := frzR hout
    simp only [ofE, PS.frz, frEnv, frObjs, List.map_cons, List.map_nil, Option.map_some, fz_int, fz_sl, fz_box _ _ _ _ (show (1 : Nat) ≠ 2 by decide), fz_box _ _ _ _ (show (0 : Nat) ≠ 2 by decide), fz_slg' _ _ _ _ _ (show (3 : Nat) ≠ 2 by decide), f1_nilsl, f1_slg _ _ _ _ h2, h3]
    (simp only [ofZ]; exact Wk.by _ _ _ [(0,0),(1,1)] [] [] (by simp) (by simp [wkV, PV.el, PV.weak, PS.get, PS.obj, PS.lv, lkp_hit, lkp_miss, lkp_nil, lko, wkL, wkC, res1, rcs_wk, ics_wk]) (by simp [PS.get, PS.obj, PS.lv, lkp_hit, lkp_miss, lkp_nil, lko, wkL, wkC, PV.weak, wkL, wkC, res1, rcs_wk, ics_wk]) (by simp [PS.get, PS.obj, PS.lv, lkp_hit, lkp_miss, lkp_nil, lko]) (by rfl) (by rfl) (by simp [lko]) (by simp) (by simp) (by simp) (fun i hi => by rcases i with _ | _ | _ | _ | _ | _ | i <;> first | rfl | (exfalso; omega)))
  simp only [ofT, Try.f5, Option.getD_some, tailN, cEnd, ofZ]
  refine VC_sound mixed ?_
  simp -implicitDefEqProofs only [push_cast, seval]
  refine callE_p hC ?_
  simp -implicitDefEqProofs only [push_cast, rgn, seval]
theorem ris_len : ∀ {L : List Int} {lo hi : Int}, Ris L → (∀ u ∈ L, lo ≤ u ∧ u ≤ hi) → lo ≤ hi + 1 → (L.length : Int) ≤ hi - lo + 1
  | [], lo, hi, _, _, h => by simp; omega
  | y :: L, lo, hi, hR, hb, h => by
    have h1 := hb y List.mem_cons_self
    have ih := ris_len (L := L) (lo := y + 1) (hi := hi) hR.2 (fun u hu => ⟨by have := hR.1 u hu; omega, (hb u (List.mem_cons_of_mem _ hu)).2⟩) (by omega)
    rw [List.length_cons]
    omega
theorem edg_len {A : List Rt} (hcb : Bnd A) : (edg A).length ≤ 2097153 := by
  have := ris_len (lo := -1048576) (hi := 1048576) (edg_ris A) (fun u hu => by
    obtain ⟨r, hr, h⟩ := mem_edg.1 hu
    have := cnt_pos (hcb r hr)
    omega) (by omega)
  omega
theorem edg_two {A : List Rt} (hcb : Bnd A) (hne : A ≠ []) : 2 ≤ (edg A).length := by
  cases A with
  | nil => exact absurd rfl hne
  | cons r A =>
    have h1 : r.y ∈ edg (r :: A) := mem_edg.2 ⟨r, List.mem_cons_self, .inl rfl⟩
    have h2 : r.y + r.h ∈ edg (r :: A) := mem_edg.2 ⟨r, List.mem_cons_self, .inr rfl⟩
    have hh := cnt_pos (hcb r List.mem_cons_self)
    generalize edg (r :: A) = L at *
    match L, h1, h2 with
    | [], h1, _ => cases h1
    | [x], h1, h2 => rw [List.mem_singleton] at h1 h2; omega
    | x :: z :: L, _, _ => simp
theorem ris_first : ∀ {L : List Int} (h : 0 < L.length), Ris L → ∀ u ∈ L, L[0] ≤ u
  | y :: L, _, hR, u, hu => by
    rcases List.mem_cons.1 hu with rfl | hu
    · exact Int.le_refl _
    · exact Int.le_of_lt (hR.1 u hu)
def ofP (A : List Rt) (ys : List Int) : PS := { n := 134, env := [(10, .int .i64 0), (9, .int .i64 0), (8, .nilsl), (7, .box 1 0), (6, .sl 1 (ics ys)), (3, .sl 4 (rts A)), (2, .box 0 0)], objs := [(0, some [.nilsl]), (1, some [.nilsl])], live := [], nxt := 6 }
theorem of13_fs (A : List Rt) (ys : List Int) (Q : Post) (k : ∀ S, Wk 0 S (ofH A ys true [] [] 0 0 0) → Q .normal S) : PWP Try.prog 0 (c13 (ofT Try.f5)) Q (ofP A ys) := by
  simp only [ofT, Try.f5, Option.getD_some, tailN, c13, ofP]
  refine VC_sound mixed ?_
  simp -implicitDefEqProofs only [push_cast, seval]
  refine k _ ?_
  (simp only [ofH, ob, oc, gf, rb, rw', List.cons_append, List.nil_append]; exact Wk.by _ _ _ [(0,0),(1,1)] [] [] (by simp) (by simp [wkV, PV.el, PV.weak, PS.get, PS.obj, PS.lv, lkp_hit, lkp_miss, lkp_nil, lko, wkL, wkC, res1, rcs_wk, ics_wk]) (by simp [PS.get, PS.obj, PS.lv, lkp_hit, lkp_miss, lkp_nil, lko, wkL, wkC, PV.weak, wkL, wkC, res1, rcs_wk, ics_wk]) (by simp [PS.get, PS.obj, PS.lv, lkp_hit, lkp_miss, lkp_nil, lko]) (by rfl) (by rfl) (by simp [lko]) (by simp) (by simp) (by simp) (fun i hi => by rcases i with _ | _ | _ | _ | _ | _ | i <;> first | rfl | (exfalso; omega)))
theorem bnd_app {L K : List Rt} (h1 : Bnd L) (h2 : Bnd K) : Bnd (L ++ K) := fun r hr => by
  rcases List.mem_append.1 hr with hr | hr
  · exact h1 r hr
  · exact h2 r hr
theorem spans_row {A : List Rt} (hcb : Bnd A) (y : Int) : ∀ t ∈ rowF A y, -1048576 ≤ t.1 ∧ t.2 ≤ 1048576 := by
  refine mrgs_in2 fun t ht => ?_
  obtain ⟨r, hr, -, rfl⟩ := mem_actI.1 ((mem_srtI t _).1 ht)
  have := cnt_pos (hcb r hr)
  simp only
  omega
theorem bnd_nw {s : List (Int × Int)} {y z : Int} (hs : SpOk s) (hi : ∀ t ∈ s, -1048576 ≤ t.1 ∧ t.2 ≤ 1048576) (hy : -1048576 ≤ y ∧ y < z ∧ z ≤ 1048576) : Bnd (nw s y z) := fun r hr => by
  obtain ⟨t, ht, rfl⟩ := List.mem_map.1 hr
  have h2 := hi t ht
  have h3 := hs.lt t ht
  unfold cntB
  rw [Bool.and_eq_true, fit_iff, fit_iff]
  simp only
  omega
theorem edg_head {A : List Rt} (hcb : Bnd A) (hS : SY A) (h0 : 0 < A.length) (h1 : 0 < (edg A).length) : A[0].y = (edg A)[0] := by
  have h2 := ris_first h1 (edg_ris A) A[0].y (mem_edg.2 ⟨A[0], List.getElem_mem h0, .inl rfl⟩)
  obtain ⟨r, hr, h⟩ := mem_edg.1 (List.getElem_mem h1)
  obtain ⟨k, hk, rfl⟩ := List.mem_iff_getElem.1 hr
  have h3 := hS 0 k h0 hk (Nat.zero_le _)
  have h4 := cnt_pos (hcb _ (List.getElem_mem hk))
  omega
/-- A round. -/
theorem ofX_fs (A : List Rt) (hcb : Bnd A) (hS : SY A) (hl : A.length ≤ 4398046511104) (hne : A ≠ []) (a : OfA A) (h1 : a.i + 1 < (edg A).length) (Q : Post)
    (hQ : ∀ S, Wk 0 S (ofE A (edg A) (flat (OfA.next (fun r h => by have := cnt_pos (hcb r h); omega) hcb hS a h1).B) (row3 A (edg A)[a.i] a.nx a.row) (OfA.next (fun r h => by have := cnt_pos (hcb r h); omega) hcb hS a h1).ab (a.nx + cme A (edg A)[a.i] a.nx) a.i) → Q .normal S) :
    PWP Try.prog 0 (ofC3 Try.f5) Q (ofH A (edg A) (decide (a.i = 0)) (flat a.B) a.row a.ab a.nx a.i) := by
  have hp : Pos A := fun r h => by have := cnt_pos (hcb r h); omega
  have hel := edg_len hcb
  have hlt := ris_get (edg_ris A) a.i (a.i + 1) (by omega) h1 (by omega)
  have hyb : ∀ u ∈ edg A, -1048576 ≤ u ∧ u ≤ 1048576 := fun u hu => by
    obtain ⟨r, hr, h⟩ := mem_edg.1 hu
    have := cnt_pos (hcb r hr)
    omega
  have hy0 := hyb _ (List.getElem_mem a.hi)
  have hy1 := hyb _ (List.getElem_mem h1)
  obtain ⟨s1, s2, s3⟩ := step_row hp hS a h1
  have hcl := cme_le A (edg A)[a.i] a.nx
  have hx := a.hx
  have hrl := a.hrl
  have hbr : Bnd a.row := fun r h => hcb r (a.hsub r h)
  have hbr3 : Bnd (row3 A (edg A)[a.i] a.nx a.row) := fun r h => hcb r ((s1 r).1 h).1
  have hrow := row_is hp s2 s1
  have hin : InB (-1048576) 1048576 (-1048576) 1048576 a.B := fun c hc => ⟨(a.hin c hc).1, by have := (a.hin c hc).2.1; omega, (a.hin c hc).2.2⟩
  have hbB := bnd_flat a.hB hin
  have hkl := kp_le (edg A)[a.i] a.row
  have hA0 : 0 < A.length := by cases A with
    | nil => exact absurd rfl hne
    | cons r A => simp
  have hfst : a.i = 0 → A[0].y = (edg A)[a.i] ∧ a.nx = 0 := by
    intro h0
    have e : (edg A)[a.i] = (edg A)[0]'(by omega) := by congr 1
    have e2 := edg_head hcb hS hA0 (by omega)
    refine ⟨e2.trans e.symm, ?_⟩
    rcases Nat.eq_zero_or_pos a.nx with h | h
    · exact h
    · have := a.hx1 0 hA0 h
      omega
  have hc0 : a.i = 0 → 0 < cme A (edg A)[a.i] a.nx := by
    intro h0
    obtain ⟨e1, e2⟩ := hfst h0
    rw [e2, cme_yes hA0 e1]
    omega
  have hsp : ((rowF A (edg A)[a.i]).length : Int) ≤ 1048576 - -1048576 := spans_len (rowF_ok hp _).1 (spans_row hcb _) (by omega)
  have hfl : ((flat a.B).length : Int) ≤ (1048576 - -1048576) * ((edg A)[a.i] - -1048576) := flat_len a.hB a.hin (by omega) (by omega)
  have hsum : (flat a.B).length + (rowF A (edg A)[a.i]).length ≤ 4398046511104 := by omega
  refine ofA_fs A (edg A) _ _ _ hbr (by omega) (fun h => (a.h0 (by simpa using h)).1) a.ab a.nx a.i h1 (by omega) Q ?_
  refine ofB0_fs A (edg A) _ _ _ hl a.ab a.nx a.i (by omega) hx _ _ (fun h => ?_) Q ?_
  · have h0 : a.i = 0 := by simpa using h
    exact ⟨by rw [(a.h0 h0).1]; rfl, hc0 h0⟩
  refine ofB1_fs A (edg A) _ _ _ (by rw [List.length_append, List.length_take, List.length_drop]; omega) a.ab a.nx _ a.i _ _ Q ?_
  refine ofC1_fs A (edg A) _ _ _ (fun h => by rw [(a.h0 (by simpa using h)).2]; rfl) a.ab _ a.i _ _ Q ?_
  refine ofC2_fs A (edg A) _ _ (row3 A (edg A)[a.i] a.nx a.row) hbr3 (by rw [hrow]; exact hsum) (by omega) (fun h => ?_) a.ab _ a.i _ _ _ (by omega) Q ?_
  · have h0 : a.i = 0 := by simpa using h
    refine ⟨by rw [(a.h0 h0).2]; rfl, fun e => ?_⟩
    have h4 := cnt_pos (hcb _ (List.getElem_mem hA0))
    have := (s1 A[0]).2 ⟨List.getElem_mem hA0, by have := (hfst h0).1; omega, by have := (hfst h0).1; omega⟩
    rw [e] at this
    cases this
  rw [hrow]
  have hbn : Bnd (flat a.B ++ nw (rowF A (edg A)[a.i]) (edg A)[a.i] (edg A)[a.i + 1]) := bnd_app hbB (bnd_nw (rowF_ok hp _).1 (spans_row hcb _) (by omega))
  refine ofD_fs A (edg A) _ _ hbn (by rw [List.length_append, nw, List.length_map]; exact hsum) a.ab _ a.i _ _ _ a.hab.le (by simp) (by omega) Q ?_
  intro S hw
  refine hQ S ?_
  simp only [OfA.next]
  rw [step_out a h1]
  rw [List.take_left, List.drop_left, List.take_append_of_le_length a.hab.le] at hw
  by_cases hc : alk ((flat a.B).drop a.ab) (nw (rowF A (edg A)[a.i]) (edg A)[a.i] (edg A)[a.i + 1]) = true
  · rw [if_pos hc] at hw
    rw [if_pos hc, if_pos hc]
    exact hw
  · rw [if_neg hc] at hw
    rw [if_neg hc, if_neg hc]
    exact hw
def OfA.first {A : List Rt} (hcb : Bnd A) (hne : A ≠ []) : OfA A where
  i := 0
  nx := 0
  row := []
  B := []
  ab := 0
  hi := by have := edg_two hcb hne; omega
  hrow := fun r => ⟨fun h => (by cases h.1), fun ⟨h1, h2, h3⟩ => by
    have := ris_first (by have := edg_two hcb hne; omega) (edg_ris A) r.y (mem_edg.2 ⟨r, h1, .inl rfl⟩)
    omega⟩
  hsub := fun r h => by cases h
  hsx := List.Pairwise.nil
  hrl := Nat.le_refl _
  hx := Nat.zero_le _
  hx1 := fun k h h2 => absurd h2 (Nat.not_lt_zero _)
  hx2 := fun k h _ => ris_first (by have := edg_two hcb hne; omega) (edg_ris A) A[k].y (mem_edg.2 ⟨A[k], List.getElem_mem h, .inl rfl⟩)
  hB := trivial
  hz := fun c h => by cases h
  hin := fun c h => by cases h
  hsw := rfl
  hab := AbOk.first _
  h0 := fun _ => ⟨rfl, rfl⟩
/-- The rounds, and what is told of them. -/
theorem ofL_fs (A : List Rt) (hcb : Bnd A) (hS : SY A) (hne : A ≠ []) (hl : A.length ≤ 4398046511104) : PWP Try.prog 0 (ofT Try.f5) (retQ Try.prog 0 Try.f5.results.toList [] 0 (rgn (cn (hasL A)))) (ofP A (edg A)) := by
  have hp : Pos A := fun r h => by have := cnt_pos (hcb r h); omega
  have hcn := cn_of hp
  have hel := edg_len hcb
  have he2 := edg_two hcb hne
  generalize hR : retQ Try.prog 0 Try.f5.results.toList [] 0 (rgn (cn (hasL A))) = R
  rw [of_shape]
  refine PWP.seq (PWP.seq ?_)
  refine of13_fs A (edg A) _ (fun S hw => ?_)
  refine PWP.weak hw (PWP.block ?_)
  refine PWP.loop (α := OfA A) (fun a => ofH A (edg A) (decide (a.i = 0)) (flat a.B) a.row a.ab a.nx a.i) (fun a => (edg A).length - a.i) (OfA.first hcb hne) ?_ (fun a => ?_)
  · show Wk 0 (ofH A (edg A) true [] [] 0 0 0) (ofH A (edg A) true [] [] 0 0 0)
    (simp only [ofH, ob, oc, gf, rb, rw', List.cons_append, List.nil_append]; exact Wk.by _ _ _ [(0,0),(1,1)] [] [] (by simp) (by simp [wkV, PV.el, PV.weak, PS.get, PS.obj, PS.lv, lkp_hit, lkp_miss, lkp_nil, lko, wkL, wkC, res1, rcs_wk, ics_wk]) (by simp [PS.get, PS.obj, PS.lv, lkp_hit, lkp_miss, lkp_nil, lko, wkL, wkC, PV.weak, wkL, wkC, res1, rcs_wk, ics_wk]) (by simp [PS.get, PS.obj, PS.lv, lkp_hit, lkp_miss, lkp_nil, lko]) (by rfl) (by rfl) (by simp [lko]) (by simp) (by simp) (by simp) (fun i hi => by rcases i with _ | _ | _ | _ | _ | _ | i <;> first | rfl | (exfalso; omega)))
  have hai := a.hi
  rw [of_shape2]
  refine PWP.seq (ofHd_fs A (edg A) _ _ _ _ _ _ hai (by omega) _ (fun h1 S hw => ?_) (fun h1 S hw => ?_))
  · refine PWP.weak hw (PWP.seq (PWP.block (ofX_fs A hcb hS hl hne a h1 _ (fun S hw => ?_))))
    refine PWP.weak hw (of15_fs A (edg A) _ _ _ _ _ (by omega) _ (fun S hw => ?_))
    have hbi : (a.next hp hcb hS h1).i = a.i + 1 := rfl
    have hbr : (a.next hp hcb hS h1).row = row3 A (edg A)[a.i] a.nx a.row := rfl
    have hbn : (a.next hp hcb hS h1).nx = a.nx + cme A (edg A)[a.i] a.nx := rfl
    rw [← hbi, ← hbr, ← hbn] at hw
    generalize a.next hp hcb hS h1 = b at *
    refine ⟨b, by show (edg A).length - b.i < (edg A).length - a.i; omega, Wk.trans hw ?_⟩
    show Wk 0 _ (ofH A (edg A) (decide (b.i = 0)) (flat b.B) b.row b.ab b.nx b.i)
    rw [decide_eq_false (show ¬ b.i = 0 by omega)]
    (simp only [ofE, ofH, ob, oc, gf, rb, rw', List.cons_append, List.nil_append]; exact Wk.by _ _ _ [(0,0),(1,1),(2,2),(3,3)] [] [] (by simp) (by simp [wkV, PV.el, PV.weak, PS.get, PS.obj, PS.lv, lkp_hit, lkp_miss, lkp_nil, lko, wkL, wkC, res1, rcs_wk, ics_wk]) (by simp [PS.get, PS.obj, PS.lv, lkp_hit, lkp_miss, lkp_nil, lko, wkL, wkC, PV.weak, wkL, wkC, res1, rcs_wk, ics_wk]) (by simp [PS.get, PS.obj, PS.lv, lkp_hit, lkp_miss, lkp_nil, lko]) (by rfl) (by rfl) (by simp [lko]) (by simp) (by simp) (by simp) (fun i hi => by rcases i with _ | _ | _ | _ | _ | _ | i <;> first | rfl | (exfalso; omega)))
  · have hd : (edg A).drop a.i = [(edg A)[a.i]] := by rw [List.drop_eq_getElem_cons hai, List.drop_of_length_le (by omega)]
    have hsw := a.hsw
    rw [hd] at hsw
    have hB : a.B = swp (rowF A) [] (edg A) := hsw
    have hcB : cn (hasL A) = flat a.B := by rw [hcn, hB]
    have hout : flat a.B ≠ [] := by
      intro e
      have hA0 : 0 < A.length := by cases A with
        | nil => exact absurd rfl hne
        | cons r A => simp
      have h3 := cnt_pos (hcb _ (List.getElem_mem hA0))
      have h4 := (cn_has (Rep.of hp) A[0].x A[0].y).2 ⟨A[0], List.getElem_mem hA0, ⟨by omega, by omega, by omega, by omega⟩⟩
      rw [hcB, e] at h4
      obtain ⟨r, hr, -⟩ := h4
      cases hr
    have hfl : ((flat a.B).length : Int) ≤ (1048576 - -1048576) * (1048576 - -1048576) := flat_len a.hB (fun c hc => ⟨(a.hin c hc).1, by
      have := (a.hin c hc).2.1
      obtain ⟨r, hr, h⟩ := mem_edg.1 (List.getElem_mem hai)
      have := cnt_pos (hcb r hr)
      omega, (a.hin c hc).2.2⟩) (by omega) (by omega)
    rw [show decide (a.i = 0) = false from by simp; omega] at hw
    show PWP Try.prog 0 (cEnd (ofT Try.f5)) R S
    rw [← hR, hcB]
    refine PWP.weak (Wk.trans hw ?_) (ofEnd_fs A (edg A) (flat a.B) a.row hout (by omega) a.ab a.nx a.i)
    (simp only [ofE, ofH, ob, oc, gf, rb, rw', List.cons_append, List.nil_append]; exact Wk.by _ _ _ [(0,0),(1,1),(2,2),(3,3)] [] [] (by simp) (by simp [wkV, PV.el, PV.weak, PS.get, PS.obj, PS.lv, lkp_hit, lkp_miss, lkp_nil, lko, wkL, wkC, res1, rcs_wk, ics_wk]) (by simp [PS.get, PS.obj, PS.lv, lkp_hit, lkp_miss, lkp_nil, lko, wkL, wkC, PV.weak, wkL, wkC, res1, rcs_wk, ics_wk]) (by simp [PS.get, PS.obj, PS.lv, lkp_hit, lkp_miss, lkp_nil, lko]) (by rfl) (by rfl) (by simp [lko]) (by simp) (by simp) (by simp) (fun i hi => by rcases i with _ | _ | _ | _ | _ | _ | i <;> first | rfl | (exfalso; omega)))
end Go.Proofs.Sh
