/- Package region: what a rule keeps (join), as a list of small rectangles. -/
import Derived.Test.YtbjeagcnakdmnaaPvYa
import Derived.Test.YtbjeagcnakdmnaaRgW
set_option maxRecDepth 100000
set_option linter.unusedSimpArgs false
set_option linter.unusedVariables false
namespace Go.Proofs.Sh
open Go.Pv
open Rg
def cutX (L : List Rt) : List Int := uq (cutL (fun r => r.x) (fun r => r.w) L)
def cutY (L : List Rt) : List Int := uq (cutL (fun r => r.y) (fun r => r.h) L)
/-- The first n places of a row, that are kept. -/
def cel (kf : Bool → Bool → Bool) (P Q : List Rt) (y z : Int) (xs : List Int) (n : Nat) : List Rt :=
  (List.range n).flatMap fun j => if kf (headX (xs.getD j 0) (dropX (xs.getD j 0) P)) (headX (xs.getD j 0) (dropX (xs.getD j 0) Q)) = true then [⟨xs.getD j 0, y, xs.getD (j + 1) 0 - xs.getD j 0, z - y⟩] else []
def rowOf (L : List Rt) (y : Int) : List Rt := takeY y (dropY y L)
def celR (kf : Bool → Bool → Bool) (L K : List Rt) (y z : Int) : List Rt := cel kf (rowOf L y) (rowOf K y) y z (cutX (rowOf L y ++ rowOf K y)) ((cutX (rowOf L y ++ rowOf K y)).length - 1)
def joinC (kf : Bool → Bool → Bool) (L K : List Rt) (ys : List Int) (n : Nat) : List Rt := (List.range n).flatMap fun i => celR kf L K (ys.getD i 0) (ys.getD (i + 1) 0)
theorem cel_succ (kf : Bool → Bool → Bool) (P Q : List Rt) (y z : Int) (xs : List Int) (n : Nat) : cel kf P Q y z xs (n + 1) = cel kf P Q y z xs n ++ if kf (headX (xs.getD n 0) (dropX (xs.getD n 0) P)) (headX (xs.getD n 0) (dropX (xs.getD n 0) Q)) = true then [⟨xs.getD n 0, y, xs.getD (n + 1) 0 - xs.getD n 0, z - y⟩] else [] := by
  unfold cel; rw [List.range_succ, List.flatMap_append]; simp
theorem joinC_succ (kf : Bool → Bool → Bool) (L K : List Rt) (ys : List Int) (n : Nat) : joinC kf L K ys (n + 1) = joinC kf L K ys n ++ celR kf L K (ys.getD n 0) (ys.getD (n + 1) 0) := by
  unfold joinC; rw [List.range_succ, List.flatMap_append]; simp
theorem cel_len (kf : Bool → Bool → Bool) (P Q : List Rt) (y z : Int) (xs : List Int) : ∀ n, (cel kf P Q y z xs n).length ≤ n
  | 0 => Nat.le_refl _
  | n + 1 => by
    have := cel_len kf P Q y z xs n
    rw [cel_succ, List.length_append]
    split <;> simp <;> omega
theorem drop_mono {p q : Rt → Bool} (h : ∀ r, p r = true → q r = true) : ∀ L : List Rt, (L.dropWhile p).dropWhile q = L.dropWhile q
  | [] => rfl
  | r :: L => by
    by_cases hp : p r = true
    · rw [List.dropWhile_cons, if_pos hp, drop_mono h L, List.dropWhile_cons, if_pos (h r hp)]
    · rw [List.dropWhile_cons, if_neg hp]
theorem dropY_mono {y u : Int} (h : y ≤ u) (L : List Rt) : dropY u (dropY y L) = dropY u L := drop_mono (fun r hr => by rw [decide_eq_true_eq] at *; omega) L
theorem dropX_mono {y u : Int} (h : y ≤ u) (L : List Rt) : dropX u (dropX y L) = dropX u L := drop_mono (fun r hr => by rw [decide_eq_true_eq] at *; omega) L
theorem bnd_dropY {L : List Rt} (h : Bnd L) (y : Int) : Bnd (dropY y L) := fun r hr => h r ((List.dropWhile_sublist _).subset hr)
theorem bnd_dropX {L : List Rt} (h : Bnd L) (y : Int) : Bnd (dropX y L) := fun r hr => h r ((List.dropWhile_sublist _).subset hr)
theorem bnd_takeY {L : List Rt} (h : Bnd L) (y : Int) : Bnd (takeY y L) := fun r hr => h r ((List.takeWhile_sublist _).subset hr)
theorem len_dropY (L : List Rt) (y : Int) : (dropY y L).length ≤ L.length := (List.dropWhile_sublist _).length_le
theorem len_dropX (L : List Rt) (y : Int) : (dropX y L).length ≤ L.length := (List.dropWhile_sublist _).length_le
theorem len_takeY (L : List Rt) (y : Int) : (takeY y L).length ≤ L.length := (List.takeWhile_sublist _).length_le
theorem cut_bnd {fr nm : Rt → Int} {L : List Rt} (h : ∀ r ∈ L, -1048576 ≤ fr r ∧ fr r ≤ 1048576 ∧ -1048576 ≤ fr r + nm r ∧ fr r + nm r ≤ 1048576) : (∀ u ∈ uq (cutL fr nm L), -1048576 ≤ u ∧ u ≤ 1048576) ∧ (uq (cutL fr nm L)).length ≤ 2097153 := by
  have h1 : ∀ u ∈ uq (cutL fr nm L), -1048576 ≤ u ∧ u ≤ 1048576 := fun u hu => by
    have h2 := ((uq_ok _).2 u).1 hu
    unfold cutL at h2
    obtain ⟨r, hr, h3⟩ := List.mem_flatMap.1 h2
    have := h r hr
    simp only [List.mem_cons, List.not_mem_nil, or_false] at h3
    omega
  refine ⟨h1, ?_⟩
  have := ris_len (lo := -1048576) (hi := 1048576) (uq_ok (cutL fr nm L)).1 h1 (by omega)
  omega
theorem cutX_bnd {L : List Rt} (h : Bnd L) : (∀ u ∈ cutX L, -1048576 ≤ u ∧ u ≤ 1048576) ∧ (cutX L).length ≤ 2097153 := cut_bnd fun r hr => by have := cnt_pos (h r hr); omega
theorem cutY_bnd {L : List Rt} (h : Bnd L) : (∀ u ∈ cutY L, -1048576 ≤ u ∧ u ≤ 1048576) ∧ (cutY L).length ≤ 2097153 := cut_bnd fun r hr => by have := cnt_pos (h r hr); omega
theorem getD_at {l : List Int} {k : Nat} (h : k < l.length) : l.getD k 0 = l[k] := by rw [List.getD_eq_getElem?_getD, List.getElem?_eq_getElem h]; rfl
theorem bnd_row {L : List Rt} (h : Bnd L) (y : Int) : Bnd (rowOf L y) := bnd_takeY (bnd_dropY h y) y
theorem len_row (L : List Rt) (y : Int) : (rowOf L y).length ≤ L.length := Nat.le_trans (len_takeY _ _) (len_dropY _ _)
theorem joinC_len {kf : Bool → Bool → Bool} {L K : List Rt} (hL : Bnd L) (hK : Bnd K) (ys : List Int) : ∀ n, (joinC kf L K ys n).length ≤ n * 2097152
  | 0 => Nat.zero_le _
  | n + 1 => by
    have h1 := joinC_len (kf := kf) hL hK ys n
    have h2 := (cutX_bnd (bnd_app (bnd_row hL (ys.getD n 0)) (bnd_row hK (ys.getD n 0)))).2
    have h3 := cel_len kf (rowOf L (ys.getD n 0)) (rowOf K (ys.getD n 0)) (ys.getD n 0) (ys.getD (n + 1) 0) (cutX (rowOf L (ys.getD n 0) ++ rowOf K (ys.getD n 0))) ((cutX (rowOf L (ys.getD n 0) ++ rowOf K (ys.getD n 0))).length - 1)
    rw [joinC_succ, List.length_append]
    unfold celR
    omega
theorem getD_bnd {l : List Int} (h : ∀ u ∈ l, -1048576 ≤ u ∧ u ≤ 1048576) (k : Nat) : -1048576 ≤ l.getD k 0 ∧ l.getD k 0 ≤ 1048576 := by
  by_cases hk : k < l.length
  · rw [getD_at hk]; exact h _ (List.getElem_mem hk)
  · rw [List.getD_eq_getElem?_getD, List.getElem?_eq_none (by omega)]; exact ⟨by decide, by decide⟩
theorem joinC_in {kf : Bool → Bool → Bool} {L K : List Rt} (hL : Bnd L) (hK : Bnd K) (ys : List Int) (hy : ∀ u ∈ ys, -1048576 ≤ u ∧ u ≤ 1048576) (n : Nat) : ∀ r ∈ joinC kf L K ys n, RtIn r := by
  intro r hr
  unfold joinC at hr
  obtain ⟨i, -, hr⟩ := List.mem_flatMap.1 hr
  unfold celR cel at hr
  obtain ⟨j, -, hr⟩ := List.mem_flatMap.1 hr
  have h1 := getD_bnd hy i
  have h2 := getD_bnd hy (i + 1)
  have hx := (cutX_bnd (bnd_app (bnd_row hL (ys.getD i 0)) (bnd_row hK (ys.getD i 0)))).1
  have h3 := getD_bnd hx j
  have h4 := getD_bnd hx (j + 1)
  split at hr
  · rw [List.mem_singleton] at hr
    subst hr
    exact ⟨⟨by simp only; omega, by simp only; omega⟩, ⟨by simp only; omega, by simp only; omega⟩, ⟨by simp only; omega, by simp only; omega⟩, ⟨by simp only; omega, by simp only; omega⟩⟩
  · cases hr
def joS (g : Bool) (n : Nat) : PV := match g with
  | true => .nilsl
  | false => .slg 4 n 4
def joB (g : Bool) (out : List Rt) : List (Nat × Option (List PV)) := match g with
  | true => []
  | false => [(4, some (rcs out))]
/-- The rows. -/
structure JoA (kf : Bool → Bool → Bool) (L K : List Rt) (ys : List Int) where
  g : Bool
  i : Nat
  L1 : List Rt
  K1 : List Rt
  out : List Rt
  hi : i ≤ ys.length - 1
  hL : ∀ y, (∀ h : i < ys.length, ys[i] ≤ y) → dropY y L1 = dropY y L
  hK : ∀ y, (∀ h : i < ys.length, ys[i] ≤ y) → dropY y K1 = dropY y K
  bL : Bnd L1
  bK : Bnd K1
  lL : L1.length ≤ 4398046511104
  lK : K1.length ≤ 4398046511104
  ho : out = joinC kf L K ys i
  hg : g = true → out = []
  hn : g = false → out ≠ []
def JoA.st (f : Nat) {kf : Bool → Bool → Bool} {L K : List Rt} {ys : List Int} (a : JoA kf L K ys) : PS := { n := 101, env := [(13, .int .i64 a.i), (12, joS a.g a.out.length), (11, .box 2 0), (10, .box 1 0), (9, .sl 1 (ics ys)), (6, .box 0 0), (3, .box 3 0)], objs := (0, some [.nilsl]) :: (1, some [.sl 4 (rts a.L1)]) :: (2, some [.sl 4 (rts a.K1)]) :: (3, some [.fn f []]) :: joB a.g a.out, live := [], nxt := 60 }
/-- A row's places. -/
structure JiA (kf : Bool → Bool → Bool) (P Q : List Rt) (y z : Int) (xs : List Int) (out0 : List Rt) where
  g : Bool
  j : Nat
  P1 : List Rt
  Q1 : List Rt
  out : List Rt
  hj : j ≤ xs.length - 1
  hP : ∀ x, (∀ h : j < xs.length, xs[j] ≤ x) → dropX x P1 = dropX x P
  hQ : ∀ x, (∀ h : j < xs.length, xs[j] ≤ x) → dropX x Q1 = dropX x Q
  bP : Bnd P1
  bQ : Bnd Q1
  lP : P1.length ≤ 4398046511104
  lQ : Q1.length ≤ 4398046511104
  ho : out = out0 ++ cel kf P Q y z xs j
  hg : g = true → out = []
  hn : g = false → out ≠ []
def JiA.st (f : Nat) (ys : List Int) (i : Nat) (L1 K1 : List Rt) {kf : Bool → Bool → Bool} {P Q : List Rt} {y z : Int} {xs : List Int} {out0 : List Rt} (a : JiA kf P Q y z xs out0) : PS := { n := 101, env := [(19, .int .i64 a.j), (18, .sl 1 (ics xs)), (17, .box 6 0), (16, .box 5 0), (15, .int .i64 (z - y)), (14, .int .i64 y), (13, .int .i64 i), (12, joS a.g a.out.length), (11, .box 2 0), (10, .box 1 0), (9, .sl 1 (ics ys)), (6, .box 0 0), (3, .box 3 0)], objs := (0, some [.nilsl]) :: (1, some [.sl 4 (rts L1)]) :: (2, some [.sl 4 (rts K1)]) :: (3, some [.fn f []]) :: (5, some [.sl 4 (rts a.P1)]) :: (6, some [.sl 4 (rts a.Q1)]) :: joB a.g a.out, live := [], nxt := 60 }
def joT (f : Func) : Code := tailN 5 (f.body.getD .skip)
def joE (g : Bool) (out : List Rt) : PS := { n := 101, env := [(12, joS g out.length), (6, .box 0 0)], objs := (0, some [.nilsl]) :: joB g out, live := [], nxt := 6 }
def joF (out : List Rt) : PS := { n := 101, env := [(12, .sl 4 (rts out)), (6, .box 0 0)], objs := [(0, some [.nilsl])], live := [], nxt := 6 }
theorem joEnd_fs (g : Bool) (out : List Rt) (hr : ∀ r ∈ out, RtIn r) (hl : out.length ≤ 4398046511104) (hg : g = true → out = []) (hn : g = false → out ≠ []) :
    PWP Try.prog 0 (joT Try.f38) (retQ Try.prog 0 Try.f38.results.toList [] 0 (rgn (cn (hasL (cntL out))))) (joE g out) := by
  cases g with
  | true =>
    have h0 := hg rfl
    subst h0
    have hO : Fsp Try.prog 5 [] 0 [.nilsl] [] 0 (rgn (cn (hasL (cntL [])))) := (of_fs [] hr hl).nils ⟨.inl (.inr ⟨rfl, 4, rfl⟩), trivial⟩
    generalize cn (hasL (cntL [])) = X at *
    simp only [joT, Try.f38, Option.getD_some, tailN, joE, joS, joB]
    refine VC_sound mixed ?_
    simp -implicitDefEqProofs only [push_cast, seval]
    refine callE_p hO ?_
    simp -implicitDefEqProofs only [push_cast, rgn, seval]
  | false =>
    have h0 := hn rfl
    have hO := of_fs out hr hl
    generalize cn (hasL (cntL out)) = X at *
    refine PWP.weak (T := joF out) ?_ ?_
    · refine Wk.trans (Wk.frz (id := 4) (ps := rcs out) (by simp [joE, joB, PS.obj, lkp_hit, lkp_miss]) (Nat.zero_le _)) ?_
      have h2 : out.length * 4 ≤ (rcs out).length := by rw [rcs_length]; exact Nat.le_refl _
      have h3 := frzR h0
      simp only [joE, joS, joB, PS.frz, frEnv, frObjs, List.map_cons, List.map_nil, Option.map_some, fz_box _ _ _ _ (show (0 : Nat) ≠ 4 by decide), f1_nilsl, fz_slg _ _ _ _ h2, h3]
      (simp only [joF]; exact Wk.by _ _ _ [(0,0)] [] [] (by simp) (by simp [wkV, PV.el, PV.weak, PS.get, PS.obj, PS.lv, lkp_hit, lkp_miss, lkp_nil, lko, wkL, wkC, res1, rcs_wk, ics_wk]) (by simp [PS.get, PS.obj, PS.lv, lkp_hit, lkp_miss, lkp_nil, lko, wkL, wkC, PV.weak, wkL, wkC, res1, rcs_wk, ics_wk]) (by simp [PS.get, PS.obj, PS.lv, lkp_hit, lkp_miss, lkp_nil, lko]) (by rfl) (by rfl) (by simp [lko]) (by simp) (by simp) (by simp) (fun i hi => by rcases i with _ | _ | _ | _ | _ | _ | i <;> first | rfl | (exfalso; omega)))
    simp only [joT, Try.f38, Option.getD_some, tailN, joF]
    refine VC_sound mixed ?_
    simp -implicitDefEqProofs only [push_cast, seval]
    refine callE_p hO ?_
    simp -implicitDefEqProofs only [push_cast, rgn, seval]
set_option maxHeartbeats 4000000 in
theorem join_fs (f : Nat) (kf : Bool → Bool → Bool) (hk : ∀ a b, Fsp Try.prog f [] 0 [.bool a, .bool b] [] 0 (.bool (kf a b))) (L K : List Rt) (bL : Bnd L) (bK : Bnd K) (lL : L.length ≤ 1000000000) (lK : K.length ≤ 1000000000) :
    Fsp Try.prog 38 [] 0 [.agg [.fn f []], rgn L, rgn K] [] 0 (rgn (cn (hasL (cntL (joinC kf L K (cutY (L ++ K)) ((cutY (L ++ K)).length - 1)))))) := by
  have hR1 := rects_fs L lL
  have hR2 := rects_fs K lK
  have bLK : Bnd (L ++ K) := bnd_app bL bK
  have hY := cuts2_fs 58 (fun r => r.y) (fun r => r.h) L K tellY_fs (fun r hr => by have := cnt_pos (bLK r hr); exact wrap_i64_id (by omega) (by omega)) (by omega)
  rw [show uq (cutL (fun r => r.y) (fun r => r.h) (L ++ K)) = cutY (L ++ K) from rfl] at hY
  obtain ⟨yb, yl⟩ := cutY_bnd bLK
  have yr : Ris (cutY (L ++ K)) := (uq_ok _).1
  generalize cutY (L ++ K) = ys at *
  refine Fsp.of' (nx := 0) mixed Try.func38 rfl (by decide) (by exact Nat.le_refl _) (by simp [Try.f38]) ⟨by decide, by decide⟩ ?_
  refine PWP.cutV mixed 5 ?_
  have e : ∀ c, Try.f38.body = some c → tailN 5 c = joT Try.f38 := fun c hc => by unfold joT; rw [hc]; rfl
  rw [e _ rfl]
  clear e
  show VC Try.prog 0 _ (seqK (PWP Try.prog 0 (joT Try.f38)) (retQ Try.prog 0 Try.f38.results.toList [] 0 (rgn (cn (hasL (cntL (joinC kf L K ys (ys.length - 1)))))))) _
  have jb := joinC_in (kf := kf) bL bK ys yb (ys.length - 1)
  have jl : (joinC kf L K ys (ys.length - 1)).length ≤ 4398046511104 := by have := joinC_len (kf := kf) bL bK ys (ys.length - 1); omega
  have key : ∀ S g, (g = true → joinC kf L K ys (ys.length - 1) = []) → (g = false → joinC kf L K ys (ys.length - 1) ≠ []) → Wk 0 S (joE g (joinC kf L K ys (ys.length - 1))) → seqK (PWP Try.prog 0 (joT Try.f38)) (retQ Try.prog 0 Try.f38.results.toList [] 0 (rgn (cn (hasL (cntL (joinC kf L K ys (ys.length - 1))))))) .normal S := fun S g h1 h2 hw => PWP.weak hw (joEnd_fs g _ jb jl h1 h2)
  generalize seqK (PWP Try.prog 0 (joT Try.f38)) (retQ Try.prog 0 Try.f38.results.toList [] 0 (rgn (cn (hasL (cntL (joinC kf L K ys (ys.length - 1))))))) = Q2 at *
  simp -implicitDefEqProofs only [push_cast, Try.f38, headN, rgn, seval]
  (repeat (first | refine ⟨(by omega : _ ≤ _), ?_⟩ | refine ⟨(by omega : _ < _), ?_⟩ | refine ⟨(by simp; omega), ?_⟩ | refine ⟨(by simp; done), ?_⟩ | refine ⟨(by (unfold drawOk; kernel_rfl)), ?_⟩))
  refine callE_p hR1 ?_
  simp -implicitDefEqProofs only [push_cast, rgn, seval]
  (repeat (first | refine ⟨(by omega : _ ≤ _), ?_⟩ | refine ⟨(by omega : _ < _), ?_⟩ | refine ⟨(by simp; omega), ?_⟩ | refine ⟨(by simp; done), ?_⟩ | refine ⟨(by (unfold drawOk; kernel_rfl)), ?_⟩))
  refine callE_p hR2 ?_
  simp -implicitDefEqProofs only [push_cast, rgn, seval]
  (repeat (first | refine ⟨(by omega : _ ≤ _), ?_⟩ | refine ⟨(by omega : _ < _), ?_⟩ | refine ⟨(by simp; omega), ?_⟩ | refine ⟨(by simp; done), ?_⟩ | refine ⟨(by (unfold drawOk; kernel_rfl)), ?_⟩))
  refine callE_p hY ?_
  simp -implicitDefEqProofs only [push_cast, seval]
  refine loopC_of (α := JoA kf L K ys) (JoA.st f) (fun a => ys.length - a.i) ⟨true, 0, L, K, [], Nat.zero_le _, fun _ _ => rfl, fun _ _ => rfl, bL, bK, by omega, by omega, rfl, fun _ => rfl, fun h => by cases h⟩ ?_ ?_
  · (simp only [JoA.st, joS, joB, List.length_nil]; exact Wk.by _ _ _ [(0,12),(1,76),(2,80),(3,0)] [] [] (by simp) (by simp [wkV, PV.el, PV.weak, PS.get, PS.obj, PS.lv, lkp_hit, lkp_miss, lkp_nil, lko, wkL, wkC, res1, rcs_wk, ics_wk]) (by simp [PS.get, PS.obj, PS.lv, lkp_hit, lkp_miss, lkp_nil, lko, wkL, wkC, PV.weak, wkL, wkC, res1, rcs_wk, ics_wk]) (by simp [PS.get, PS.obj, PS.lv, lkp_hit, lkp_miss, lkp_nil, lko]) (by rfl) (by rfl) (by simp [lko]) (by simp) (by simp) (by simp) (fun i hi => by rcases i with _ | _ | _ | _ | _ | _ | i <;> first | rfl | (exfalso; omega)))
  rintro ⟨g, i, L1, K1, out, hi, hL1, hK1, bL1, bK1, lL1, lK1, ho, hg, hn⟩
  simp only [JoA.st]
  have hil := ics_length ys
  have hu := wr_up (k := i) (by omega)
  cases c1 : decide ((i : Int) + 1 < (ys.length : Int)) with
  | false =>
    have hie : i = ys.length - 1 := by simp at c1; omega
    simp -implicitDefEqProofs only [push_cast, hu, hil, c1, seval]
    refine key _ g (fun h => by rw [← hie, ← ho]; exact hg h) (fun h => by rw [← hie, ← ho]; exact hn h) ?_
    rw [← hie, ← ho]
    cases g with
    | true =>
      (simp only [joE, joS, joB]; exact Wk.by _ _ _ [(0,0)] [] [] (by simp) (by simp [wkV, PV.el, PV.weak, PS.get, PS.obj, PS.lv, lkp_hit, lkp_miss, lkp_nil, lko, wkL, wkC, res1, rcs_wk, ics_wk]) (by simp [PS.get, PS.obj, PS.lv, lkp_hit, lkp_miss, lkp_nil, lko, wkL, wkC, PV.weak, wkL, wkC, res1, rcs_wk, ics_wk]) (by simp [PS.get, PS.obj, PS.lv, lkp_hit, lkp_miss, lkp_nil, lko]) (by rfl) (by rfl) (by simp [lko]) (by simp) (by simp) (by simp) (fun i hi => by rcases i with _ | _ | _ | _ | _ | _ | i <;> first | rfl | (exfalso; omega)))
    | false =>
      (simp only [joE, joS, joB]; exact Wk.by _ _ _ [(0,0),(4,4)] [] [] (by simp) (by simp [wkV, PV.el, PV.weak, PS.get, PS.obj, PS.lv, lkp_hit, lkp_miss, lkp_nil, lko, wkL, wkC, res1, rcs_wk, ics_wk]) (by simp [PS.get, PS.obj, PS.lv, lkp_hit, lkp_miss, lkp_nil, lko, wkL, wkC, PV.weak, wkL, wkC, res1, rcs_wk, ics_wk]) (by simp [PS.get, PS.obj, PS.lv, lkp_hit, lkp_miss, lkp_nil, lko]) (by rfl) (by rfl) (by simp [lko]) (by simp) (by simp) (by simp) (fun i hi => by rcases i with _ | _ | _ | _ | _ | _ | i <;> first | rfl | (exfalso; omega)))
  | true =>
    have hi1 : i + 1 < ys.length := by simp at c1; omega
    have h1 := ics_at (L := ys) (k := i) (by omega)
    have h2 := ics_at hi1
    have ht1 : ((i : Int) + 1).toNat = i + 1 := by omega
    have hlt := ris_get yr i (i + 1) (by omega) hi1 (by omega)
    have yb0 := yb _ (List.getElem_mem (show i < ys.length by omega))
    have yb1 := yb _ (List.getElem_mem hi1)
    have hwz : IntKind.i64.wrap (ys[i + 1] - ys[i]) = ys[i + 1] - ys[i] := wrap_i64_id (by omega) (by omega)
    have hr1 := row_fs ys[i] L1 bL1 lL1
    have hr2 := row_fs ys[i] K1 bK1 lK1
    rw [hL1 ys[i] (fun _ => Int.le_refl _), show takeY ys[i] (dropY ys[i] L) = rowOf L ys[i] from rfl] at hr1
    rw [hK1 ys[i] (fun _ => Int.le_refl _), show takeY ys[i] (dropY ys[i] K) = rowOf K ys[i] from rfl] at hr2
    have bP := bnd_row bL ys[i]
    have bQ := bnd_row bK ys[i]
    have lP := len_row L ys[i]
    have lQ := len_row K ys[i]
    have bPQ : Bnd (rowOf L ys[i] ++ rowOf K ys[i]) := bnd_app bP bQ
    have hX := cuts2_fs 60 (fun r => r.x) (fun r => r.w) (rowOf L ys[i]) (rowOf K ys[i]) tellX_fs (fun r hr => by have := cnt_pos (bPQ r hr); exact wrap_i64_id (by omega) (by omega)) (by omega)
    rw [show uq (cutL (fun r => r.x) (fun r => r.w) (rowOf L ys[i] ++ rowOf K ys[i])) = cutX (rowOf L ys[i] ++ rowOf K ys[i]) from rfl] at hX
    obtain ⟨xb, xl⟩ := cutX_bnd bPQ
    have xr : Ris (cutX (rowOf L ys[i] ++ rowOf K ys[i])) := (uq_ok _).1
    have hcR : celR kf L K ys[i] ys[i + 1] = cel kf (rowOf L ys[i]) (rowOf K ys[i]) ys[i] ys[i + 1] (cutX (rowOf L ys[i] ++ rowOf K ys[i])) ((cutX (rowOf L ys[i] ++ rowOf K ys[i])).length - 1) := rfl
    have hjn : joinC kf L K ys (i + 1) = out ++ celR kf L K ys[i] ys[i + 1] := by rw [joinC_succ, ← ho, getD_at (show i < ys.length by omega), getD_at hi1]
    have hol : out.length ≤ i * 2097152 := by rw [ho]; exact joinC_len bL bK ys i
    have dL : ∀ y, (∀ h : i + 1 < ys.length, ys[i + 1] ≤ y) → dropY y (dropY ys[i] L) = dropY y L := fun y h => dropY_mono (by have := h hi1; omega) L
    have dK : ∀ y, (∀ h : i + 1 < ys.length, ys[i + 1] ≤ y) → dropY y (dropY ys[i] K) = dropY y K := fun y h => dropY_mono (by have := h hi1; omega) K
    have bdL := bnd_dropY bL ys[i]
    have bdK := bnd_dropY bK ys[i]
    have ldL := len_dropY L ys[i]
    have ldK := len_dropY K ys[i]
    rw [hcR] at hjn
    clear hcR
    generalize cutX (rowOf L ys[i] ++ rowOf K ys[i]) = xs at *
    generalize rowOf L ys[i] = P at *
    generalize rowOf K ys[i] = Q at *
    generalize dropY ys[i] L = L2 at *
    generalize dropY ys[i] K = K2 at *
    generalize ys[i + 1] = z at *
    generalize ys[i] = y at *
    simp -implicitDefEqProofs only [push_cast, hu, hil, c1, h1, h2, ht1, hwz, seval]
    (repeat (first | refine ⟨(by omega : _ ≤ _), ?_⟩ | refine ⟨(by omega : _ < _), ?_⟩ | refine ⟨(by simp; omega), ?_⟩ | refine ⟨(by simp; done), ?_⟩ | refine ⟨(by (unfold drawOk; kernel_rfl)), ?_⟩))
    refine callE_box hr1 [1] [] (by rfl) (by rfl) (by rfl) (by rfl) (by rfl) (by rfl) (fun i j cs h1 h2 => by (rcases i with _ | _ | _ | i <;> simp at h1 h2 <;> (subst h1; subst h2; exact ⟨_, rfl, (by first | exact rcs_cell _ _ _ | exact ics_cell _ _ _ | exact (by (repeat' (first | exact wkL_nil | refine wkL_cons ?_ ?_)); all_goals (first | exact .inl ⟨_, _, _, _, rfl, rfl, rfl⟩ | exact .inr (.inr (.inr (.inr (.inl ⟨_, _, _, rfl, rfl, rfl⟩)))) | exact .inr (.inr (.inr (.inr (.inr (.inl ⟨_, _, _, _, rfl, rfl, rfl⟩))))) | exact .inr (.inr (.inr (.inr (.inr (.inr ⟨_, _, rfl, rfl, rfl⟩))))) | exact .inr (.inl rfl) | exact .inr (.inr (.inl ⟨_, _, _, rfl, rfl, rfl⟩)))) | exact (by (repeat' (first | exact wkL_nil | refine wkL_cons ?_ ?_)); all_goals (first | exact .inr (.inl rfl) | exact .inr (.inr (.inl ⟨_, _, _, rfl, rfl, rfl⟩)) | exact .inr (.inr (.inr (.inl ⟨_, _, _, _, _, rfl, rfl, rfl⟩))) | exact .inr (.inr (.inr (.inr (.inr (.inr (.inr ⟨_, _, _, _, rfl, rfl, rfl⟩)))))))))⟩))) (by simp [PS.lv, lkp_hit, lkp_miss, lkp_nil]) (by (repeat' (first | exact wkL_nil | refine wkL_cons ?_ ?_)); all_goals (first | exact .inl ⟨_, _, _, rfl, rfl, rfl⟩ | exact .inr (.inl rfl) | exact .inr (.inr (.inl ⟨_, _, _, _, rfl, rfl, rfl⟩)) | exact .inr (.inr (.inr (.inl ⟨_, _, _, rfl, rfl, rfl, (wkL_get (by (repeat' (first | exact wkL_nil | refine wkL_cons ?_ ?_)); all_goals (first | exact .inl ⟨_, _, _, rfl, rfl, rfl⟩ | exact .inr rfl))).2⟩))) | exact .inr (.inr (.inr (.inr (.inr (.inr (.inl ⟨_, _, _, _, rfl, rfl, rfl⟩)))))) | exact .inr (.inr (.inr (.inr (.inr (.inr (.inr ⟨_, _, _, _, _, rfl, rfl, rfl⟩)))))))) (by decide) (by simp) (by rfl) (by (repeat' (first | exact tok_nil | refine tok_cons ?_ ?_)); all_goals (first | exact rcs_tok _ _ _ _ | exact ics_tok _ _ _ _ | (simp [tokLt1]; done))) (fun _ => by rfl) (by first | rfl | simp [gdOk, newToks]) ?_
    simp -implicitDefEqProofs only [push_cast, seval]
    refine callE_box hr2 [2] [] (by rfl) (by rfl) (by rfl) (by rfl) (by rfl) (by rfl) (fun i j cs h1 h2 => by (rcases i with _ | _ | _ | i <;> simp at h1 h2 <;> (subst h1; subst h2; exact ⟨_, rfl, (by first | exact rcs_cell _ _ _ | exact ics_cell _ _ _ | exact (by (repeat' (first | exact wkL_nil | refine wkL_cons ?_ ?_)); all_goals (first | exact .inl ⟨_, _, _, _, rfl, rfl, rfl⟩ | exact .inr (.inr (.inr (.inr (.inl ⟨_, _, _, rfl, rfl, rfl⟩)))) | exact .inr (.inr (.inr (.inr (.inr (.inl ⟨_, _, _, _, rfl, rfl, rfl⟩))))) | exact .inr (.inr (.inr (.inr (.inr (.inr ⟨_, _, rfl, rfl, rfl⟩))))) | exact .inr (.inl rfl) | exact .inr (.inr (.inl ⟨_, _, _, rfl, rfl, rfl⟩)))) | exact (by (repeat' (first | exact wkL_nil | refine wkL_cons ?_ ?_)); all_goals (first | exact .inr (.inl rfl) | exact .inr (.inr (.inl ⟨_, _, _, rfl, rfl, rfl⟩)) | exact .inr (.inr (.inr (.inl ⟨_, _, _, _, _, rfl, rfl, rfl⟩))) | exact .inr (.inr (.inr (.inr (.inr (.inr (.inr ⟨_, _, _, _, rfl, rfl, rfl⟩)))))))))⟩))) (by simp [PS.lv, lkp_hit, lkp_miss, lkp_nil]) (by (repeat' (first | exact wkL_nil | refine wkL_cons ?_ ?_)); all_goals (first | exact .inl ⟨_, _, _, rfl, rfl, rfl⟩ | exact .inr (.inl rfl) | exact .inr (.inr (.inl ⟨_, _, _, _, rfl, rfl, rfl⟩)) | exact .inr (.inr (.inr (.inl ⟨_, _, _, rfl, rfl, rfl, (wkL_get (by (repeat' (first | exact wkL_nil | refine wkL_cons ?_ ?_)); all_goals (first | exact .inl ⟨_, _, _, rfl, rfl, rfl⟩ | exact .inr rfl))).2⟩))) | exact .inr (.inr (.inr (.inr (.inr (.inr (.inl ⟨_, _, _, _, rfl, rfl, rfl⟩)))))) | exact .inr (.inr (.inr (.inr (.inr (.inr (.inr ⟨_, _, _, _, _, rfl, rfl, rfl⟩)))))))) (by decide) (by simp) (by rfl) (by (repeat' (first | exact tok_nil | refine tok_cons ?_ ?_)); all_goals (first | exact rcs_tok _ _ _ _ | exact ics_tok _ _ _ _ | (simp [tokLt1]; done))) (fun _ => by rfl) (by first | rfl | simp [gdOk, newToks]) ?_
    simp -implicitDefEqProofs only [push_cast, seval]
    (repeat (first | refine ⟨(by omega : _ ≤ _), ?_⟩ | refine ⟨(by omega : _ < _), ?_⟩ | refine ⟨(by simp; omega), ?_⟩ | refine ⟨(by simp; done), ?_⟩ | refine ⟨(by (unfold drawOk; kernel_rfl)), ?_⟩))
    refine callE_p hX ?_
    simp -implicitDefEqProofs only [push_cast, seval]
    refine loopC_of (α := JiA kf P Q y z xs out) (JiA.st f ys i L2 K2) (fun a => xs.length - a.j) ⟨g, 0, P, Q, out, Nat.zero_le _, fun _ _ => rfl, fun _ _ => rfl, bP, bQ, by omega, by omega, by simp [cel], hg, hn⟩ ?_ ?_
    · cases g with
      | true =>
        (simp only [JiA.st, joS, joB, zipB, upto, List.cons_append, List.nil_append]; exact Wk.by _ _ _ [(0,0),(1,1),(2,2),(3,3),(5,160),(6,164)] [] [] (by simp) (by simp [wkV, PV.el, PV.weak, PS.get, PS.obj, PS.lv, lkp_hit, lkp_miss, lkp_nil, lko, wkL, wkC, res1, rcs_wk, ics_wk]) (by simp [PS.get, PS.obj, PS.lv, lkp_hit, lkp_miss, lkp_nil, lko, wkL, wkC, PV.weak, wkL, wkC, res1, rcs_wk, ics_wk]) (by simp [PS.get, PS.obj, PS.lv, lkp_hit, lkp_miss, lkp_nil, lko]) (by rfl) (by rfl) (by simp [lko]) (by simp) (by simp) (by simp) (fun i hi => by rcases i with _ | _ | _ | _ | _ | _ | i <;> first | rfl | (exfalso; omega)))
      | false =>
        (simp only [JiA.st, joS, joB, zipB, upto, List.cons_append, List.nil_append]; exact Wk.by _ _ _ [(0,0),(1,1),(2,2),(3,3),(4,4),(5,160),(6,164)] [] [] (by simp) (by simp [wkV, PV.el, PV.weak, PS.get, PS.obj, PS.lv, lkp_hit, lkp_miss, lkp_nil, lko, wkL, wkC, res1, rcs_wk, ics_wk]) (by simp [PS.get, PS.obj, PS.lv, lkp_hit, lkp_miss, lkp_nil, lko, wkL, wkC, PV.weak, wkL, wkC, res1, rcs_wk, ics_wk]) (by simp [PS.get, PS.obj, PS.lv, lkp_hit, lkp_miss, lkp_nil, lko]) (by rfl) (by rfl) (by simp [lko]) (by simp) (by simp) (by simp) (fun i hi => by rcases i with _ | _ | _ | _ | _ | _ | i <;> first | rfl | (exfalso; omega)))
    rintro ⟨g', j, P1, Q1, out', hj, hP1, hQ1, bP1, bQ1, lP1, lQ1, ho', hg', hn'⟩
    simp only [JiA.st]
    have hxl := ics_length xs
    have huj := wr_up (k := j) (by omega)
    cases c2 : decide ((j : Int) + 1 < (xs.length : Int)) with
    | false =>
      have hje : j = xs.length - 1 := by simp at c2; omega
      simp -implicitDefEqProofs only [push_cast, huj, hxl, c2, hu, seval]
      refine ⟨⟨g', i + 1, L2, K2, out', by omega, dL, dK, bdL, bdK, by omega, by omega, by rw [hjn, ho', hje], hg', hn'⟩, by simp only; omega, ?_⟩
      cases g' with
      | true =>
        (simp only [JoA.st, joS, joB]; exact Wk.by _ _ _ [(0,0),(1,1),(2,2),(3,3)] [] [] (by simp) (by simp [wkV, PV.el, PV.weak, PS.get, PS.obj, PS.lv, lkp_hit, lkp_miss, lkp_nil, lko, wkL, wkC, res1, rcs_wk, ics_wk]) (by simp [PS.get, PS.obj, PS.lv, lkp_hit, lkp_miss, lkp_nil, lko, wkL, wkC, PV.weak, wkL, wkC, res1, rcs_wk, ics_wk]) (by simp [PS.get, PS.obj, PS.lv, lkp_hit, lkp_miss, lkp_nil, lko]) (by rfl) (by rfl) (by simp [lko]) (by simp) (by simp) (by simp) (fun i hi => by rcases i with _ | _ | _ | _ | _ | _ | i <;> first | rfl | (exfalso; omega)))
      | false =>
        (simp only [JoA.st, joS, joB]; exact Wk.by _ _ _ [(0,0),(1,1),(2,2),(3,3),(4,4)] [] [] (by simp) (by simp [wkV, PV.el, PV.weak, PS.get, PS.obj, PS.lv, lkp_hit, lkp_miss, lkp_nil, lko, wkL, wkC, res1, rcs_wk, ics_wk]) (by simp [PS.get, PS.obj, PS.lv, lkp_hit, lkp_miss, lkp_nil, lko, wkL, wkC, PV.weak, wkL, wkC, res1, rcs_wk, ics_wk]) (by simp [PS.get, PS.obj, PS.lv, lkp_hit, lkp_miss, lkp_nil, lko]) (by rfl) (by rfl) (by simp [lko]) (by simp) (by simp) (by simp) (fun i hi => by rcases i with _ | _ | _ | _ | _ | _ | i <;> first | rfl | (exfalso; omega)))
    | true =>
      have hj1 : j + 1 < xs.length := by simp at c2; omega
      have x1 := ics_at (L := xs) (k := j) (by omega)
      have x2 := ics_at hj1
      have ht2 : ((j : Int) + 1).toNat = j + 1 := by omega
      have hlx := ris_get xr j (j + 1) (by omega) hj1 (by omega)
      have xb0 := xb _ (List.getElem_mem (show j < xs.length by omega))
      have xb1 := xb _ (List.getElem_mem hj1)
      have hwx : IntKind.i64.wrap (xs[j + 1] - xs[j]) = xs[j + 1] - xs[j] := wrap_i64_id (by omega) (by omega)
      have ha1 := across_fs xs[j] P1 bP1 lP1
      have ha2 := across_fs xs[j] Q1 bQ1 lQ1
      rw [hP1 xs[j] (fun _ => Int.le_refl _)] at ha1
      rw [hQ1 xs[j] (fun _ => Int.le_refl _)] at ha2
      have hkk := hk (headX xs[j] (dropX xs[j] P)) (headX xs[j] (dropX xs[j] Q))
      have hcs := cel_succ kf P Q y z xs j
      rw [getD_at (show j < xs.length by omega), getD_at hj1] at hcs
      have dP : ∀ x, (∀ h : j + 1 < xs.length, xs[j + 1] ≤ x) → dropX x (dropX xs[j] P) = dropX x P := fun x h => dropX_mono (by have := h hj1; omega) P
      have dQ : ∀ x, (∀ h : j + 1 < xs.length, xs[j + 1] ≤ x) → dropX x (dropX xs[j] Q) = dropX x Q := fun x h => dropX_mono (by have := h hj1; omega) Q
      have bdP := bnd_dropX bP xs[j]
      have bdQ := bnd_dropX bQ xs[j]
      have ldP := len_dropX P xs[j]
      have ldQ := len_dropX Q xs[j]
      have hcl := cel_len kf P Q y z xs j
      generalize headX xs[j] (dropX xs[j] P) = b1 at *
      generalize headX xs[j] (dropX xs[j] Q) = b2 at *
      generalize dropX xs[j] P = P2 at *
      generalize dropX xs[j] Q = Q3 at *
      generalize xs[j + 1] = u at *
      generalize xs[j] = x at *
      simp -implicitDefEqProofs only [push_cast, huj, hxl, c2, x1, x2, ht2, hwx, seval]
      (repeat (first | refine ⟨(by omega : _ ≤ _), ?_⟩ | refine ⟨(by omega : _ < _), ?_⟩ | refine ⟨(by simp; omega), ?_⟩ | refine ⟨(by simp; done), ?_⟩ | refine ⟨(by (unfold drawOk; kernel_rfl)), ?_⟩))
      refine callE_box ha1 [5] [] (by rfl) (by rfl) (by rfl) (by rfl) (by rfl) (by rfl) (fun i j cs h1 h2 => by (rcases i with _ | _ | _ | i <;> simp at h1 h2 <;> (subst h1; subst h2; exact ⟨_, rfl, (by first | exact rcs_cell _ _ _ | exact ics_cell _ _ _ | exact (by (repeat' (first | exact wkL_nil | refine wkL_cons ?_ ?_)); all_goals (first | exact .inl ⟨_, _, _, _, rfl, rfl, rfl⟩ | exact .inr (.inr (.inr (.inr (.inl ⟨_, _, _, rfl, rfl, rfl⟩)))) | exact .inr (.inr (.inr (.inr (.inr (.inl ⟨_, _, _, _, rfl, rfl, rfl⟩))))) | exact .inr (.inr (.inr (.inr (.inr (.inr ⟨_, _, rfl, rfl, rfl⟩))))) | exact .inr (.inl rfl) | exact .inr (.inr (.inl ⟨_, _, _, rfl, rfl, rfl⟩)))) | exact (by (repeat' (first | exact wkL_nil | refine wkL_cons ?_ ?_)); all_goals (first | exact .inr (.inl rfl) | exact .inr (.inr (.inl ⟨_, _, _, rfl, rfl, rfl⟩)) | exact .inr (.inr (.inr (.inl ⟨_, _, _, _, _, rfl, rfl, rfl⟩))) | exact .inr (.inr (.inr (.inr (.inr (.inr (.inr ⟨_, _, _, _, rfl, rfl, rfl⟩)))))))))⟩))) (by simp [PS.lv, lkp_hit, lkp_miss, lkp_nil]) (by (repeat' (first | exact wkL_nil | refine wkL_cons ?_ ?_)); all_goals (first | exact .inl ⟨_, _, _, rfl, rfl, rfl⟩ | exact .inr (.inl rfl) | exact .inr (.inr (.inl ⟨_, _, _, _, rfl, rfl, rfl⟩)) | exact .inr (.inr (.inr (.inl ⟨_, _, _, rfl, rfl, rfl, (wkL_get (by (repeat' (first | exact wkL_nil | refine wkL_cons ?_ ?_)); all_goals (first | exact .inl ⟨_, _, _, rfl, rfl, rfl⟩ | exact .inr rfl))).2⟩))) | exact .inr (.inr (.inr (.inr (.inr (.inr (.inl ⟨_, _, _, _, rfl, rfl, rfl⟩)))))) | exact .inr (.inr (.inr (.inr (.inr (.inr (.inr ⟨_, _, _, _, _, rfl, rfl, rfl⟩)))))))) (by decide) (by simp) (by rfl) (by (repeat' (first | exact tok_nil | refine tok_cons ?_ ?_)); all_goals (first | exact rcs_tok _ _ _ _ | exact ics_tok _ _ _ _ | (simp [tokLt1]; done))) (fun _ => by rfl) (by first | rfl | simp [gdOk, newToks]) ?_
      simp -implicitDefEqProofs only [push_cast, seval]
      refine callE_box ha2 [6] [] (by rfl) (by rfl) (by rfl) (by rfl) (by rfl) (by rfl) (fun i j cs h1 h2 => by (rcases i with _ | _ | _ | i <;> simp at h1 h2 <;> (subst h1; subst h2; exact ⟨_, rfl, (by first | exact rcs_cell _ _ _ | exact ics_cell _ _ _ | exact (by (repeat' (first | exact wkL_nil | refine wkL_cons ?_ ?_)); all_goals (first | exact .inl ⟨_, _, _, _, rfl, rfl, rfl⟩ | exact .inr (.inr (.inr (.inr (.inl ⟨_, _, _, rfl, rfl, rfl⟩)))) | exact .inr (.inr (.inr (.inr (.inr (.inl ⟨_, _, _, _, rfl, rfl, rfl⟩))))) | exact .inr (.inr (.inr (.inr (.inr (.inr ⟨_, _, rfl, rfl, rfl⟩))))) | exact .inr (.inl rfl) | exact .inr (.inr (.inl ⟨_, _, _, rfl, rfl, rfl⟩)))) | exact (by (repeat' (first | exact wkL_nil | refine wkL_cons ?_ ?_)); all_goals (first | exact .inr (.inl rfl) | exact .inr (.inr (.inl ⟨_, _, _, rfl, rfl, rfl⟩)) | exact .inr (.inr (.inr (.inl ⟨_, _, _, _, _, rfl, rfl, rfl⟩))) | exact .inr (.inr (.inr (.inr (.inr (.inr (.inr ⟨_, _, _, _, rfl, rfl, rfl⟩)))))))))⟩))) (by simp [PS.lv, lkp_hit, lkp_miss, lkp_nil]) (by (repeat' (first | exact wkL_nil | refine wkL_cons ?_ ?_)); all_goals (first | exact .inl ⟨_, _, _, rfl, rfl, rfl⟩ | exact .inr (.inl rfl) | exact .inr (.inr (.inl ⟨_, _, _, _, rfl, rfl, rfl⟩)) | exact .inr (.inr (.inr (.inl ⟨_, _, _, rfl, rfl, rfl, (wkL_get (by (repeat' (first | exact wkL_nil | refine wkL_cons ?_ ?_)); all_goals (first | exact .inl ⟨_, _, _, rfl, rfl, rfl⟩ | exact .inr rfl))).2⟩))) | exact .inr (.inr (.inr (.inr (.inr (.inr (.inl ⟨_, _, _, _, rfl, rfl, rfl⟩)))))) | exact .inr (.inr (.inr (.inr (.inr (.inr (.inr ⟨_, _, _, _, _, rfl, rfl, rfl⟩)))))))) (by decide) (by simp) (by rfl) (by (repeat' (first | exact tok_nil | refine tok_cons ?_ ?_)); all_goals (first | exact rcs_tok _ _ _ _ | exact ics_tok _ _ _ _ | (simp [tokLt1]; done))) (fun _ => by rfl) (by first | rfl | simp [gdOk, newToks]) ?_
      simp -implicitDefEqProofs only [push_cast, seval]
      refine callE_p hkk ?_
      cases hkb : kf b1 b2 with
      | false =>
        rw [hkb, if_neg (by decide), List.append_nil] at hcs
        simp -implicitDefEqProofs only [push_cast, huj, seval]
        (repeat (first | refine ⟨(by omega : _ ≤ _), ?_⟩ | refine ⟨(by omega : _ < _), ?_⟩ | refine ⟨(by simp; omega), ?_⟩ | refine ⟨(by simp; done), ?_⟩ | refine ⟨(by (unfold drawOk; kernel_rfl)), ?_⟩))
        refine ⟨⟨g', j + 1, P2, Q3, out', by omega, dP, dQ, bdP, bdQ, by omega, by omega, by rw [hcs]; exact ho', hg', hn'⟩, by simp only; omega, ?_⟩
        cases g' with
        | true =>
          (simp only [JiA.st, joS, joB]; exact Wk.by _ _ _ [(0,0),(1,1),(2,2),(3,3),(5,5),(6,6)] [] [] (by simp) (by simp [wkV, PV.el, PV.weak, PS.get, PS.obj, PS.lv, lkp_hit, lkp_miss, lkp_nil, lko, wkL, wkC, res1, rcs_wk, ics_wk]) (by simp [PS.get, PS.obj, PS.lv, lkp_hit, lkp_miss, lkp_nil, lko, wkL, wkC, PV.weak, wkL, wkC, res1, rcs_wk, ics_wk]) (by simp [PS.get, PS.obj, PS.lv, lkp_hit, lkp_miss, lkp_nil, lko]) (by rfl) (by rfl) (by simp [lko]) (by simp) (by simp) (by simp) (fun i hi => by rcases i with _ | _ | _ | _ | _ | _ | i <;> first | rfl | (exfalso; omega)))
        | false =>
          (simp only [JiA.st, joS, joB]; exact Wk.by _ _ _ [(0,0),(1,1),(2,2),(3,3),(4,4),(5,5),(6,6)] [] [] (by simp) (by simp [wkV, PV.el, PV.weak, PS.get, PS.obj, PS.lv, lkp_hit, lkp_miss, lkp_nil, lko, wkL, wkC, res1, rcs_wk, ics_wk]) (by simp [PS.get, PS.obj, PS.lv, lkp_hit, lkp_miss, lkp_nil, lko, wkL, wkC, PV.weak, wkL, wkC, res1, rcs_wk, ics_wk]) (by simp [PS.get, PS.obj, PS.lv, lkp_hit, lkp_miss, lkp_nil, lko]) (by rfl) (by rfl) (by simp [lko]) (by simp) (by simp) (by simp) (fun i hi => by rcases i with _ | _ | _ | _ | _ | _ | i <;> first | rfl | (exfalso; omega)))
      | true =>
        rw [hkb, if_pos rfl] at hcs
        have ho2 : out' ++ [⟨x, y, u - x, z - y⟩] = out ++ cel kf P Q y z xs (j + 1) := by rw [hcs, ho', List.append_assoc]
        have hlo : out'.length ≤ i * 2097152 + j := by rw [ho', List.length_append]; omega
        cases g' with
        | true =>
          have h0 := hg' rfl
          subst h0
          simp only [joS, joB]
          simp -implicitDefEqProofs only [push_cast, huj, seval]
          (repeat (first | refine ⟨(by omega : _ ≤ _), ?_⟩ | refine ⟨(by omega : _ < _), ?_⟩ | refine ⟨(by simp; omega), ?_⟩ | refine ⟨(by simp; done), ?_⟩ | refine ⟨(by (unfold drawOk; kernel_rfl)), ?_⟩))
          refine ⟨⟨false, j + 1, P2, Q3, [⟨x, y, u - x, z - y⟩], by omega, dP, dQ, bdP, bdQ, by omega, by omega, ho2, fun h => (by cases h), fun _ h => (by cases h)⟩, by simp only; omega, ?_⟩
          have hC : rcs [⟨x, y, u - x, z - y⟩] = [.int .i64 x, .int .i64 y, .int .i64 (u - x), .int .i64 (z - y)] := rfl
          (simp only [JiA.st, joS, joB]; exact Wk.by _ _ _ [(0,0),(1,1),(2,2),(3,3),(4,200),(5,5),(6,6)] [] [] (by simp) (by simp [wkV, PV.el, PV.weak, PS.get, PS.obj, PS.lv, lkp_hit, lkp_miss, lkp_nil, lko, wkL, wkC, res1, rcs_wk, ics_wk, hC, PV.cells]) (by simp [PS.get, PS.obj, PS.lv, lkp_hit, lkp_miss, lkp_nil, lko, wkL, wkC, PV.weak, wkL, wkC, res1, rcs_wk, ics_wk, hC, PV.cells]) (by simp [PS.get, PS.obj, PS.lv, lkp_hit, lkp_miss, lkp_nil, lko]) (by rfl) (by rfl) (by simp [lko]) (by simp) (by simp) (by simp) (fun i hi => by rcases i with _ | _ | _ | _ | _ | _ | i <;> first | rfl | (exfalso; omega)))
        | false =>
          simp only [joS, joB]
          simp -implicitDefEqProofs only [push_cast, huj, seval]
          (repeat (first | refine ⟨(by omega : _ ≤ _), ?_⟩ | refine ⟨(by omega : _ < _), ?_⟩ | refine ⟨(by simp; omega), ?_⟩ | refine ⟨(by simp; done), ?_⟩ | refine ⟨(by (unfold drawOk; kernel_rfl)), ?_⟩))
          refine ⟨by rw [rcs_length]; omega, by omega, by omega, ?_⟩
          refine ⟨⟨false, j + 1, P2, Q3, out' ++ [⟨x, y, u - x, z - y⟩], by omega, dP, dQ, bdP, bdQ, by omega, by omega, ho2, fun h => (by cases h), fun _ h => by simp at h⟩, by simp only; omega, ?_⟩
          have hC : List.take (out'.length * 4) (rcs out') ++ [.int .i64 x, .int .i64 y, .int .i64 (u - x), .int .i64 (z - y)] = rcs (out' ++ [⟨x, y, u - x, z - y⟩]) := by rw [rcs_take, List.take_length, rcs_app]; rfl
          have hLn : (out' ++ [(⟨x, y, u - x, z - y⟩ : Rt)]).length = out'.length + 1 := by simp
          simp only [JiA.st]
          generalize out' ++ [(⟨x, y, u - x, z - y⟩ : Rt)] = R2 at *
          (simp only [JiA.st, joS, joB]; exact Wk.by _ _ _ [(0,0),(1,1),(2,2),(3,3),(4,200),(5,5),(6,6)] [] [] (by simp) (by simp [wkV, PV.el, PV.weak, PS.get, PS.obj, PS.lv, lkp_hit, lkp_miss, lkp_nil, lko, wkL, wkC, res1, rcs_wk, ics_wk, hC, hLn, PV.cells]) (by simp [PS.get, PS.obj, PS.lv, lkp_hit, lkp_miss, lkp_nil, lko, wkL, wkC, PV.weak, wkL, wkC, res1, rcs_wk, ics_wk, hC, hLn, PV.cells]) (by simp [PS.get, PS.obj, PS.lv, lkp_hit, lkp_miss, lkp_nil, lko]) (by rfl) (by rfl) (by simp [lko]) (by simp) (by simp) (by simp) (fun i hi => by rcases i with _ | _ | _ | _ | _ | _ | i <;> first | rfl | (exfalso; omega)))
end Go.Proofs.Sh

/- Regions as bands: a region's row at a place; gaps between rising numbers. Plain. -/
set_option linter.unusedVariables false
namespace Go.Proofs.Sh
open Go.Pv Rg
theorem dropY_app {y : Int} : ∀ {A : List Rt} (K : List Rt), (∀ r ∈ A, r.y + r.h ≤ y) → dropY y (A ++ K) = dropY y K
  | [], K, _ => rfl
  | r :: A, K, h => by
    have ih := dropY_app (A := A) K fun s hs => h s (List.mem_cons_of_mem _ hs)
    unfold dropY at *
    rw [List.cons_append, List.dropWhile_cons, if_pos (by simpa using h r List.mem_cons_self)]
    exact ih
theorem takeY_app {y : Int} : ∀ {A : List Rt} (K : List Rt), (∀ r ∈ A, r.y ≤ y) → takeY y (A ++ K) = A ++ takeY y K
  | [], K, _ => rfl
  | r :: A, K, h => by
    have ih := takeY_app (A := A) K fun s hs => h s (List.mem_cons_of_mem _ hs)
    unfold takeY at *
    rw [List.cons_append, List.takeWhile_cons, if_pos (by simpa using h r List.mem_cons_self), ih]
    rfl
theorem takeY_none {y : Int} {K : List Rt} (h : ∀ r ∈ K, y < r.y) : takeY y K = [] := by
  cases K with
  | nil => rfl
  | cons r K =>
    unfold takeY
    have := h r List.mem_cons_self
    rw [List.takeWhile_cons, if_neg (by simp; omega)]
theorem flat_cons (b : Bd) (B : List Bd) : flat (b :: B) = nw b.s b.y b.z ++ flat B := by rw [← flat_one, ← flat_app]; rfl
theorem flat_y : ∀ {B : List Bd} {m : Int}, (∀ c ∈ B, m ≤ c.y) → ∀ r ∈ flat B, m ≤ r.y
  | [], m, _, r, hr => by cases hr
  | b :: B, m, h, r, hr => by
    rw [flat_cons] at hr
    rcases List.mem_append.1 hr with hr | hr
    · obtain ⟨s, hs, rfl⟩ := List.mem_map.1 hr; exact h b List.mem_cons_self
    · exact flat_y (fun c hc => h c (List.mem_cons_of_mem _ hc)) r hr
/-- A row's rectangles are its band's. -/
theorem rowOf_flat : ∀ {B : List Bd} (y : Int), BdOk B → ∃ u v, rowOf (flat B) y = nw (rowS B y) u v
  | [], y, _ => ⟨0, 0, rfl⟩
  | b :: B, y, h => by
    obtain ⟨b1, b2, b3, b4, b5, b6⟩ := h
    rw [flat_cons]
    by_cases hz : b.z ≤ y
    · obtain ⟨u, v, ih⟩ := rowOf_flat y b6
      refine ⟨u, v, ?_⟩
      unfold rowOf at *
      rw [dropY_app _ (fun r hr => by obtain ⟨s, hs, rfl⟩ := List.mem_map.1 hr; simp only; omega), ih, rowS, if_neg (by omega)]
    · have hd : dropY y (nw b.s b.y b.z ++ flat B) = nw b.s b.y b.z ++ flat B := by
        cases hs : b.s with
        | nil => exact absurd hs b2
        | cons t s =>
          unfold dropY
          show List.dropWhile _ (_ :: _) = _
          rw [List.dropWhile_cons, if_neg (by simp; omega)]
          rfl
      by_cases hy : b.y ≤ y
      · refine ⟨b.y, b.z, ?_⟩
        unfold rowOf
        rw [hd, takeY_app _ (fun r hr => by obtain ⟨s, hs, rfl⟩ := List.mem_map.1 hr; exact hy), takeY_none (fun r hr => by have := flat_y b4 r hr; omega), List.append_nil, rowS, if_pos ⟨hy, by omega⟩]
      · refine ⟨0, 0, ?_⟩
        unfold rowOf
        rw [hd, takeY_none, rowS, if_neg (by omega), rowS_none (fun c hc => by have := b4 c hc; omega)]
        · rfl
        · intro r hr
          rcases List.mem_append.1 hr with hr | hr
          · obtain ⟨s, hs, rfl⟩ := List.mem_map.1 hr; simp only; omega
          · have := flat_y b4 r hr; omega
theorem headX_in {u v x : Int} : ∀ {s : List (Int × Int)}, SpOk s → (headX x (dropX x (nw s u v)) = true ↔ inS s x)
  | [], _ => by
    constructor
    · intro h; cases h
    · rintro ⟨t, ht, -⟩; cases ht
  | t :: s, h => by
    obtain ⟨h1, h2, h3⟩ := h
    have ih := headX_in (u := u) (v := v) (x := x) h3
    have e : nw (t :: s) u v = ⟨t.1, u, t.2 - t.1, v - u⟩ :: nw s u v := rfl
    have hc : inS (t :: s) x ↔ (t.1 ≤ x ∧ x < t.2) ∨ inS s x := by
      unfold inS
      constructor
      · rintro ⟨w, hw, h⟩
        rcases List.mem_cons.1 hw with rfl | hw
        · exact .inl h
        · exact .inr ⟨w, hw, h⟩
      · rintro (h | ⟨w, hw, h⟩)
        · exact ⟨t, List.mem_cons_self, h⟩
        · exact ⟨w, List.mem_cons_of_mem _ hw, h⟩
    rw [e, hc]
    by_cases hd : t.2 ≤ x
    · have : dropX x (⟨t.1, u, t.2 - t.1, v - u⟩ :: nw s u v) = dropX x (nw s u v) := by
        unfold dropX; rw [List.dropWhile_cons, if_pos (by simp; omega)]
      rw [this, ih]
      constructor
      · exact .inr
      · rintro (h | h)
        · omega
        · exact h
    · have : dropX x (⟨t.1, u, t.2 - t.1, v - u⟩ :: nw s u v) = ⟨t.1, u, t.2 - t.1, v - u⟩ :: nw s u v := by
        unfold dropX; rw [List.dropWhile_cons, if_neg (by simp; omega)]
      rw [this]
      show decide (t.1 ≤ x) = true ↔ _
      rw [decide_eq_true_eq]
      constructor
      · intro h; exact .inl ⟨h, by omega⟩
      · rintro (h | ⟨w, hw, h4, h5⟩)
        · exact h.1
        · have := h2 w hw; omega
/-- Whether a place is a region's, as join looks for it. -/
def hbF (L : List Rt) (p q : Int) : Bool := headX p (dropX p (rowOf L q))
theorem hbF_iff {B : List Bd} (hB : BdOk B) (p q : Int) : hbF (flat B) p q = true ↔ hasB B p q := by
  obtain ⟨u, v, h⟩ := rowOf_flat q hB
  unfold hbF
  rw [h, headX_in (rowS_ok hB)]
  rfl
theorem ris_gap2 {L : List Int} (hr : Ris L) {i : Nat} (h : i + 1 < L.length) {u : Int} (hu : u ∈ L) : u ≤ L[i] ∨ L[i + 1] ≤ u := by
  obtain ⟨j, hj, rfl⟩ := List.mem_iff_getElem.1 hu
  rcases Nat.lt_trichotomy j i with h1 | rfl | h1
  · exact .inl (Int.le_of_lt (ris_get hr j i hj (by omega) h1))
  · exact .inl (Int.le_refl _)
  · rcases Nat.lt_or_ge (i + 1) j with h2 | h2
    · exact .inr (Int.le_of_lt (ris_get hr (i + 1) j h hj h2))
    · have : j = i + 1 := by omega
      subst this
      exact .inr (Int.le_refl _)
theorem ris_at : ∀ {L : List Int} {q a b : Int}, Ris L → a ∈ L → b ∈ L → a ≤ q → q < b → ∃ i, ∃ h : i + 1 < L.length, L[i] ≤ q ∧ q < L[i + 1]
  | [], q, a, b, _, ha, _, _, _ => by cases ha
  | [y], q, a, b, _, ha, hb, h1, h2 => by rw [List.mem_singleton] at ha hb; omega
  | y :: z :: L, q, a, b, hR, ha, hb, h1, h2 => by
    by_cases hq : q < z
    · refine ⟨0, by simp, ?_, hq⟩
      show y ≤ q
      rcases List.mem_cons.1 ha with rfl | ha
      · exact h1
      · have := hR.1 a ha; omega
    · have hb' : b ∈ z :: L := by
        rcases List.mem_cons.1 hb with rfl | hb
        · have := hR.1 z List.mem_cons_self; omega
        · exact hb
      obtain ⟨i, hi, h3, h4⟩ := ris_at (q := q) (a := z) (b := b) hR.2 List.mem_cons_self hb' (by omega) h2
      exact ⟨i + 1, by simpa using hi, h3, h4⟩
theorem mem_cutY {L : List Rt} {u : Int} : u ∈ cutY L ↔ ∃ r ∈ L, u = r.y ∨ u = r.y + r.h := by
  unfold cutY
  rw [(uq_ok _).2]
  unfold cutL
  rw [List.mem_flatMap]
  simp
theorem mem_cutX {L : List Rt} {u : Int} : u ∈ cutX L ↔ ∃ r ∈ L, u = r.x ∨ u = r.x + r.w := by
  unfold cutX
  rw [(uq_ok _).2]
  unfold cutL
  rw [List.mem_flatMap]
  simp
/-- Between two rows that follow each other a region has the same stretches. -/
theorem rowS_gap : ∀ {B : List Bd} {y z q : Int}, BdOk B → (∀ b ∈ B, (b.y ≤ y ∨ z ≤ b.y) ∧ (b.z ≤ y ∨ z ≤ b.z)) → y ≤ q → q < z → rowS B q = rowS B y
  | [], _, _, _, _, _, _, _ => rfl
  | b :: B, y, z, q, h, hg, h1, h2 => by
    have ih := rowS_gap (B := B) h.2.2.2.2.2 (fun c hc => hg c (List.mem_cons_of_mem _ hc)) h1 h2
    have hb := hg b List.mem_cons_self
    have := h.1
    rw [rowS, rowS, ih]
    by_cases hq : b.y ≤ y ∧ y < b.z
    · rw [if_pos hq, if_pos (by omega)]
    · rw [if_neg hq, if_neg (by omega)]
theorem inS_gap {s : List (Int × Int)} {x z p : Int} (hg : ∀ t ∈ s, (t.1 ≤ x ∨ z ≤ t.1) ∧ (t.2 ≤ x ∨ z ≤ t.2)) (h1 : x ≤ p) (h2 : p < z) : inS s p ↔ inS s x := by
  unfold inS
  constructor
  · rintro ⟨t, ht, h3, h4⟩
    have := hg t ht
    exact ⟨t, ht, by omega, by omega⟩
  · rintro ⟨t, ht, h3, h4⟩
    have := hg t ht
    exact ⟨t, ht, by omega, by omega⟩
theorem band_ok : ∀ {B : List Bd} {b : Bd}, BdOk B → b ∈ B → b.y < b.z ∧ b.s ≠ [] ∧ SpOk b.s
  | c :: B, b, h, hb => by
    rcases List.mem_cons.1 hb with rfl | hb
    · exact ⟨h.1, h.2.1, h.2.2.1⟩
    · exact band_ok h.2.2.2.2.2 hb
theorem band_mem {B : List Bd} {b : Bd} (hB : BdOk B) (h : b ∈ B) : ∃ r ∈ flat B, r.y = b.y ∧ r.y + r.h = b.z := by
  have hs := (band_ok hB h).2.1
  cases hb : b.s with
  | nil => exact absurd hb hs
  | cons t s => exact ⟨⟨t.1, b.y, t.2 - t.1, b.z - b.y⟩, by
      unfold flat
      refine List.mem_flatten.2 ⟨b.rts, List.mem_map.2 ⟨b, h, rfl⟩, ?_⟩
      unfold Bd.rts
      rw [hb]
      exact List.mem_cons_self, rfl, by simp only; omega⟩
theorem rowS_mem : ∀ {B : List Bd} {q : Int}, rowS B q ≠ [] → ∃ b ∈ B, b.y ≤ q ∧ q < b.z
  | [], q, h => absurd rfl h
  | b :: B, q, h => by
    rw [rowS] at h
    by_cases hq : b.y ≤ q ∧ q < b.z
    · exact ⟨b, List.mem_cons_self, hq⟩
    · rw [if_neg hq] at h
      obtain ⟨c, hc, h2⟩ := rowS_mem h
      exact ⟨c, List.mem_cons_of_mem _ hc, h2⟩
section
variable {B : List Bd} {ys xs : List Int} (hB : BdOk B) (hys : ∀ r ∈ flat B, r.y ∈ ys ∧ r.y + r.h ∈ ys) (hr : Ris ys)
include hB hys hr
theorem hb_row {i : Nat} (hi : i + 1 < ys.length) {q : Int} (h1 : ys[i] ≤ q) (h2 : q < ys[i + 1]) (p : Int) : hbF (flat B) p q = hbF (flat B) p ys[i] := by
  rw [Bool.eq_iff_iff, hbF_iff hB, hbF_iff hB]
  unfold hasB
  rw [rowS_gap hB (fun b hb => ?_) h1 h2]
  obtain ⟨r, hr1, e1, e2⟩ := band_mem hB hb
  have h3 := hys r hr1
  rw [e2, e1] at h3
  exact ⟨ris_gap2 hr hi h3.1, ris_gap2 hr hi h3.2⟩
theorem hb_ys {p q : Int} (h : hbF (flat B) p q = true) : ∃ i, ∃ h : i + 1 < ys.length, ys[i] ≤ q ∧ q < ys[i + 1] := by
  rw [hbF_iff hB] at h
  have hne : rowS B q ≠ [] := by
    intro e
    unfold hasB at h
    rw [e] at h
    obtain ⟨t, ht, -⟩ := h
    cases ht
  obtain ⟨b, hb, h1, h2⟩ := rowS_mem hne
  obtain ⟨r, hr1, e1, e2⟩ := band_mem hB hb
  have h3 := hys r hr1
  rw [e2, e1] at h3
  exact ris_at hr h3.1 h3.2 h1 h2
end
section
variable {B : List Bd} {y : Int} {xs : List Int} (hB : BdOk B) (hxs : ∀ r ∈ rowOf (flat B) y, r.x ∈ xs ∧ r.x + r.w ∈ xs) (hr : Ris xs)
include hB hxs
theorem row_ends : ∀ t ∈ rowS B y, t.1 ∈ xs ∧ t.2 ∈ xs := fun t ht => by
  obtain ⟨u, v, h⟩ := rowOf_flat y hB
  have := hxs ⟨t.1, u, t.2 - t.1, v - u⟩ (by rw [h]; exact List.mem_map.2 ⟨t, ht, rfl⟩)
  simp only at this
  rw [show t.1 + (t.2 - t.1) = t.2 by omega] at this
  exact this
include hr
theorem hb_col {j : Nat} (hj : j + 1 < xs.length) {p : Int} (h1 : xs[j] ≤ p) (h2 : p < xs[j + 1]) : hbF (flat B) p y = hbF (flat B) xs[j] y := by
  rw [Bool.eq_iff_iff, hbF_iff hB, hbF_iff hB]
  unfold hasB
  refine inS_gap (z := xs[j + 1]) (fun t ht => ?_) h1 h2
  have h3 := row_ends hB hxs t ht
  exact ⟨ris_gap2 hr hj h3.1, ris_gap2 hr hj h3.2⟩
theorem hb_xs {p : Int} (h : hbF (flat B) p y = true) : ∃ j, ∃ h : j + 1 < xs.length, xs[j] ≤ p ∧ p < xs[j + 1] := by
  rw [hbF_iff hB] at h
  obtain ⟨t, ht, h1, h2⟩ := h
  have h3 := row_ends hB hxs t ht
  exact ris_at hr h3.1 h3.2 h1 h2
end
theorem mem_cel {kf : Bool → Bool → Bool} {P Q : List Rt} {y z : Int} {xs : List Int} {r : Rt} : r ∈ cel kf P Q y z xs (xs.length - 1) ↔ ∃ j, ∃ hj : j + 1 < xs.length,
    kf (headX xs[j] (dropX xs[j] P)) (headX xs[j] (dropX xs[j] Q)) = true ∧ r = ⟨xs[j], y, xs[j + 1] - xs[j], z - y⟩ := by
  unfold cel
  rw [List.mem_flatMap]
  constructor
  · rintro ⟨j, hj, h⟩
    rw [List.mem_range] at hj
    have hj1 : j + 1 < xs.length := by omega
    refine ⟨j, hj1, ?_⟩
    rw [getD_at (show j < xs.length by omega), getD_at hj1] at h
    by_cases hk : kf (headX xs[j] (dropX xs[j] P)) (headX xs[j] (dropX xs[j] Q)) = true
    · rw [if_pos hk, List.mem_singleton] at h
      exact ⟨hk, h⟩
    · rw [if_neg hk] at h
      cases h
  · rintro ⟨j, hj1, hk, h⟩
    refine ⟨j, List.mem_range.2 (by omega), ?_⟩
    rw [getD_at (show j < xs.length by omega), getD_at hj1, if_pos hk, List.mem_singleton]
    exact h
theorem mem_joinC {kf : Bool → Bool → Bool} {L K : List Rt} {ys : List Int} {r : Rt} : r ∈ joinC kf L K ys (ys.length - 1) ↔ ∃ i, ∃ hi : i + 1 < ys.length, ∃ j, ∃ hj : j + 1 < (cutX (rowOf L ys[i] ++ rowOf K ys[i])).length,
    kf (hbF L (cutX (rowOf L ys[i] ++ rowOf K ys[i]))[j] ys[i]) (hbF K (cutX (rowOf L ys[i] ++ rowOf K ys[i]))[j] ys[i]) = true ∧
    r = ⟨(cutX (rowOf L ys[i] ++ rowOf K ys[i]))[j], ys[i], (cutX (rowOf L ys[i] ++ rowOf K ys[i]))[j + 1] - (cutX (rowOf L ys[i] ++ rowOf K ys[i]))[j], ys[i + 1] - ys[i]⟩ := by
  unfold joinC
  rw [List.mem_flatMap]
  constructor
  · rintro ⟨i, hi, h⟩
    rw [List.mem_range] at hi
    have hi1 : i + 1 < ys.length := by omega
    rw [getD_at (show i < ys.length by omega), getD_at hi1] at h
    exact ⟨i, hi1, mem_cel.1 h⟩
  · rintro ⟨i, hi1, h⟩
    refine ⟨i, List.mem_range.2 (by omega), ?_⟩
    rw [getD_at (show i < ys.length by omega), getD_at hi1]
    exact mem_cel.2 h
theorem joinC_has {B C : List Bd} (hB : BdOk B) (hC : BdOk C) {kf : Bool → Bool → Bool} (h0 : kf false false = false) (p q : Int) :
    hasL (joinC kf (flat B) (flat C) (cutY (flat B ++ flat C)) ((cutY (flat B ++ flat C)).length - 1)) p q ↔ kf (hbF (flat B) p q) (hbF (flat C) p q) = true := by
  have hyB : ∀ r ∈ flat B, r.y ∈ cutY (flat B ++ flat C) ∧ r.y + r.h ∈ cutY (flat B ++ flat C) := fun r hr => ⟨mem_cutY.2 ⟨r, List.mem_append_left _ hr, .inl rfl⟩, mem_cutY.2 ⟨r, List.mem_append_left _ hr, .inr rfl⟩⟩
  have hyC : ∀ r ∈ flat C, r.y ∈ cutY (flat B ++ flat C) ∧ r.y + r.h ∈ cutY (flat B ++ flat C) := fun r hr => ⟨mem_cutY.2 ⟨r, List.mem_append_right _ hr, .inl rfl⟩, mem_cutY.2 ⟨r, List.mem_append_right _ hr, .inr rfl⟩⟩
  have hry : Ris (cutY (flat B ++ flat C)) := (uq_ok _).1
  generalize cutY (flat B ++ flat C) = ys at *
  have hxB : ∀ y, ∀ r ∈ rowOf (flat B) y, r.x ∈ cutX (rowOf (flat B) y ++ rowOf (flat C) y) ∧ r.x + r.w ∈ cutX (rowOf (flat B) y ++ rowOf (flat C) y) := fun y r hr => ⟨mem_cutX.2 ⟨r, List.mem_append_left _ hr, .inl rfl⟩, mem_cutX.2 ⟨r, List.mem_append_left _ hr, .inr rfl⟩⟩
  have hxC : ∀ y, ∀ r ∈ rowOf (flat C) y, r.x ∈ cutX (rowOf (flat B) y ++ rowOf (flat C) y) ∧ r.x + r.w ∈ cutX (rowOf (flat B) y ++ rowOf (flat C) y) := fun y r hr => ⟨mem_cutX.2 ⟨r, List.mem_append_right _ hr, .inl rfl⟩, mem_cutX.2 ⟨r, List.mem_append_right _ hr, .inr rfl⟩⟩
  have hrx : ∀ y, Ris (cutX (rowOf (flat B) y ++ rowOf (flat C) y)) := fun y => (uq_ok _).1
  constructor
  · rintro ⟨r, hr, h1, h2, h3, h4⟩
    obtain ⟨i, hi, j, hj, hk, rfl⟩ := mem_joinC.1 hr
    simp only at h1 h2 h3 h4
    rw [hb_row hB hyB hry hi h3 (by omega), hb_row hC hyC hry hi h3 (by omega), hb_col hB (hxB _) (hrx _) hj h1 (by omega), hb_col hC (hxC _) (hrx _) hj h1 (by omega)]
    exact hk
  · intro hk
    have hi : ∃ i, ∃ h : i + 1 < ys.length, ys[i] ≤ q ∧ q < ys[i + 1] := by
      cases hb : hbF (flat B) p q with
      | true => exact hb_ys hB hyB hry hb
      | false =>
        cases hc : hbF (flat C) p q with
        | true => exact hb_ys hC hyC hry hc
        | false => rw [hb, hc, h0] at hk; cases hk
    obtain ⟨i, hi, h1, h2⟩ := hi
    rw [hb_row hB hyB hry hi h1 h2, hb_row hC hyC hry hi h1 h2] at hk
    have hj : ∃ j, ∃ h : j + 1 < (cutX (rowOf (flat B) ys[i] ++ rowOf (flat C) ys[i])).length, (cutX (rowOf (flat B) ys[i] ++ rowOf (flat C) ys[i]))[j] ≤ p ∧ p < (cutX (rowOf (flat B) ys[i] ++ rowOf (flat C) ys[i]))[j + 1] := by
      cases hb : hbF (flat B) p ys[i] with
      | true => exact hb_xs hB (hxB _) (hrx _) hb
      | false =>
        cases hc : hbF (flat C) p ys[i] with
        | true => exact hb_xs hC (hxC _) (hrx _) hc
        | false => rw [hb, hc, h0] at hk; cases hk
    obtain ⟨j, hj, h3, h4⟩ := hj
    rw [hb_col hB (hxB _) (hrx _) hj h3 h4, hb_col hC (hxC _) (hrx _) hj h3 h4] at hk
    exact ⟨_, mem_joinC.2 ⟨i, hi, j, hj, hk, rfl⟩, by simp only; omega, by simp only; omega, by simp only; omega, by simp only; omega⟩
theorem joinC_cnt {L K : List Rt} (hL : Bnd L) (hK : Bnd K) (kf : Bool → Bool → Bool) : cntL (joinC kf L K (cutY (L ++ K)) ((cutY (L ++ K)).length - 1)) = joinC kf L K (cutY (L ++ K)) ((cutY (L ++ K)).length - 1) := by
  refine List.filter_eq_self.2 fun r hr => ?_
  obtain ⟨hyb, -⟩ := cutY_bnd (bnd_app hL hK)
  have hry : Ris (cutY (L ++ K)) := (uq_ok _).1
  generalize cutY (L ++ K) = ys at *
  obtain ⟨i, hi, j, hj, hk, rfl⟩ := mem_joinC.1 hr
  obtain ⟨hxb, -⟩ := cutX_bnd (bnd_app (bnd_row hL ys[i]) (bnd_row hK ys[i]))
  have hrx : Ris (cutX (rowOf L ys[i] ++ rowOf K ys[i])) := (uq_ok _).1
  have a1 := ris_get hry i (i + 1) (by omega) hi (by omega)
  have a2 := ris_get hrx j (j + 1) (by omega) hj (by omega)
  have a3 := hyb _ (List.getElem_mem (show i < ys.length by omega))
  have a4 := hyb _ (List.getElem_mem hi)
  have a5 := hxb _ (List.getElem_mem (show j < (cutX (rowOf L ys[i] ++ rowOf K ys[i])).length by omega))
  have a6 := hxb _ (List.getElem_mem hj)
  unfold cntB
  rw [Bool.and_eq_true, fit_iff, fit_iff]
  simp only
  omega
/-- A region's rectangles: the list of a set of places. -/
def Reg (L : List Rt) : Prop := ∃ B, BdOk B ∧ L = flat B
theorem Reg.hb {L : List Rt} (h : Reg L) (p q : Int) : hbF L p q = true ↔ hasL L p q := by
  obtain ⟨B, hB, rfl⟩ := h
  rw [hbF_iff hB, has_flat hB]
theorem Reg.cn {S : Int → Int → Prop} (h : Rep S) : Reg (cn S) := by
  obtain ⟨B, h1, h2, h3⟩ := cn_bands h
  exact ⟨B, h1, h3⟩
theorem Reg.eq {L : List Rt} (h : Reg L) : Rg.cn (hasL L) = L := by
  obtain ⟨B, hB, rfl⟩ := h
  exact cn_eq hB fun p q => (has_flat hB p q).symm
theorem Reg.ext {L K : List Rt} (h1 : Reg L) (h2 : Reg K) (h : ∀ p q, hasL L p q ↔ hasL K p q) : L = K := by rw [← h1.eq, ← h2.eq, cn_ext h]
/-- What a rule keeps of two regions. -/
theorem join_cn {L K : List Rt} (hL : Reg L) (hK : Reg K) (bL : Bnd L) (bK : Bnd K) {kf : Bool → Bool → Bool} (h0 : kf false false = false) :
    Rg.cn (hasL (cntL (joinC kf L K (cutY (L ++ K)) ((cutY (L ++ K)).length - 1)))) = Rg.cn (fun p q => kf (hbF L p q) (hbF K p q) = true) ∧ Rep (fun p q => kf (hbF L p q) (hbF K p q) = true) := by
  have hc := joinC_cnt bL bK kf
  have hp : Pos (cntL (joinC kf L K (cutY (L ++ K)) ((cutY (L ++ K)).length - 1))) := fun r hr => by have := cnt_pos (cntL_bnd _ r hr); omega
  have hrep := Rep.of hp
  rw [hc] at hrep ⊢
  obtain ⟨B, hB, rfl⟩ := hL
  obtain ⟨C, hC, rfl⟩ := hK
  have e : ∀ p q, hasL (joinC kf (flat B) (flat C) (cutY (flat B ++ flat C)) ((cutY (flat B ++ flat C)).length - 1)) p q ↔ kf (hbF (flat B) p q) (hbF (flat C) p q) = true := joinC_has hB hC h0
  refine ⟨cn_ext e, ?_⟩
  obtain ⟨D, hD, h⟩ := hrep
  exact ⟨D, hD, fun p q => (h p q).trans (e p q)⟩
end Go.Proofs.Sh

/- Regions: how many rectangles; where they lie. Plain. -/
set_option linter.unusedVariables false
namespace Go.Proofs.Sh
open Go.Pv Rg
theorem mrg_len : ∀ (R : List (Int × Int)) (a b : Int), (mrg a b R).length ≤ R.length + 1
  | [], a, b => by simp [mrg]
  | s :: R, a, b => by
    rw [mrg]
    split
    · have := mrg_len R a (max b s.2); rw [List.length_cons]; omega
    · have := mrg_len R s.1 s.2; rw [List.length_cons, List.length_cons]; omega
theorem mrgs_len (R : List (Int × Int)) : (mrgs R).length ≤ R.length := by
  cases R with
  | nil => exact Nat.le_refl _
  | cons s R => have := mrg_len R s.1 s.2; rw [List.length_cons]; exact this
theorem insI_len (s : Int × Int) : ∀ L : List (Int × Int), (insI s L).length = L.length + 1
  | [] => rfl
  | t :: L => by
    have := insI_len s L
    unfold insI
    split <;> simp [this]
theorem srtI_len : ∀ L : List (Int × Int), (srtI L).length = L.length
  | [] => rfl
  | s :: L => by
    show (insI s (srtI L)).length = _
    rw [insI_len, srtI_len L, List.length_cons]
theorem rowF_len (A : List Rt) (y : Int) : (rowF A y).length ≤ A.length := by
  have h1 := mrgs_len (srtI (actI A y))
  rw [srtI_len] at h1
  have h2 : (actI A y).length ≤ A.length := by unfold actI; rw [List.length_map]; exact List.length_filter_le _ _
  unfold rowF
  omega
theorem insZ_len (y : Int) : ∀ L : List Int, (insZ y L).length ≤ L.length + 1
  | [] => Nat.le_refl _
  | z :: L => by
    have := insZ_len y L
    unfold insZ
    split
    · simp
    · split
      · simp
      · rw [List.length_cons, List.length_cons]; omega
theorem edg_len2 : ∀ A : List Rt, (edg A).length ≤ 2 * A.length
  | [] => Nat.le_refl _
  | r :: A => by
    have ih := edg_len2 A
    have h1 := insZ_len r.y (insZ (r.y + r.h) (edg A))
    have h2 := insZ_len (r.y + r.h) (edg A)
    show (insZ r.y (insZ (r.y + r.h) (edg A))).length ≤ _
    rw [List.length_cons]
    omega
theorem flat_add (B : List Bd) (y z : Int) (s : List (Int × Int)) : (flat (add B y z s)).length ≤ (flat B).length + s.length := by
  have e : ∀ b : Bd, (flat [b]).length = b.s.length := fun b => by rw [flat_one]; simp [nw]
  rcases List.eq_nil_or_concat B with rfl | ⟨B', b, rfl⟩
  · unfold add
    split
    · exact Nat.le_add_right _ _
    · rw [e]; exact Nat.le_add_left _ _
  · rw [List.concat_eq_append, add_snoc]
    split
    · exact Nat.le_add_right _ _
    · split
      · rw [flat_app, flat_app, List.length_append, List.length_append, e, e]; show (flat B').length + b.s.length ≤ _; omega
      · rw [show B' ++ [b, (⟨y, z, s⟩ : Bd)] = (B' ++ [b]) ++ [⟨y, z, s⟩] by simp, flat_app, List.length_append, e]; exact Nat.le_refl _
theorem flat_swp (f : Int → List (Int × Int)) (m : Nat) (hf : ∀ y, (f y).length ≤ m) : ∀ (ys : List Int) (B : List Bd), (flat (swp f B ys)).length ≤ (flat B).length + ys.length * m
  | [], B => Nat.le_add_right _ _
  | [y], B => Nat.le_add_right _ _
  | y :: z :: r, B => by
    have ih := flat_swp f m hf (z :: r) (add B y z (f y))
    have h1 := flat_add B y z (f y)
    have h2 := hf y
    rw [swp]
    have e : (y :: z :: r).length * m = (z :: r).length * m + m := by rw [List.length_cons, Nat.add_mul, Nat.one_mul]
    omega
/-- Of few rectangles there are few. -/
theorem cn_few {A : List Rt} (hp : Pos A) : (Rg.cn (hasL A)).length ≤ 2 * A.length * A.length := by
  rw [cn_of hp]
  have h1 := flat_swp (rowF A) A.length (rowF_len A) (edg A) []
  have h2 := Nat.mul_le_mul_right A.length (edg_len2 A)
  have e : (flat []).length = 0 := rfl
  omega
theorem flat_pos {B : List Bd} (hB : BdOk B) : Pos (flat B) := fun r hr => by
  unfold flat at hr
  obtain ⟨l, hl, hr⟩ := List.mem_flatten.1 hr
  obtain ⟨b, hb, rfl⟩ := List.mem_map.1 hl
  obtain ⟨s, hs, rfl⟩ := List.mem_map.1 hr
  have h1 := band_ok hB hb
  have h2 := h1.2.2.lt s hs
  simp only
  omega
theorem Reg.pos {L : List Rt} (h : Reg L) : Pos L := by obtain ⟨B, hB, rfl⟩ := h; exact flat_pos hB
/-- Where its places lie, there lie its rectangles. -/
theorem Reg.inside {L : List Rt} (h : Reg L) {x0 x1 y0 y1 : Int} (hs : ∀ p q, hasL L p q → x0 ≤ p ∧ p < x1 ∧ y0 ≤ q ∧ q < y1) : ∀ r ∈ L, x0 ≤ r.x ∧ r.x + r.w ≤ x1 ∧ y0 ≤ r.y ∧ r.y + r.h ≤ y1 := fun r hr => by
  have hp := h.pos r hr
  have h1 := hs r.x r.y ⟨r, hr, by omega, by omega, by omega, by omega⟩
  have h2 := hs (r.x + r.w - 1) (r.y + r.h - 1) ⟨r, hr, by omega, by omega, by omega, by omega⟩
  omega
theorem Reg.bnd {L : List Rt} (h : Reg L) (hs : ∀ p q, hasL L p q → -1048576 ≤ p ∧ p < 1048576 ∧ -1048576 ≤ q ∧ q < 1048576) : Bnd L := fun r hr => by
  have h1 := h.inside hs r hr
  have h2 := h.pos r hr
  unfold cntB
  rw [Bool.and_eq_true, fit_iff, fit_iff]
  omega
theorem Bnd.places {L : List Rt} (h : Bnd L) (p q : Int) (hh : hasL L p q) : -1048576 ≤ p ∧ p < 1048576 ∧ -1048576 ≤ q ∧ q < 1048576 := by
  obtain ⟨r, hr, h1, h2, h3, h4⟩ := hh
  have := cnt_pos (h r hr)
  omega
theorem Reg.len {L : List Rt} (h : Reg L) {x0 x1 y0 y1 : Int} (hs : ∀ p q, hasL L p q → x0 ≤ p ∧ p < x1 ∧ y0 ≤ q ∧ q < y1) (hx : x0 ≤ x1) (hy : y0 ≤ y1) : (L.length : Int) ≤ (x1 - x0) * (y1 - y0) := by
  have hi := h.inside hs
  obtain ⟨B, hB, rfl⟩ := h
  refine flat_len hB (fun c hc => ?_) hx hy
  have hc1 := band_ok hB hc
  have key : ∀ t ∈ c.s, (⟨t.1, c.y, t.2 - t.1, c.z - c.y⟩ : Rt) ∈ flat B := fun t ht => by
    unfold flat
    exact List.mem_flatten.2 ⟨c.rts, List.mem_map.2 ⟨c, hc, rfl⟩, List.mem_map.2 ⟨t, ht, rfl⟩⟩
  have hne : ∃ t, t ∈ c.s := by
    cases hs : c.s with
    | nil => exact absurd hs hc1.2.1
    | cons t s => exact ⟨t, List.mem_cons_self⟩
  obtain ⟨t, ht⟩ := hne
  have h1 := hi _ (key t ht)
  simp only at h1
  refine ⟨by omega, by omega, fun u hu => ?_⟩
  have h2 := hi _ (key u hu)
  simp only at h2
  omega
theorem Reg.nil : Reg [] := ⟨[], trivial, rfl⟩
theorem Reg.of {A : List Rt} (hp : Pos A) : Reg (Rg.cn (hasL A)) := Reg.cn (Rep.of hp)
theorem Pos.of {A : List Rt} (h : Bnd A) : Pos A := fun r hr => by have := cnt_pos (h r hr); omega
theorem of_has (L : List Rt) (p q : Int) : hasL (Rg.cn (hasL (cntL L))) p q ↔ hasL (cntL L) p q := cn_has (Rep.of (Pos.of (cntL_bnd L))) p q
theorem of_reg (L : List Rt) : Reg (Rg.cn (hasL (cntL L))) := Reg.of (Pos.of (cntL_bnd L))
theorem of_bnd (L : List Rt) : Bnd (Rg.cn (hasL (cntL L))) := (of_reg L).bnd fun p q h => (cntL_bnd L).places p q ((of_has L p q).1 h)
/-- A rule's result. -/
noncomputable def jn (kf : Bool → Bool → Bool) (L K : List Rt) : List Rt := Rg.cn (fun p q => kf (hbF L p q) (hbF K p q) = true)
theorem jn_reg {L K : List Rt} (hL : Reg L) (hK : Reg K) (bL : Bnd L) (bK : Bnd K) {kf : Bool → Bool → Bool} (h0 : kf false false = false) : Reg (jn kf L K) := Reg.cn (join_cn hL hK bL bK h0).2
theorem jn_has {L K : List Rt} (hL : Reg L) (hK : Reg K) (bL : Bnd L) (bK : Bnd K) {kf : Bool → Bool → Bool} (h0 : kf false false = false) (p q : Int) : hasL (jn kf L K) p q ↔ kf (hbF L p q) (hbF K p q) = true := cn_has (join_cn hL hK bL bK h0).2 p q
theorem jn_bnd {L K : List Rt} (hL : Reg L) (hK : Reg K) (bL : Bnd L) (bK : Bnd K) {kf : Bool → Bool → Bool} (h0 : kf false false = false) : Bnd (jn kf L K) := (jn_reg hL hK bL bK h0).bnd fun p q h => by
  rw [jn_has hL hK bL bK h0] at h
  cases h1 : hbF L p q with
  | true => exact bL.places p q ((hL.hb p q).1 h1)
  | false =>
    cases h2 : hbF K p q with
    | true => exact bK.places p q ((hK.hb p q).1 h2)
    | false => rw [h1, h2, h0] at h; cases h
end Go.Proofs.Sh

/- Package region: Meet, Minus, Within, Inside. -/
set_option maxRecDepth 100000
set_option linter.unusedSimpArgs false
set_option linter.unusedVariables false
namespace Go.Proofs.Sh
open Go.Pv
open Rg
theorem k_and (a b : Bool) : Fsp Try.prog 37 [] 0 [.bool a, .bool b] [] 0 (.bool (a && b)) := by
  cases a with
  | true =>
    (refine Fsp.ofs (nx := 0) mixed Try.func37 rfl (by simp [Try.f37]) ?_; simp -implicitDefEqProofs only [push_cast, Try.f37, seval])
    all_goals (first | done | rfl | exact ⟨_, rfl, by simp [wkL, res2, res1, PV.weak, PV.el]⟩ | (simp [wkL, res2, res1, PV.weak, PV.el]; done))
  | false =>
    (refine Fsp.ofs (nx := 0) mixed Try.func37 rfl (by simp [Try.f37]) ?_; simp -implicitDefEqProofs only [push_cast, Try.f37, seval])
    all_goals (first | done | rfl | exact ⟨_, rfl, by simp [wkL, res2, res1, PV.weak, PV.el]⟩ | (simp [wkL, res2, res1, PV.weak, PV.el]; done))
theorem k_sub (a b : Bool) : Fsp Try.prog 39 [] 0 [.bool a, .bool b] [] 0 (.bool (a && !b)) := by
  cases a with
  | true =>
    (refine Fsp.ofs (nx := 0) mixed Try.func39 rfl (by simp [Try.f39]) ?_; simp -implicitDefEqProofs only [push_cast, Try.f39, seval])
    all_goals (first | done | rfl | exact ⟨_, rfl, by simp [wkL, res2, res1, PV.weak, PV.el]⟩ | (simp [wkL, res2, res1, PV.weak, PV.el]; done))
  | false =>
    (refine Fsp.ofs (nx := 0) mixed Try.func39 rfl (by simp [Try.f39]) ?_; simp -implicitDefEqProofs only [push_cast, Try.f39, seval])
    all_goals (first | done | rfl | exact ⟨_, rfl, by simp [wkL, res2, res1, PV.weak, PV.el]⟩ | (simp [wkL, res2, res1, PV.weak, PV.el]; done))
noncomputable def mt (L K : List Rt) : List Rt := jn (fun a b => a && b) L K
noncomputable def mn (L K : List Rt) : List Rt := jn (fun a b => a && !b) L K
theorem meet_fs (L K : List Rt) (hL : Reg L) (hK : Reg K) (bL : Bnd L) (bK : Bnd K) (lL : L.length ≤ 1000000000) (lK : K.length ≤ 1000000000) : Fsp Try.prog 9 [] 0 [rgn L, rgn K] [] 0 (rgn (mt L K)) := by
  have hJ := join_fs 37 (fun a b => a && b) k_and L K bL bK lL lK
  rw [(join_cn hL hK bL bK (kf := fun a b => a && b) rfl).1] at hJ
  show Fsp Try.prog 9 [] 0 [rgn L, rgn K] [] 0 (rgn (jn (fun a b => a && b) L K))
  unfold jn
  generalize Rg.cn _ = X at *
  (refine Fsp.ofs (nx := 0) mixed Try.func9 rfl (by simp [Try.f9]) ?_; simp -implicitDefEqProofs only [push_cast, Try.f9, rgn, seval])
  (repeat (first | refine ⟨(by omega : _ ≤ _), ?_⟩ | refine ⟨(by omega : _ < _), ?_⟩ | refine ⟨by (unfold drawOk; kernel_rfl), ?_⟩ | refine ⟨(by simp; done), ?_⟩ | refine ⟨(by simp; omega), ?_⟩))
  refine callE_p hJ ?_
  simp -implicitDefEqProofs only [push_cast, rgn, seval]
theorem minus_fs (L K : List Rt) (hL : Reg L) (hK : Reg K) (bL : Bnd L) (bK : Bnd K) (lL : L.length ≤ 1000000000) (lK : K.length ≤ 1000000000) : Fsp Try.prog 10 [] 0 [rgn L, rgn K] [] 0 (rgn (mn L K)) := by
  have hJ := join_fs 39 (fun a b => a && !b) k_sub L K bL bK lL lK
  rw [(join_cn hL hK bL bK (kf := fun a b => a && !b) rfl).1] at hJ
  show Fsp Try.prog 10 [] 0 [rgn L, rgn K] [] 0 (rgn (jn (fun a b => a && !b) L K))
  unfold jn
  generalize Rg.cn _ = X at *
  (refine Fsp.ofs (nx := 0) mixed Try.func10 rfl (by simp [Try.f10]) ?_; simp -implicitDefEqProofs only [push_cast, Try.f10, rgn, seval])
  (repeat (first | refine ⟨(by omega : _ ≤ _), ?_⟩ | refine ⟨(by omega : _ < _), ?_⟩ | refine ⟨by (unfold drawOk; kernel_rfl), ?_⟩ | refine ⟨(by simp; done), ?_⟩ | refine ⟨(by simp; omega), ?_⟩))
  refine callE_p hJ ?_
  simp -implicitDefEqProofs only [push_cast, rgn, seval]
theorem mt_has {L K : List Rt} (hL : Reg L) (hK : Reg K) (bL : Bnd L) (bK : Bnd K) (p q : Int) : hasL (mt L K) p q ↔ hasL L p q ∧ hasL K p q := by
  unfold mt
  rw [jn_has hL hK bL bK (kf := fun a b => a && b) rfl, Bool.and_eq_true, hL.hb, hK.hb]
theorem mn_has {L K : List Rt} (hL : Reg L) (hK : Reg K) (bL : Bnd L) (bK : Bnd K) (p q : Int) : hasL (mn L K) p q ↔ hasL L p q ∧ ¬ hasL K p q := by
  unfold mn
  rw [jn_has hL hK bL bK (kf := fun a b => a && !b) rfl, Bool.and_eq_true, hL.hb, Bool.not_eq_true', ← hK.hb, Bool.not_eq_true]
theorem mt_reg {L K : List Rt} (hL : Reg L) (hK : Reg K) (bL : Bnd L) (bK : Bnd K) : Reg (mt L K) := jn_reg hL hK bL bK rfl
theorem mn_reg {L K : List Rt} (hL : Reg L) (hK : Reg K) (bL : Bnd L) (bK : Bnd K) : Reg (mn L K) := jn_reg hL hK bL bK rfl
theorem mt_bnd {L K : List Rt} (hL : Reg L) (hK : Reg K) (bL : Bnd L) (bK : Bnd K) : Bnd (mt L K) := jn_bnd hL hK bL bK rfl
theorem mn_bnd {L K : List Rt} (hL : Reg L) (hK : Reg K) (bL : Bnd L) (bK : Bnd K) : Bnd (mn L K) := jn_bnd hL hK bL bK rfl
/-- The region of a rectangle. -/
noncomputable def on (c : Rt) : List Rt := Rg.cn (hasL (cntL [c]))
theorem on_few (c : Rt) : (on c).length ≤ 2 := by
  have h := cn_few (Pos.of (cntL_bnd [c]))
  have h1 : (cntL [c]).length ≤ 1 := List.length_filter_le _ _
  have h2 : 2 * (cntL [c]).length * (cntL [c]).length ≤ 2 * 1 * 1 := Nat.mul_le_mul (Nat.mul_le_mul (Nat.le_refl _) h1) h1
  unfold on
  omega
theorem on_has (c : Rt) (p q : Int) : hasL (on c) p q ↔ cntB c = true ∧ c.has p q := by
  unfold on
  rw [of_has]
  unfold hasL cntL
  constructor
  · rintro ⟨r, hr, h⟩
    rw [List.mem_filter, List.mem_singleton] at hr
    obtain ⟨rfl, hc⟩ := hr
    exact ⟨hc, h⟩
  · rintro ⟨hc, h⟩
    exact ⟨c, List.mem_filter.2 ⟨List.mem_singleton.2 rfl, hc⟩, h⟩
theorem within_fs (L : List Rt) (c : Rt) (hL : Reg L) (bL : Bnd L) (lL : L.length ≤ 1000000000) (hc : RtIn c) : Fsp Try.prog 36 [] 0 [rgn L, rpv c] [] 0 (rgn (mt L (on c))) := by
  have hO := of_fs [c] (fun r hr => by rw [List.mem_singleton] at hr; rw [hr]; exact hc) (by simp)
  rw [show Rg.cn (hasL (cntL [c])) = on c from rfl, show rts [c] = [rpv c] from rfl] at hO
  have hM := meet_fs L (on c) hL (of_reg [c]) bL (of_bnd [c]) lL (by have := on_few c; omega)
  generalize mt L (on c) = X at *
  generalize on c = Y at *
  (refine Fsp.ofs (nx := 0) mixed Try.func36 rfl (by simp [Try.f36]) ?_; simp -implicitDefEqProofs only [push_cast, Try.f36, rgn, rpv, rc, seval])
  (repeat (first | refine ⟨(by omega : _ ≤ _), ?_⟩ | refine ⟨(by omega : _ < _), ?_⟩ | refine ⟨by (unfold drawOk; kernel_rfl), ?_⟩ | refine ⟨(by simp; done), ?_⟩ | refine ⟨(by simp; omega), ?_⟩))
  refine callE_p hO ?_
  simp -implicitDefEqProofs only [push_cast, rgn, seval]
  (repeat (first | refine ⟨(by omega : _ ≤ _), ?_⟩ | refine ⟨(by omega : _ < _), ?_⟩ | refine ⟨by (unfold drawOk; kernel_rfl), ?_⟩ | refine ⟨(by simp; done), ?_⟩ | refine ⟨(by simp; omega), ?_⟩))
  refine callE_p hM ?_
  simp -implicitDefEqProofs only [push_cast, rgn, seval]
  unfold drawOk; kernel_rfl
theorem inside_fs (L K : List Rt) (hL : Reg L) (hK : Reg K) (bL : Bnd L) (bK : Bnd K) (lL : L.length ≤ 1000000000) (lK : K.length ≤ 1000000000) : Fsp Try.prog 20 [] 0 [rgn L, rgn K] [] 0 (.bool (decide (((mn L K).length : Int) = 0))) := by
  have hM := minus_fs L K hL hK bL bK lL lK
  have hE := empty_fs (mn L K)
  generalize mn L K = X at *
  (refine Fsp.ofs (nx := 0) mixed Try.func20 rfl (by simp [Try.f20]) ?_; simp -implicitDefEqProofs only [push_cast, Try.f20, rgn, seval])
  (repeat (first | refine ⟨(by omega : _ ≤ _), ?_⟩ | refine ⟨(by omega : _ < _), ?_⟩ | refine ⟨by (unfold drawOk; kernel_rfl), ?_⟩ | refine ⟨(by simp; done), ?_⟩ | refine ⟨(by simp; omega), ?_⟩))
  refine callE_p hM ?_
  simp -implicitDefEqProofs only [push_cast, rgn, seval]
  (repeat (first | refine ⟨(by omega : _ ≤ _), ?_⟩ | refine ⟨(by omega : _ < _), ?_⟩ | refine ⟨by (unfold drawOk; kernel_rfl), ?_⟩ | refine ⟨(by simp; done), ?_⟩ | refine ⟨(by simp; omega), ?_⟩))
  refine callE_p hE ?_
  simp -implicitDefEqProofs only [push_cast, seval]
  all_goals (first | done | rfl | exact ⟨_, rfl, by simp [wkL, res2, res1, PV.weak, PV.el]⟩ | (simp [wkL, res2, res1, PV.weak, PV.el]; done))
end Go.Proofs.Sh
