/- Package stream: Feed. -/
import Derived.Test.YtplaaagcbleflaaDoorSxIt
import Derived.Test.YtplaaagcbleflaaDoorPvXe
set_option maxRecDepth 100000
set_option linter.unusedSimpArgs false
set_option linter.unusedVariables false
namespace Go.Proofs.Sh
open Go.Pv

/-- A round that is a whole request. -/
def rgood (r : List UInt8) (x : Nat × Nat) : Bool := x.2 != 0 && decide (x.1 + x.2 ≤ r.length)
def rpiece (r : List UInt8) (x : Nat × Nat) : List UInt8 := (r.drop x.1).take x.2
def ritems (o : Int) (r : List UInt8) (l : List (Nat × Nat)) : List It := l.map fun x => itemOf o (rpiece r x)
/-- Where the last request ends. -/
def rdone : List (Nat × Nat) → Nat
  | [] => 0
  | [x] => x.1 + x.2
  | _ :: l => rdone l
def itL (l : List It) : List PV := l.map It.pv
theorem itL_length (l : List It) : (itL l).length = l.length := List.length_map _
theorem ritems_length (o : Int) (r : List UInt8) (l : List (Nat × Nat)) : (ritems o r l).length = l.length := List.length_map _
theorem ritems_sn (o : Int) (r : List UInt8) (l : List (Nat × Nat)) (x : Nat × Nat) : itL (ritems o r (l ++ [x])) = itL (ritems o r l) ++ [(itemOf o (rpiece r x)).pv] := by simp [itL, ritems]
theorem rdone_sn (x : Nat × Nat) : ∀ l : List (Nat × Nat), rdone (l ++ [x]) = x.1 + x.2
  | [] => rfl
  | [y] => rfl
  | y :: z :: l => by
    show rdone (z :: l ++ [x]) = _
    exact rdone_sn x (z :: l)
/-- The requests that are whole, and the round behind them. -/
def cutR (o : Int) (r : List UInt8) : List (Nat × Nat) := (rdsAll o r).takeWhile (rgood r)
def cutX (o : Int) (r : List UInt8) : Option (Nat × Nat) := ((rdsAll o r).dropWhile (rgood r)).head?
def isNo (x : Option (Nat × Nat)) : Bool := match x with | some x => x.2 == 0 | none => false
/-- A stream that has begun, fed. -/
def runS (t : Sm) : Sm × List It :=
  (⟨true, t.d || isNo (cutX t.o t.r), t.o, if (t.d || isNo (cutX t.o t.r)) = true then [] else t.r.drop (rdone (cutR t.o t.r))⟩, ritems t.o t.r (cutR t.o t.r))
def feedS (s : Sm) (b : List UInt8) : Sm × List It :=
  if s.d = true then (s, [])
  else if (beginS ⟨s.b, s.d, s.o, s.r ++ b⟩).b = true then runS (beginS ⟨s.b, s.d, s.o, s.r ++ b⟩) else (beginS ⟨s.b, s.d, s.o, s.r ++ b⟩, [])
def feedR (s : Sm) (b : List UInt8) : PV := .tup [(feedS s b).1.pv, .sl 6 (itL (feedS s b).2)]
theorem cut_all {o : Int} {r : List UInt8} (h : (rdsAll o r).all (rgood r) = true) : cutR o r = rdsAll o r ∧ isNo (cutX o r) = false := by
  have h' := List.all_eq_true.1 h
  constructor
  · have := List.takeWhile_append_of_pos (p := rgood r) (l₁ := rdsAll o r) (l₂ := []) h'
    simpa [cutR] using this
  · have : (rdsAll o r).dropWhile (rgood r) = [] := by
      have := List.dropWhile_append_of_pos (p := rgood r) (l₁ := rdsAll o r) (l₂ := []) h'
      simpa using this
    rw [cutX, this]; rfl
theorem cut_at {o : Int} {r : List UInt8} {pre : List (Nat × Nat)} {x : Nat × Nat} (hp : pre ++ [x] <+: rdsAll o r) (h : pre.all (rgood r) = true) (hx : rgood r x = false) : cutR o r = pre ∧ cutX o r = some x := by
  have h' := List.all_eq_true.1 h
  obtain ⟨rest, hr⟩ := hp
  rw [List.append_assoc] at hr
  constructor
  · rw [cutR, ← hr, List.takeWhile_append_of_pos h']
    simp [List.takeWhile_cons, hx]
  · rw [cutX, ← hr, List.dropWhile_append_of_pos h']
    simp [List.dropWhile_cons, hx]
def udead (td : Bool) (pre : List (Nat × Nat)) : Bool := td || isNo pre.getLast?
theorem udead_sn (td : Bool) (pre : List (Nat × Nat)) (x : Nat × Nat) : udead td (pre ++ [x]) = (td || x.2 == 0) := by simp [udead, isNo]
def feedE (o : Int) (r : List UInt8) : List (Nat × PV) := [(28, .fn 48 [.loc [.str r], .loc [.int .i64 o]]), (2, .box 0 0), (4, .box 1 0), (6, .box 2 0), (7, .box 3 0), (5, .nilsl)]
def feedT (td : Bool) (o : Int) (r : List UInt8) (pre : List (Nat × Nat)) : PS := { n := 69, env := feedE o r, objs := [(0, some [.bool true, .bool td, .int .i64 o, .str r]), (1, some [.bool false, .bool false, .int .i64 0, .str []]), (2, some [.slt 6 (itL (ritems o r pre)) 50]), (3, some [.int .i64 (rdone pre)])], live := [(50, true)], nxt := 60 }
theorem ints_noMp (l : List Int) : ∀ p ∈ (ints l).flatMap PV.cells, NoMp p := by
  intro p hp
  simp only [ints, List.mem_flatMap, List.mem_map] at hp
  obtain ⟨q, ⟨n, _, rfl⟩, h⟩ := hp
  simp [PV.cells] at h
  subst h
  exact .int _ _
theorem itL_noMp (l : List It) : ∀ p ∈ (itL l).flatMap PV.cells, NoMp p := by
  intro p hp
  simp only [itL, List.mem_flatMap, List.mem_map] at hp
  obtain ⟨q, ⟨x, _, rfl⟩, h⟩ := hp
  simp [It.pv, PV.cells] at h
  rcases h with rfl | rfl | rfl | rfl | rfl | rfl
  · exact .int _ _
  · exact .sl _ _ (ints_noMp _)
  · exact .str _
  · exact .sl _ _ (ints_noMp _)
  · exact .int _ _
  · exact .int _ _
theorem feedT_rows (td : Bool) (o : Int) (r : List UInt8) (pre : List (Nat × Nat)) : (feedT td o r pre).rows := by
  intro i ps h
  rcases i with _ | _ | _ | _ | i <;> simp [feedT, PS.obj, lkp] at h <;> subst h <;> refine ⟨rfl, fun p hp => ?_⟩ <;> simp at hp
  · rcases hp with rfl | rfl | rfl | rfl <;> constructor
  · rcases hp with rfl | rfl | rfl | rfl <;> constructor
  · subst hp; exact .slt _ _ _ (itL_noMp _)
  · subst hp; constructor
def feedU (td : Bool) (o : Int) (r : List UInt8) (pre : List (Nat × Nat)) : PS := feedT (udead td pre) o r pre.dropLast
def feedX (x : Nat × Nat) : List (Nat × PV) := [(9, .int .i64 x.2), (8, .int .i64 x.1), (30, .int .i64 x.2), (29, .int .i64 x.1)]
def feedF (x : Nat × Nat) (t : Array Value) : Array Value := (((t.setIfInBounds 29 (.int .i64 x.1)).setIfInBounds 30 (.int .i64 x.2)).setIfInBounds 8 (.int .i64 x.1)).setIfInBounds 9 (.int .i64 x.2)
theorem rel_set {g : Gh} {t : Array Value} {l : List (Nat × PV)} (h : ∀ i, Rel g (t.getD i undef) (lkp .any l i)) {d : Nat} (hd : d < t.size) {v : Value} {p : PV} (hv : Rel g v p) : ∀ i, Rel g ((t.setIfInBounds d v).getD i undef) (lkp .any ((d, p) :: l) i) := by
  intro i
  simp only [lkp]
  split
  · rename_i e; subst e
    simpa [hd] using hv
  · rename_i e
    have : (t.setIfInBounds d v).getD i undef = t.getD i undef := by
      simp [Array.getElem?_setIfInBounds_ne e]
    rw [this]
    exact h i
theorem keepPV.loc {k : Nat} {ps : List PV} : keepPV k (.loc ps) := fun g g' v hh _ _ r => .pure _ _ (r.loc_inv.mono hh)
theorem keepPV.fn {k f : Nat} {ps : List PV} (h : ∀ p ∈ ps, keepPV k p) : keepPV k (.fn f ps) := fun g g' v hh hb ht r => by
  obtain ⟨vs, rfl, hn, hp⟩ := r.fn_inv
  exact .fn f vs ps hn (fun i v p hv hq => h p (List.mem_of_getElem? hq) g g' v hh hb ht (hp i v p hv hq))
theorem feedE_keep (o : Int) (r : List UInt8) (t : Nat) : keepPV 4 (lkp .any (feedE o r) t) := by
  simp only [feedE, lkp]
  repeat' split
  · exact keepPV.fn (fun p hp => by simp at hp; rcases hp with rfl | rfl <;> exact keepPV.loc)
  · exact keepPV.box (by omega)
  · exact keepPV.box (by omega)
  · exact keepPV.box (by omega)
  · exact keepPV.box (by omega)
  · exact keepPV.nilsl
  · exact keepPV.any
theorem rgood_le {r : List UInt8} {x : Nat × Nat} (h : rgood r x = true) : x.2 ≠ 0 ∧ x.1 + x.2 ≤ r.length := by simpa [rgood] using h
theorem rdone_le {r : List UInt8} : ∀ l : List (Nat × Nat), l.all (rgood r) = true → rdone l ≤ r.length
  | [], _ => Nat.zero_le _
  | [x], h => by simp at h; exact (rgood_le h).2
  | x :: y :: l, h => by
    rw [List.all_cons, Bool.and_eq_true] at h
    exact rdone_le (y :: l) h.2
theorem asg_round {P : Program} {l n id d : Nat} {src : Operand} {ty : TypeId} {pos : String} {Q : Exit → Act → World → Prop} {a : Act} {w : World} {v : Value} (hv : a.eval src = v) (h : Q .normal { a with tmps := a.tmps.setIfInBounds d v } w) :
    (Code.region id #[{ dst := some d, op := .assign src, type := ty, pos := pos, after := #[], guard := none }] false).wpIn (Fence.wide.inRound l) n P Q a w := by
  refine wpIn_region ?_
  show wpOpsIn _ _ _ _ _ [0] a w
  unfold wpOpsIn
  simp only [List.getElem?_toArray, List.getElem?_cons_zero]
  rw [if_pos (show Region.wanted _ (yielded _ a.tmps) = true from rfl)]
  refine Oper.wp_round (next := Q .normal) (Q := Q) (fun c h => by cases h) (fun a w h => h) ?_
  show Q .normal (a.put (some d) (a.eval src)) w
  rw [hv]
  exact h
theorem rgood_of {r : List UInt8} {x : Nat × Nat} (h1 : x.2 ≠ 0) (h2 : x.1 + x.2 ≤ r.length) : rgood r x = true := by simp [rgood, h1, h2]
set_option maxHeartbeats 8000000 in
theorem feed_fs (s : Sm) (b : List UInt8) (hb : (s.r ++ b).length ≤ 900000) : Fsp Tryd.prog 13 [] 0 [s.pv, .str b] [] 0 (feedR s b) := by
  have hbg := begin_fs ⟨s.b, s.d, s.o, s.r ++ b⟩
  have hbl : (beginS ⟨s.b, s.d, s.o, s.r ++ b⟩).r.length ≤ 900000 := by
    unfold beginS
    split
    · exact hb
    · split
      · exact hb
      · split
        · simp at hb ⊢; omega
        · split
          · simp at hb ⊢; omega
          · simp
  unfold feedR feedS
  generalize beginS ⟨s.b, s.d, s.o, s.r ++ b⟩ = t at *
  obtain ⟨tb, td, tO, tr⟩ := t
  obtain ⟨sb, sd, so, sr⟩ := s
  simp only [Sm.pv] at hbg
  simp only at hbl hb ⊢
  cases sd with
  | true =>
    rw [if_pos rfl]
    (refine Fsp.ofs (nx := 0) mixed Tryd.func13 rfl (by simp [Tryd.f13]) ?_; simp -implicitDefEqProofs only [push_cast, Tryd.f13, Sm.pv, seval])
    (repeat (first | refine ⟨by omega, ?_⟩ | refine ⟨by (unfold drawOk; kernel_rfl), ?_⟩))
    all_goals first | done | rfl | omega | (unfold drawOk; kernel_rfl) | exact ⟨by (unfold drawOk; kernel_rfl), _, rfl, by simp [wkL, res2, res1, res3, PV.weak, PV.el, itL]⟩ | exact ⟨_, rfl, by simp [wkL, res2, res1, res3, PV.weak, PV.el, Sm.pv, itL]⟩ | skip
  | false =>
    rw [if_neg Bool.false_ne_true]
    cases tb with
    | false =>
      rw [if_neg Bool.false_ne_true]
      (refine Fsp.ofs (nx := 0) mixed Tryd.func13 rfl (by simp [Tryd.f13]) ?_; simp -implicitDefEqProofs only [push_cast, Tryd.f13, Sm.pv, seval])
      (repeat (first | refine ⟨by omega, ?_⟩ | refine ⟨by (simp only [List.length_append] at *; omega), ?_⟩ | refine ⟨by (unfold drawOk; kernel_rfl), ?_⟩))
      refine callE_p hbg ?_
      simp -implicitDefEqProofs only [push_cast, seval]
      (repeat (first | refine ⟨by omega, ?_⟩ | refine ⟨by (unfold drawOk; kernel_rfl), ?_⟩))
      all_goals first | done | rfl | omega | (unfold drawOk; kernel_rfl) | exact ⟨by (unfold drawOk; kernel_rfl), _, rfl, by simp [wkL, res2, res1, res3, PV.weak, PV.el, itL]⟩ | exact ⟨_, rfl, by simp [wkL, res2, res1, res3, PV.weak, PV.el, Sm.pv, itL]⟩ | skip
    | true =>
      rw [if_pos rfl, runS]
      simp only
      have hrq := requests_fs tO tr
      (refine Fsp.ofs (nx := 0) mixed Tryd.func13 rfl (by simp [Tryd.f13]) ?_; simp -implicitDefEqProofs only [push_cast, Tryd.f13, Sm.pv, seval])
      (repeat (first | refine ⟨by omega, ?_⟩ | refine ⟨by (simp only [List.length_append] at *; omega), ?_⟩ | refine ⟨by (unfold drawOk; kernel_rfl), ?_⟩))
      refine callE_p hbg ?_
      simp -implicitDefEqProofs only [push_cast, seval]
      refine callE_p hrq ?_
      simp -implicitDefEqProofs only [push_cast, seval]
      have hval := rdsB_val (o := tO) (s := tr) (by omega)
      refine PWP.weak (T := feedT td tO tr []) ?_ (PWP.rangeFunc (α := Bx) mixed (k := 4) (e0 := 0) (fun pre => feedT td tO tr (pre.map Subtype.val)) (fun pre => feedU td tO tr (pre.map Subtype.val)) (fun pre => (pre.map Subtype.val).all (rgood tr) = true) (fun pre => ∃ pre' x, pre.map Subtype.val = pre' ++ [x] ∧ pre'.all (rgood tr) = true ∧ rgood tr x = false) (rdsB tO tr)
        (fun x => #[.int .i64 (x.1.1 : Int), .int .i64 (x.1.2 : Int)]) (fun x => feedF x.1) (fun x => feedX x.1) (tr.length + 1) (by omega) (E := feedE tO tr) (fun _ => rfl) (fun _ => rfl) (fun _ => rfl) (fun _ => rfl) (feedE_keep tO tr) ?ho (fun _ => feedT_rows _ _ _ _) (fun _ => feedT_rows _ _ _ _) rfl ?hpc (enters_of Tryd.func48 (by kernel_rfl) rfl)
        (fun _ => rfl) (fun x t h => by simpa [feedF] using h) ?hX ?hA (fun h w lb hH hgl hls hlr => req_stops hgl (by omega) hls hlr w hH) rfl (by kernel_rfl) ?hB ?hQ1 ?hQ2)
      case ho =>
        intro pre i hi
        rcases i with _ | _ | _ | _ | i <;> first | (exfalso; omega) | simp [feedT, PS.obj, lkp]
      case hpc =>
        intro p hp g v r
        simp at hp
        rcases hp with rfl | rfl <;> exact r.loc_inv
      case hX =>
        rintro ⟨x, hx⟩ g t ht h
        have ht' : 69 ≤ t.size := ht
        exact rel_set (rel_set (rel_set (rel_set h (by omega) (.pure _ _ (.int _ _))) (by simp; omega) (.pure _ _ (.int _ _))) (by simp; omega) (.pure _ _ (.int _ _))) (by simp; omega) (.pure _ _ (.int _ _))
      case hA =>
        rintro t l ⟨x, hx⟩ W K ht hK
        have ht' : 69 ≤ t.size := ht
        rw [show (#[(29 : Tmp), 30].zip #[Value.int .i64 (x.1 : Int), Value.int .i64 (x.2 : Int)]).foldl (fun t (p, v) => t.setIfInBounds p v) t = (t.setIfInBounds 29 (.int .i64 x.1)).setIfInBounds 30 (.int .i64 x.2) from by first | rfl | simp | simp [Array.zip, Array.zipWith] | (rw [← Array.foldl_toList]; simp)]
        refine wpIn_seq (asg_round (v := .int .i64 x.1) ?_ (asg_round (v := .int .i64 x.2) ?_ hK))
        · simp [Act.eval, show 29 < t.size by omega, Array.getElem?_setIfInBounds]
        · simp [Act.eval, show 30 < t.size by omega, Array.getElem?_setIfInBounds]
      case hB =>
        rintro pre ⟨x, hx1, hx2⟩ hG hlen
        have hlen' : (pre.map Subtype.val).length ≤ 900000 := by rw [List.length_map]; omega
        have hmap : (pre ++ [(⟨x, hx1, hx2⟩ : Bx)]).map Subtype.val = pre.map Subtype.val ++ [x] := by simp
        unfold rfK
        simp only [hmap]
        generalize pre.map Subtype.val = pre at *
        simp only [feedT, feedX, feedE, List.cons_append, List.nil_append]
        cases h1 : ((x.2 : Int) == 0)
        · have h1' : x.2 ≠ 0 := by simp at h1; omega
          cases h2 : decide ((tr.length : Int) < (x.1 : Int) + (x.2 : Int))
          · have h2' : x.1 + x.2 ≤ tr.length := by simp at h2; omega
            have hgx := rgood_of h1' h2'
            have hpl : (rpiece tr x).length = x.2 := by simp [rpiece]; omega
            have hit := item_fs tO (rpiece tr x) (by omega) (by omega)
            have hw : IntKind.i64.wrap ((x.1 : Int) + (x.2 : Int)) = ((x.1 + x.2 : Nat) : Int) := by (rw [wrap_i64_id (by omega) (by omega)]; rfl)
            have hsn := ritems_sn tO tr pre x
            have hdn := rdone_sn x pre
            have hrp : List.take (x.1 + x.2 - x.1) (List.drop x.1 tr) = rpiece tr x := by rw [rpiece, show x.1 + x.2 - x.1 = x.2 by omega]
            obtain ⟨e, he⟩ : ∃ e, e = x.1 + x.2 := ⟨_, rfl⟩
            rw [← he] at hw hrp h2' hdn
            have hG2 : (pre ++ [x]).all (rgood tr) = true := by rw [List.all_append, hG]; simp [hgx]
            generalize rpiece tr x = pc at *
            generalize itemOf tO pc = it at *
            simp only [It.pv] at hit hsn
            have h2e : decide ((tr.length : Int) < (e : Int)) = false := by simp; omega
            simp -implicitDefEqProofs only [push_cast, h1, hw, h2e, hrp, itL_length, ritems_length, seval]
            (repeat (first | refine ⟨by omega, ?_⟩ | refine ⟨by (simp only [List.length_append] at *; omega), ?_⟩ | refine ⟨by (unfold drawOk; kernel_rfl), ?_⟩))
            refine callE_p hit ?_
            simp -implicitDefEqProofs only [push_cast, h1, hw, h2e, hrp, itL_length, ritems_length, seval]
            (repeat (first | refine ⟨by omega, ?_⟩ | refine ⟨by (simp only [List.length_append] at *; omega), ?_⟩ | refine ⟨by (unfold drawOk; kernel_rfl), ?_⟩))
            skip
            first | refine ⟨hG2, ?_⟩ | skip
            (simp only [feedT, hsn, hdn]; exact Wk.by _ _ _ [(0, 0), (1, 1), (2, 2), (3, 3)] [(50, 152)] [] (by simp) (by simp [wkV, PV.el, PV.weak, PS.get, PS.obj, PS.lv, lkp_hit, lkp_miss, lkp_nil, lko, wkL, wkC, res1]) (by simp [PS.get, PS.obj, PS.lv, lkp_hit, lkp_miss, lkp_nil, lko, wkL, wkC, PV.weak, wkL, wkC, res1]) (by simp [PS.get, PS.obj, PS.lv, lkp_hit, lkp_miss, lkp_nil, lko]) (by rfl) (by rfl) (by simp [lko]) (by simp) (by simp) (by simp) (fun i hi => by rcases i with _ | _ | _ | _ | i <;> first | rfl | (exfalso; omega)))
          · have h2' : ¬ x.1 + x.2 ≤ tr.length := by simp at h2; omega
            have hgx : rgood tr x = false := by simp [rgood, h2']
            have hw : IntKind.i64.wrap ((x.1 : Int) + (x.2 : Int)) = (x.1 : Int) + (x.2 : Int) := wrap_i64_id (by omega) (by omega)
            have hud : udead td (pre ++ [x]) = td := by rw [udead_sn]; simp [h1']
            simp -implicitDefEqProofs only [push_cast, h1, hw, h2, seval]
            skip
            refine ⟨⟨pre, x, rfl, hG, hgx⟩, ?_⟩
            (simp only [feedT, feedU, List.dropLast_concat, hud]; exact Wk.by _ _ _ [(0, 0), (1, 1), (2, 2), (3, 3)] [(50, 50)] [] (by simp) (by simp [wkV, PV.el, PV.weak, PS.get, PS.obj, PS.lv, lkp_hit, lkp_miss, lkp_nil, lko, wkL, wkC, res1]) (by simp [PS.get, PS.obj, PS.lv, lkp_hit, lkp_miss, lkp_nil, lko, wkL, wkC, PV.weak, wkL, wkC, res1]) (by simp [PS.get, PS.obj, PS.lv, lkp_hit, lkp_miss, lkp_nil, lko]) (by rfl) (by rfl) (by simp [lko]) (by simp) (by simp) (by simp) (fun i hi => by rcases i with _ | _ | _ | _ | i <;> first | rfl | (exfalso; omega)))
        · have h1' : x.2 = 0 := by simp at h1; omega
          have hgx : rgood tr x = false := by simp [rgood, h1']
          have hud : udead td (pre ++ [x]) = true := by rw [udead_sn]; simp [h1']
          simp -implicitDefEqProofs only [push_cast, h1, seval]
          skip
          refine ⟨⟨pre, x, rfl, hG, hgx⟩, ?_⟩
          (simp only [feedT, feedU, List.dropLast_concat, hud]; exact Wk.by _ _ _ [(0, 0), (1, 1), (2, 2), (3, 3)] [(50, 50)] [] (by simp) (by simp [wkV, PV.el, PV.weak, PS.get, PS.obj, PS.lv, lkp_hit, lkp_miss, lkp_nil, lko, wkL, wkC, res1]) (by simp [PS.get, PS.obj, PS.lv, lkp_hit, lkp_miss, lkp_nil, lko, wkL, wkC, PV.weak, wkL, wkC, res1]) (by simp [PS.get, PS.obj, PS.lv, lkp_hit, lkp_miss, lkp_nil, lko]) (by rfl) (by rfl) (by simp [lko]) (by simp) (by simp) (by simp) (fun i hi => by rcases i with _ | _ | _ | _ | i <;> first | rfl | (exfalso; omega)))
      case hQ1 =>
        simp only [hval]
        intro hG
        obtain ⟨c1, c2⟩ := cut_all hG
        have hle := rdone_le _ hG
        rw [c1, c2]
        generalize rdsAll tO tr = full at *
        have hdr : List.take (tr.length - rdone full) (List.drop (rdone full) tr) = tr.drop (rdone full) := List.take_of_length_le (by simp)
        simp only [feedT, feedE, Bool.or_false]
        cases td
        · simp -implicitDefEqProofs only [push_cast, itL_length, ritems_length, hdr, seval]
          (repeat (first | refine ⟨by omega, ?_⟩ | refine ⟨by (simp only [List.length_append] at *; omega), ?_⟩ | refine ⟨by (unfold drawOk; kernel_rfl), ?_⟩))
          skip
          (repeat (first | refine ⟨by omega, ?_⟩ | refine ⟨by (unfold drawOk; kernel_rfl), ?_⟩))
          all_goals first | done | rfl | omega | (unfold drawOk; kernel_rfl) | exact ⟨by (unfold drawOk; kernel_rfl), _, rfl, by simp [wkL, res2, res1, res3, PV.weak, PV.el, itL]⟩ | exact ⟨_, rfl, by simp [wkL, res2, res1, res3, PV.weak, PV.el, Sm.pv, itL]⟩ | skip
        · simp -implicitDefEqProofs only [push_cast, itL_length, ritems_length, hdr, seval]
          (repeat (first | refine ⟨by omega, ?_⟩ | refine ⟨by (simp only [List.length_append] at *; omega), ?_⟩ | refine ⟨by (unfold drawOk; kernel_rfl), ?_⟩))
          skip
          (repeat (first | refine ⟨by omega, ?_⟩ | refine ⟨by (unfold drawOk; kernel_rfl), ?_⟩))
          all_goals first | done | rfl | omega | (unfold drawOk; kernel_rfl) | exact ⟨by (unfold drawOk; kernel_rfl), _, rfl, by simp [wkL, res2, res1, res3, PV.weak, PV.el, itL]⟩ | exact ⟨_, rfl, by simp [wkL, res2, res1, res3, PV.weak, PV.el, Sm.pv, itL]⟩ | skip
      case hQ2 =>
        rintro pre hp ⟨pre', x, he, hG, hx⟩
        have hp' : pre' ++ [x] <+: rdsAll tO tr := by
          rw [← he, ← hval]
          obtain ⟨r, hr⟩ := hp
          exact ⟨r.map Subtype.val, by rw [← hr, List.map_append]⟩
        rw [he]
        obtain ⟨c1, c2⟩ := cut_at hp' hG hx
        have hle := rdone_le _ hG
        rw [c1, c2]
        have hdr : List.take (tr.length - rdone pre') (List.drop (rdone pre') tr) = tr.drop (rdone pre') := List.take_of_length_le (by simp)
        have hud : udead td (pre' ++ [x]) = (td || isNo (some x)) := by rw [udead_sn]; rfl
        simp only [feedU, feedT, feedE, List.dropLast_concat, hud]
        cases (td || isNo (some x))
        · simp -implicitDefEqProofs only [push_cast, itL_length, ritems_length, hdr, seval]
          (repeat (first | refine ⟨by omega, ?_⟩ | refine ⟨by (simp only [List.length_append] at *; omega), ?_⟩ | refine ⟨by (unfold drawOk; kernel_rfl), ?_⟩))
          skip
          (repeat (first | refine ⟨by omega, ?_⟩ | refine ⟨by (unfold drawOk; kernel_rfl), ?_⟩))
          all_goals first | done | rfl | omega | (unfold drawOk; kernel_rfl) | exact ⟨by (unfold drawOk; kernel_rfl), _, rfl, by simp [wkL, res2, res1, res3, PV.weak, PV.el, itL]⟩ | exact ⟨_, rfl, by simp [wkL, res2, res1, res3, PV.weak, PV.el, Sm.pv, itL]⟩ | skip
        · simp -implicitDefEqProofs only [push_cast, itL_length, ritems_length, hdr, seval]
          (repeat (first | refine ⟨by omega, ?_⟩ | refine ⟨by (simp only [List.length_append] at *; omega), ?_⟩ | refine ⟨by (unfold drawOk; kernel_rfl), ?_⟩))
          skip
          (repeat (first | refine ⟨by omega, ?_⟩ | refine ⟨by (unfold drawOk; kernel_rfl), ?_⟩))
          all_goals first | done | rfl | omega | (unfold drawOk; kernel_rfl) | exact ⟨by (unfold drawOk; kernel_rfl), _, rfl, by simp [wkL, res2, res1, res3, PV.weak, PV.el, itL]⟩ | exact ⟨_, rfl, by simp [wkL, res2, res1, res3, PV.weak, PV.el, Sm.pv, itL]⟩ | skip
      (simp only [feedT]; exact Wk.at _ _ _ [(0, 0), (1, 4), (2, 68), (3, 72)] [] [50] (by simp) (by simp [wkV, PV.el, PV.weak, PS.get, PS.obj, PS.lv, lkp_hit, lkp_miss, lkp_nil, lko, wkL, wkC, res1, feedE, itL, ritems, rdone]) (by simp [PS.get, PS.obj, PS.lv, lkp_hit, lkp_miss, lkp_nil, lko, wkL, wkC, PV.weak, wkL, wkC, res1, feedE, itL, ritems, rdone]))

end Go.Proofs.Sh
