/- The library's contract at this program: strings.Join. -/
import Derived.Test.YtoemcdgebkkcoaaGreatDoorShTypes
import Derived.Test.YtoemcdgebkkcoaaGreatDoorPxC5
import Derived.Test.YtoemcdgebkkcoaaGreatDoorProg
import Derived.KernelRfl
import Derived.Shelf.Strings.OnBuilder
import Derived.Test.YtoemcdgebkkcoaaGreatDoorPvYa
import Derived.Test.YtoemcdgebkkcoaaGreatDoorPxS1
import Derived.Test.YtoemcdgebkkcoaaGreatDoorPvFz
import Derived.Test.YtoemcdgebkkcoaaGreatDoorLkNumd
namespace Go.Proofs
open Go.Shelf
def Tryz.laysN156_ren : Go.Shelf.Ren := ⟨fun | 156 => 21 | 165 => 43 | 166 => 44 | 169 => 45 | 240 => 77 | 241 => 78 | 276 => 96 | 277 => 97 | n => n, fun | 31 => 28 | 9 => 9 | 3 => 3 | 4 => 4 | 0 => 0 | 20 => 20 | 72 => 89 | 76 => 93 | 70 => 87 | 37 => 23 | 75 => 92 | 127 => 139 | 164 => 159 | 5 => 5 | 80 => 95 | n => n, fun | n => n⟩
theorem Tryz.laysN156 : Go.Proofs.Lays.n156 Tryz.prog Tryz.laysN156_ren := {
 mixed := by kernel_rfl
 f156 := Tryz.func21.trans (congrArg some (by kernel_rfl))
 f165 := Tryz.func43.trans (congrArg some (by kernel_rfl))
 f166 := Tryz.func44.trans (congrArg some (by kernel_rfl))
 f169 := Tryz.func45.trans (congrArg some (by kernel_rfl))
 f240 := Tryz.func77.trans (congrArg some (by kernel_rfl))
 f241 := Tryz.func78.trans (congrArg some (by kernel_rfl))
 f276 := Tryz.func96.trans (congrArg some (by kernel_rfl))
 f277 := Tryz.func97.trans (congrArg some (by kernel_rfl))
 t0 := Tryz.underlying0
 a0 := Tryz.isAgg0
 z0 := Tryz.sizeOf0
 v0 := Tryz.zeroValue0
 t3 := Tryz.underlying3
 a3 := Tryz.isAgg3
 z3 := Tryz.sizeOf3
 v3 := Tryz.zeroValue3
 t4 := Tryz.underlying4
 a4 := Tryz.isAgg4
 z4 := Tryz.sizeOf4
 v4 := Tryz.zeroValue4
 t9 := Tryz.underlying9
 a9 := Tryz.isAgg9
 z9 := Tryz.sizeOf9
 v9 := Tryz.zeroValue9
 t20 := Tryz.underlying20
 a20 := Tryz.isAgg20
 z20 := Tryz.sizeOf20
 v20 := Tryz.zeroValue20
 t31 := Tryz.underlying28
 a31 := Tryz.isAgg28
 z31 := Tryz.sizeOf28
 v31 := Tryz.zeroValue28
 t37 := Tryz.underlying23
 a37 := Tryz.isAgg23
 z37 := Tryz.sizeOf23
 v37 := Tryz.zeroValue23
 t70 := Tryz.underlying87
 a70 := Tryz.isAgg87
 z70 := Tryz.sizeOf87
 v70 := Tryz.zeroValue87
 t72 := Tryz.underlying89
 a72 := Tryz.isAgg89
 z72 := Tryz.sizeOf89
 v72 := Tryz.zeroValue89
 t75 := Tryz.underlying92
 a75 := Tryz.isAgg92
 z75 := Tryz.sizeOf92
 v75 := Tryz.zeroValue92
 t76 := Tryz.underlying93
 a76 := Tryz.isAgg93
 z76 := Tryz.sizeOf93
 v76 := Tryz.zeroValue93
 t127 := Tryz.underlying139
 a127 := Tryz.isAgg139
 z127 := Tryz.sizeOf139
 v127 := Tryz.zeroValue139
 t164 := Tryz.underlying159
 a164 := Tryz.isAgg159
 z164 := Tryz.sizeOf159
 v164 := Tryz.zeroValue159 }
namespace Sh
open Go.Pv
open Go.RowKit (Below)
theorem bld_extra : Go.Proofs.Builder.Extra Tryz.prog Tryz.laysN156_ren := { sizeBuilder := by kernel_rfl, liesBuilder := by kernel_rfl, t5 := Tryz.underlying5, a5 := Tryz.isAgg5, z5 := Tryz.sizeOf5, v5 := Tryz.zeroValue5, infoByte := by kernel_rfl, cellsByte := by kernel_rfl, sizeByte := by kernel_rfl, neB5 := by decide }
theorem join_fs (L : List Bys) (s : Bys) (hl : L.length ≤ 1000000) (h : (Lib.join L s).length ≤ 140737488355328) : Fsp Tryz.prog 21 [] 0 [.sl 1 (sts L), .str s] [] 0 (.str (Lib.join L s)) := by
 refine Fsp.of_below ⟨Tryz.f21, Tryz.func21, by kernel_rfl, by kernel_rfl⟩ ?_
 intro g w vs hI hsz hargs
 rcases vs with ⟨_ | ⟨a, _ | ⟨b, _ | ⟨c, r⟩⟩⟩⟩ <;> simp at hsz
 have ha := (hargs 0 a _ rfl rfl).sl_inv
 have hb := (hargs 1 b _ rfl rfl).str_inv
 subst hb
 cases L with
 | nil =>
  have key : ∀ (q : Option Addr) (c : Nat), Calls Tryz.prog 21 #[.slice q 0 c, .string ⟨⟨s⟩⟩] w (fun e w' => ∃ v, e = .returned v ∧ PRel g.h v (.str (Lib.join [] s)) ∧ Below w.heap.size w w') := fun q c =>
   (Any.strings_Join_none Tryz.laysN156 bld_extra q c ⟨⟨s⟩⟩ w).mono fun e w' h => ⟨_, h.1, .str _, h.2 ▸ Go.RowKit.Below.refl _ _⟩
  generalize hes : sts [] = es at ha
  cases ha with
  | slnil => exact key _ _
  | slx a => exact key _ _
  | sl b off n cap _ _ vals hn hc hm hsz hh ho hp =>
   rw [← hes] at hn
   subst hn
   exact key _ _
 | cons x r =>
  generalize hes : sts (x :: r) = es at ha
  cases ha with
  | slnil => cases hes
  | slx a => cases hes
  | sl b off n cap _ _ vals hn hc hm hsz hh ho hp =>
   subst hes
   have hfl : (sts (x :: r)).flatMap PV.cells = sts (x :: r) := by
    generalize x :: r = L
    induction L with
    | nil => rfl
    | cons y L ih => show PV.cells (.str y) ++ (sts L).flatMap PV.cells = _; rw [ih]; rfl
   rw [hfl] at hh ho hp
   generalize hL : x :: r = L at *
   have h0 : 0 < (sts L).length := by rw [← hL]; exact Nat.succ_pos _
   have hcell : ∀ (j : Nat) (y : Bys), L[j]? = some y → w.cell? ⟨b, off + j, none⟩ = some (.string ⟨⟨y⟩⟩) := by
    intro j y hj
    have hjl : j < L.length := by obtain ⟨hh, _⟩ := List.getElem?_eq_some_iff.1 hj; exact hh
    have hjs : j < (sts L).length := by rw [sts_length]; exact hjl
    have h1 := wcell_cell (hI.hw _ _ _ (hh j hjs)) (ho j hjs)
    have h2 := hp j (.str y) (by rw [sts, List.getElem?_map, hj]; rfl)
    generalize vals j = v at h1 h2
    cases h2
    exact h1
   have hbk : b < w.heap.size := wcell_lt (hI.hw _ _ _ (hh 0 h0))
   have hJ := Any.strings_Join Tryz.laysN156 bld_extra b off cap (L.map fun y => (⟨⟨y⟩⟩ : ByteArray)) ⟨⟨s⟩⟩ w
    (fun j y hj => by
      rw [List.getElem?_map] at hj
      obtain ⟨z, hz, rfl⟩ := Option.map_eq_some_iff.1 hj
      exact hcell j z hz) hbk (by rw [List.length_map]; omega) (by rw [List.length_map]; rw [sts_length] at hn; omega)
    (by rw [List.map_map]; simpa [Function.comp_def] using h)
   rw [List.length_map, List.map_map] at hJ
   rw [sts_length] at hn
   subst hn
   refine hJ.mono fun e w' h => ⟨_, h.1, ?_, h.2⟩
   simp only [Function.comp_def, List.map_id']
   exact .str _
end Sh
end Go.Proofs
set_option maxRecDepth 100000
set_option linter.unusedSimpArgs false
set_option linter.unusedVariables false
namespace Go.Proofs.Sh
open Go.Pv
open Lk (En Pc)
def rqL (l : List Rq) : List PV := l.map Rq.pv
theorem rqL_length (l : List Rq) : (rqL l).length = l.length := List.length_map _
def rq0 : Rq := ⟨0, [], [], []⟩
theorem rq_at {l : List Rq} {i : Nat} (h : i < l.length) : (rqL l).getD i PV.any = (l.getD i rq0).pv := by
 rw [rqL, List.getD_eq_getElem?_getD, List.getElem?_map, List.getElem?_eq_getElem h, List.getD_eq_getElem?_getD, List.getElem?_eq_getElem h]; rfl
theorem rq_drop {l : List Rq} {i : Nat} (h : i < l.length) : l.drop i = l.getD i rq0 :: l.drop (i + 1) := by
 rw [List.getD_eq_getElem?_getD, List.getElem?_eq_getElem h]; exact List.drop_eq_getElem_cons h
def rqBig (r : Rq) : Bool := decide ((20 : Int) < r.N.length) || decide ((60 : Int) < r.B.length) || decide ((40 : Int) < r.L.length)
def fewB (l : List Rq) (rest : Bys) : Bool := !(l.any rqBig) && (decide ((l.length : Int) ≤ 12) && decide ((rest.length : Int) ≤ 100))
structure FwA (l : List Rq) where
 i : Nat
 h : i ≤ l.length
 e : (l.drop i).any rqBig = l.any rqBig
def FwA.st (l : List Rq) (rest : Bys) (a : FwA l) : PS := { n := 38, env := [(9, .int .i64 a.i), (8, .int .i64 l.length), (7, .sl 4 (rqL l)), (4, .bool false), (1, .str rest), (0, .sl 4 (rqL l))], objs := [], live := [], nxt := 60 }
theorem few_fs (l : List Rq) (rest : Bys) (hl : l.length ≤ 1000000000000000) : Fsp Tryz.prog 7 [] 0 [.sl 4 (rqL l), .str rest] [] 0 (.bool (fewB l rest)) := by
 generalize hR : fewB l rest = R
 unfold fewB at hR
 (refine Fsp.ofs (nx := 0) mixed Tryz.func7 rfl (by simp [Tryz.f7]) ?_; simp -implicitDefEqProofs only [push_cast, Tryz.f7, seval])
 simp -implicitDefEqProofs only [push_cast, rqL_length, seval]
 refine loopC_of (α := FwA l) (FwA.st l rest) (fun a => l.length - a.i) ⟨0, by omega, rfl⟩ ?_ ?_
 ·(simp only [FwA.st]; exact Wk.at _ _ _ [] [] [] (by simp) (by simp [wkV, PV.el, PV.weak, PS.get, PS.obj, PS.lv, lkp_hit, lkp_miss, lkp_nil, lko, wkL, wkC, res1]) (by simp [PS.get, PS.obj, PS.lv, lkp_hit, lkp_miss, lkp_nil, lko, wkL, wkC, PV.weak, wkL, wkC, res1]))
 ·rintro ⟨i, hi, he⟩
  simp only [FwA.st]
  simp -implicitDefEqProofs only [push_cast, rqL_length, seval]
  refine condC_split (fun g1 => ?_) (fun g1 => ?_)
  ·have hlt : i < l.length := by simp at g1; omega
   have hwi : IntKind.i64.wrap ((i : Int) + 1) = ((i + 1 : Nat) : Int) := by (rw [wrap_i64_id (by omega) (by omega)]; rfl)
   have hg := rq_at hlt
   rw [rq_drop hlt, List.any_cons] at he
   generalize l.getD i rq0 = r at *
   simp only [Rq.pv] at hg
   simp -implicitDefEqProofs only [push_cast, hg, rqL_length, seval]
   (repeat refine and_o ?_)
   refine condC_split (fun g2 => ?_) (fun g2 => ?_)
   ·have hb : rqBig r = true := by unfold rqBig; simpa [ints] using g2
    rw [hb, Bool.true_or] at he
    rw [← he] at hR
    subst hR
    simp -implicitDefEqProofs only [push_cast, seval]
    all_goals (first | done | rfl | exact ⟨_, rfl, by simp [wkL, res2, res1, PV.weak, PV.el]⟩ | (simp [wkL, res2, res1, PV.weak, PV.el]; done))
   ·have hb : rqBig r = false := by unfold rqBig; simpa [ints] using g2
    rw [hb, Bool.false_or] at he
    simp -implicitDefEqProofs only [push_cast, hwi, seval]
    refine ⟨⟨i + 1, hlt, he⟩, by simp only; omega, ?_⟩
    (simp only [FwA.st]; exact Wk.at _ _ _ [] [] [] (by simp) (by simp [wkV, PV.el, PV.weak, PS.get, PS.obj, PS.lv, lkp_hit, lkp_miss, lkp_nil, lko, wkL, wkC, res1]) (by simp [PS.get, PS.obj, PS.lv, lkp_hit, lkp_miss, lkp_nil, lko, wkL, wkC, PV.weak, wkL, wkC, res1]))
  ·have hie : i = l.length := by simp at g1; omega
   subst hie
   rw [List.drop_length] at he
   rw [← he] at hR
   subst hR
   simp -implicitDefEqProofs only [push_cast, rqL_length, seval]
   all_goals (first | done | rfl | exact ⟨_, rfl, by simp [wkL, res2, res1, PV.weak, PV.el]⟩ | (simp [wkL, res2, res1, PV.weak, PV.el]; done))
theorem packS_len (o : Int) (r : Rq) : (packS o r).1.length ≤ 65536 := by
 unfold packS
 split
 ·split
  ·simp
  ·split
   ·simp
   ·split
    ·simp
    ·rename_i f e1 e2 h
     have h' : ¬ ((65536 : Int) < ((fmt o f r.fd).length : Int) + 4) := by simpa using h
     simp only [hd, List.length_append, encB_length]
     omega
 ·simp
def asksB (o : Int) (l : List Rq) : Bys := (l.map fun r => (packS o r).1).flatten
theorem asksB_len (o : Int) : ∀ l : List Rq, (asksB o l).length ≤ 65536 * l.length
 | [] => by simp [asksB]
 | r :: l => by
  have := asksB_len o l
  have h := packS_len o r
  unfold asksB at *
  rw [List.map_cons, List.flatten_cons, List.length_append, List.length_cons]
  omega
structure AsA (l : List Rq) where
 i : Nat
 h : i ≤ l.length
def AsA.st (o : Int) (l : List Rq) (rest : Bys) (a : AsA l) : PS := { n := 33, env := [(16, .int .i64 a.i), (15, .int .i64 l.length), (14, .sl 4 (rqL l)), (7, .str (beg o ++ asksB o (l.take a.i))), (6, .str []), (2, .str rest), (0, .int .i64 o)], objs := [], live := [], nxt := 60 }
theorem asks_fs {o : Int} (ho : isOrder o) (l : List Rq) (rest : Bys) (hl : l.length ≤ 12) (hr : rest.length ≤ 100) (hF : ∀ x ∈ l, x.Few) : Fsp Tryz.prog 9 [] 0 [.int .i64 o, .sl 4 (rqL l), .str rest] [] 0 (.str (beg o ++ asksB o l ++ rest)) := by
 have hb := begin_fs ho
 have hbl := beg_length o
 have h0 : beg o ++ asksB o (l.take 0) = beg o := by simp [asksB]
 (refine Fsp.ofs (nx := 0) mixed Tryz.func9 rfl (by simp [Tryz.f9]) ?_; simp -implicitDefEqProofs only [push_cast, Tryz.f9, seval])
 refine callE_p hb ?_
 simp -implicitDefEqProofs only [push_cast, rqL_length, seval]
 refine loopC_of (α := AsA l) (AsA.st o l rest) (fun a => l.length - a.i) ⟨0, by omega⟩ ?_ ?_
 ·(simp only [AsA.st, h0]; exact Wk.at _ _ _ [] [] [] (by simp) (by simp [wkV, PV.el, PV.weak, PS.get, PS.obj, PS.lv, lkp_hit, lkp_miss, lkp_nil, lko, wkL, wkC, res1]) (by simp [PS.get, PS.obj, PS.lv, lkp_hit, lkp_miss, lkp_nil, lko, wkL, wkC, PV.weak, wkL, wkC, res1]))
 ·rintro ⟨i, hi⟩
  simp only [AsA.st]
  simp -implicitDefEqProofs only [push_cast, rqL_length, seval]
  refine condC_split (fun g1 => ?_) (fun g1 => ?_)
  ·have hlt : i < l.length := by simp at g1; omega
   have hwi : IntKind.i64.wrap ((i : Int) + 1) = ((i + 1 : Nat) : Int) := by (rw [wrap_i64_id (by omega) (by omega)]; rfl)
   have hg := rq_at hlt
   have hm : l.getD i rq0 ∈ l := by rw [List.getD_eq_getElem?_getD, List.getElem?_eq_getElem hlt]; exact List.getElem_mem hlt
   have hP := packPut_fs o _ (hF _ hm)
   have hS : asksB o (l.take (i + 1)) = asksB o (l.take i) ++ (packS o (l.getD i rq0)).1 := by
    unfold asksB
    rw [List.take_succ_eq_append_getElem hlt, List.map_append, List.flatten_append, List.getD_eq_getElem?_getD, List.getElem?_eq_getElem hlt]
    simp
   have hA := asksB_len o (l.take i)
   have hAl : (l.take i).length ≤ 12 := by rw [List.length_take]; omega
   have hpl := packS_len o (l.getD i rq0)
   unfold packR at hP
   generalize l.getD i rq0 = r at *
   generalize hp1 : (packS o r).1 = p1 at *
   generalize (packS o r).2 = p2 at *
   have hal : (beg o ++ asksB o (l.take i)).length + p1.length ≤ 1000000 := by rw [List.length_append, hbl]; omega
   have hB : beg o ++ asksB o (l.take (i + 1)) = beg o ++ asksB o (l.take i) ++ p1 := by rw [hS, List.append_assoc]
   generalize beg o ++ asksB o (l.take i) = q at *
   simp only [Rq.pv] at hg hP
   simp -implicitDefEqProofs only [push_cast, hg, rqL_length, seval]
   (repeat refine and_o ?_)
   refine callE_p hP ?_
   simp -implicitDefEqProofs only [push_cast, hwi, seval]
   refine ⟨by omega, ⟨i + 1, hlt⟩, by simp only; omega, ?_⟩
   (simp only [AsA.st, hB]; exact Wk.at _ _ _ [] [] [] (by simp) (by simp [wkV, PV.el, PV.weak, PS.get, PS.obj, PS.lv, lkp_hit, lkp_miss, lkp_nil, lko, wkL, wkC, res1]) (by simp [PS.get, PS.obj, PS.lv, lkp_hit, lkp_miss, lkp_nil, lko, wkL, wkC, PV.weak, wkL, wkC, res1]))
  ·have hie : i = l.length := by simp at g1; omega
   subst hie
   rw [List.take_length]
   have hA := asksB_len o l
   have hal : (beg o ++ asksB o l).length + rest.length ≤ 1000000 := by rw [List.length_append, hbl]; omega
   simp -implicitDefEqProofs only [push_cast, rqL_length, seval]
   omega
end Go.Proofs.Sh
set_option maxRecDepth 100000
set_option linter.unusedSimpArgs false
set_option linter.unusedVariables false
namespace Go.Proofs.Sh
open Go.Pv
open Lk (En Pc)
theorem lenN_app {o : Int} {b : Bys} (h : 4 ≤ b.length) (x : Bys) : lenN o (b ++ x) = lenN o b := by
 unfold lenN
 rw [List.drop_append_of_le_length (by omega), List.take_append_of_le_length (by rw [List.length_drop]; omega)]
theorem reqN_app {o : Int} {b : Bys} (h : 4 ≤ b.length) (x : Bys) : reqN o (b ++ x) = reqN o b := by
 unfold reqN
 rw [lenN_app h, if_neg (show ¬ (b ++ x).length < 4 by rw [List.length_append]; omega), if_neg (show ¬ b.length < 4 by omega)]
theorem rqs_succ (o : Int) : ∀ (f : Nat) (b : Bys), b.length ≤ f → rqs o (f + 1) b = rqs o f b
 | 0, b, h => by
  have hb : b = [] := List.length_eq_zero_iff.1 (by omega)
  subst hb
  rw [rqs, rqs]
  simp [reqN]
 | f + 1, b, h => by
  rw [rqs]
  conv => rhs; rw [rqs]
  by_cases h1 : reqN o b < 0
  ·rw [if_pos h1, if_pos h1]
  ·rw [if_neg h1, if_neg h1]
   by_cases h2 : reqN o b = 0 ∨ (b.length : Int) < reqN o b
   ·rw [if_pos h2, if_pos h2]
   ·obtain ⟨n, hn, h4, hl⟩ := reqN_big h1 h2
    rw [if_neg h2, if_neg h2, hn, Int.toNat_natCast, rqs_succ o f (b.drop n) (by rw [List.length_drop]; omega)]
theorem rqs_len (o : Int) (b : Bys) : ∀ f, b.length ≤ f → rqs o f b = rqs o b.length b := by
 intro f h
 induction f with
 | zero => rw [show b.length = 0 by omega]
 | succ f ih =>
  by_cases hb : b.length ≤ f
  ·rw [rqs_succ o f b hb, ih hb]
  ·rw [show f + 1 = b.length by omega]
def rqT (o : Int) (b : Bys) : List Bys × Bool := rqs o b.length b
theorem rqT_st (o : Int) (b : Bys) : rqT o b = if reqN o b < 0 then ([], true) else if reqN o b = 0 ∨ (b.length : Int) < reqN o b then ([], false) else (b.take (reqN o b).toNat :: (rqT o (b.drop (reqN o b).toNat)).1, (rqT o (b.drop (reqN o b).toNat)).2) := by
 unfold rqT
 rw [← rqs_succ o b.length b (Nat.le_refl _), rqs, rqs_len o (b.drop (reqN o b).toNat) b.length (by rw [List.length_drop]; omega)]
def rq (o : Int) (bg : Bool) (b : Bys) : List Bys × Bool := if bg = true then rqT o b else reqs o b
theorem reqs_st (o : Int) (b : Bys) : reqs o b = if b.length < 4 then ([], false) else if (b.take 4 != beg o) = true then ([], true) else (beg o :: (rqT o (b.drop 4)).1, (rqT o (b.drop 4)).2) := by
 unfold reqs rqT
 rw [rqs_len o (b.drop 4) b.length (by rw [List.length_drop]; omega)]
theorem wh_yes {h : Hf} (ho : isOrder h.o) (hw : h.wh.2.1 = true) (x : Bys) : rq h.o h.bg (h.nr ++ x) = (h.nr.take h.wh.1.toNat :: (rq h.o true (h.nr.drop h.wh.1.toNat ++ x)).1, (rq h.o true (h.nr.drop h.wh.1.toNat ++ x)).2) := by
 obtain ⟨n, hn, h4, hl, h6, hd⟩ := wh_n ho hw
 have hO : isOrd h.o = true := by rcases ho with h | h <;> rw [h] <;> rfl
 obtain ⟨o, bg, s, l, e, nr, fr, out, dd⟩ := h
 simp only at *
 rw [hn, Int.toNat_natCast]
 have htk : (nr ++ x).take n = nr.take n := List.take_append_of_le_length hl
 have hdr : (nr ++ x).drop n = nr.drop n ++ x := List.drop_append_of_le_length hl
 have hal : nr.length ≤ (nr ++ x).length := by rw [List.length_append]; omega
 unfold rq
 cases bg with
 | false =>
  rw [if_neg (by decide), if_pos rfl, reqs_st]
  unfold Hf.wh at hn hd hw
  simp only [Bool.false_eq_true, if_false] at hn hd hw
  rw [if_neg (by simp; omega)] at hn hd hw
  simp only at hn hd hw
  have hn4 : n = 4 := by omega
  subst hn4
  have he : nr.take 4 = beg o := by simpa using hw
  rw [if_neg (by omega), htk, hdr, if_neg (by rw [he]; simp), he]
 | true =>
  rw [if_pos rfl, if_pos rfl, rqT_st, reqN_app (by omega)]
  have hr : reqN o nr = n := by
   unfold Hf.wh at hn hd hw
   simp only [if_true] at hn hd hw
   unfold lenR at hn hd hw
   rw [if_pos hO, if_neg (by omega : ¬ nr.length < 4)] at hn hd hw
   unfold reqN
   rw [if_neg (by omega)]
   by_cases h0 : lenN o nr = 0
   ·rw [if_pos h0] at hw; simp at hw
   ·rw [if_neg h0] at hn hd hw
    by_cases h1 : 16384 < lenN o nr
    ·rw [if_pos h1] at hw; simp at hw
    ·rw [if_neg h1] at hn hd hw
     rw [if_neg (by omega)]
     simpa using hn
  rw [hr, if_neg (by omega), if_neg (by omega), Int.toNat_natCast, htk, hdr]
theorem wh_no {h : Hf} (ho : isOrder h.o) (hd : h.dd = false) (hw : h.wh.2.1 = false) : rq h.o h.bg h.nr = ([], h.wh.2.2) := by
 have hO : isOrd h.o = true := by rcases ho with h | h <;> rw [h] <;> rfl
 obtain ⟨o, bg, s, l, e, nr, fr, out, dd⟩ := h
 simp only at *
 subst hd
 unfold rq
 cases bg with
 | false =>
  unfold Hf.wh at hw ⊢
  simp only [Bool.false_eq_true, if_false] at hw ⊢
  rw [reqs_st]
  by_cases h4 : nr.length < 4
  ·rw [if_pos h4, if_pos (show decide ((nr.length : Int) < 4) = true by simp; omega)]
  ·have h4' : ¬ decide ((nr.length : Int) < 4) = true := by simp; omega
   rw [if_neg h4'] at hw
   rw [if_neg h4, if_neg h4']
   simp only at hw ⊢
   have he : (nr.take 4 != beg o) = true := by simpa using hw
   rw [if_pos he, he]
 | true =>
  unfold Hf.wh at hw ⊢
  simp only [if_true] at hw ⊢
  unfold lenR at hw ⊢
  rw [if_pos hO] at hw ⊢
  rw [rqT_st]
  by_cases h4 : nr.length < 4
  ·have hr : reqN o nr = 0 := by unfold reqN; rw [if_pos h4]
   rw [if_pos h4, hr]
   rfl
  ·rw [if_neg h4] at hw ⊢
   by_cases h0 : lenN o nr = 0
   ·have hr : reqN o nr = -1 := by unfold reqN; rw [if_neg h4, if_pos (.inl h0)]
    rw [if_pos h0, hr]
    rfl
   ·rw [if_neg h0] at hw ⊢
    by_cases h1 : 16384 < lenN o nr
    ·have hr : reqN o nr = -1 := by unfold reqN; rw [if_neg h4, if_pos (.inr h1)]
     rw [if_pos h1, hr]
     rfl
    ·rw [if_neg h1] at hw ⊢
     have hr : reqN o nr = ((4 * lenN o nr : Nat) : Int) := by unfold reqN; rw [if_neg h4, if_neg (by omega)]
     have hw' : ¬ (((4 * lenN o nr : Nat) : Int) ≤ (nr.length : Int)) := by simpa using hw
     rw [hr, if_neg (show ¬ ((4 * lenN o nr : Nat) : Int) < 0 by omega), if_pos (.inr (by omega))]
     rfl
def fdm (p : Cc × En) (L : List Bys) : Cc × En := L.foldl (fun q m => (q.1.put m, q.2.sendE (frame (q.1.sh m)))) p
structure RunIs (h R : Hf) (M : List Bys) : Prop where
 o : R.o = h.o
 l : R.l = h.l
 e : fdm (h.s, h.e) M = (R.s, R.e)
 q : rq h.o h.bg h.nr = (M, R.dd)
 a : R.dd = false → ∀ x, rq h.o h.bg (h.nr ++ x) = (M ++ (rq h.o R.bg (R.nr ++ x)).1, (rq h.o R.bg (R.nr ++ x)).2)
 m : ∀ m ∈ M, 4 ≤ m.length ∧ m.length ≤ 65536
 n : M.flatten.length + R.nr.length = h.nr.length
 k : ∀ r, h.nr.length ≤ r → h.Ok r → R.Ok (r - M.flatten.length)
theorem run_is : ∀ (f : Nat) (h : Hf), isOrder h.o → h.dd = false → h.nr.length < f → ∃ M, RunIs h (Hf.run f h) M
 | 0, h, _, _, hf => absurd hf (Nat.not_lt_zero _)
 | f + 1, h, ho, hd, hf => by
  rw [Hf.run, if_neg (by rw [hd]; decide)]
  cases hw : h.wh.2.1 with
  | false =>
   rw [if_neg (by decide)]
   exact ⟨[], rfl, rfl, rfl, wh_no ho hd hw, fun _ x => by simp, fun m hm => (by cases hm), by simp, fun r _ hk => ⟨hk.o, hk.s, hk.e⟩⟩
  | true =>
   rw [if_pos rfl]
   obtain ⟨n, hn, h4, hl, h6, hdd⟩ := wh_n ho hw
   have hy := wh_yes ho hw
   rw [hn, Int.toNat_natCast] at hy
   rw [hn, Int.toNat_natCast, hdd]
   have hdl : (h.nr.drop n).length = h.nr.length - n := List.length_drop
   have htl : (h.nr.take n).length = n := by rw [List.length_take]; omega
   obtain ⟨M, H⟩ := run_is f (Hf.stp { h with dd := false, bg := true, nr := h.nr.drop n } (h.nr.take n)) ho rfl (by show (h.nr.drop n).length < f; omega)
   have q0 := hy []
   rw [List.append_nil, List.append_nil] at q0
   have Hq : rq h.o true (h.nr.drop n) = (M, _) := H.q
   rw [Hq] at q0
   refine ⟨h.nr.take n :: M, H.o, H.l, H.e, q0, fun hR x => ?_, ?_, ?_, ?_⟩
   ·have Ha : rq h.o true (h.nr.drop n ++ x) = _ := H.a hR x
    rw [hy x, Ha]
    rfl
   ·intro m hm
    rcases List.mem_cons.1 hm with rfl | hm
    ·exact ⟨by omega, by omega⟩
    ·exact H.m m hm
   ·have Hn : M.flatten.length + _ = (h.nr.drop n).length := H.n
    rw [List.flatten_cons, List.length_append]
    omega
   ·intro r hr hk
    have h1 := Hf.Ok.stp hk h4 (by omega) htl h6 (h.nr.drop n)
    have h2 := H.k (r - n) (by show (h.nr.drop n).length ≤ r - n; omega) h1
    rw [List.flatten_cons, List.length_append, htl, ← Nat.sub_sub]
    exact h2
theorem pktBytes_len (k n a : Int) (b : Bys) : (Lk.pktBytes k n a b).length = b.length + 11 := by unfold Lk.pktBytes; simp
theorem pkt_len (k n a : Int) (b : Bys) : (Lk.pkt k n a b).length ≤ b.length + 11 := by
 unfold Lk.pkt
 have := pktBytes_len k n a b
 split
 ·simp
 ·split
  ·split
   ·simp
   ·omega
  ·split
   ·split
    ·simp
    ·omega
   ·simp
end Go.Proofs.Sh
set_option maxRecDepth 100000
set_option linter.unusedSimpArgs false
set_option linter.unusedVariables false
namespace Go.Proofs.Sh
open Go.Pv
open Lk (En Pc)
theorem cnew8_fs : Fsp Tryz.prog 18 [] 0 [.int .i64 8] [] 0 (.tup [(⟨8, []⟩ : Cc).pv, .int .i64 0]) := by
 unfold Cc.pv
 (refine Fsp.ofs (nx := 0) mixed Tryz.func18 rfl (by simp [Tryz.f18]) ?_; simp -implicitDefEqProofs only [push_cast, Tryz.f18, seval])
 all_goals (first | done | rfl | exact ⟨_, rfl, by simp [wkL, res2, res1, PV.weak, PV.el, sts]⟩ | (simp [wkL, res2, res1, PV.weak, PV.el, sts]; done))
def en0 : En := { most := 1024, way := [], next := 0, rest := [], exp := 0, aside := fun _ => [], read := [], ack := false }
def hf0 (o : Int) : Hf := { o := o, bg := false, s := ⟨8, []⟩, l := ⟨8, []⟩, e := en0, nr := [], fr := [], out := [], dd := false }
theorem mem4_len : ∀ M : List Bys, (∀ m ∈ M, 4 ≤ m.length ∧ m.length ≤ 65536) → M.length ≤ M.flatten.length
 | [], _ => by simp
 | x :: M, h => by
  have h1 := mem4_len M fun m hm => h m (List.mem_cons_of_mem _ hm)
  have h2 := h x List.mem_cons_self
  rw [List.flatten_cons, List.length_append, List.length_cons]
  omega
theorem Hf.cut_is (R : Hf) : R.cut.o = R.o ∧ R.cut.s = R.s ∧ R.cut.e = R.e ∧ R.cut.dd = R.dd ∧ R.cut.bg = R.bg ∧ R.cut.nr.length ≤ R.nr.length ∧ (R.dd = false → R.cut.nr = R.nr) := by
 unfold Hf.cut
 split
 ·rename_i h
  exact ⟨rfl, rfl, rfl, rfl, rfl, Nat.zero_le _, fun h2 => by rw [h] at h2; cases h2⟩
 ·exact ⟨rfl, rfl, rfl, rfl, rfl, Nat.le_refl _, fun _ => rfl⟩
theorem join_flat : ∀ L : List Bys, Lib.join L [] = L.flatten
 | [] => rfl
 | x :: l => by
  have key : ∀ l : List Bys, Lib.joinTail [] l = l.flatten := by
   intro l
   induction l with
   | nil => rfl
   | cons y l ih => simp [Lib.joinTail, ih]
  rw [Lib.join_cons, key]
  rfl
end Go.Proofs.Sh
set_option maxRecDepth 100000
set_option linter.unusedSimpArgs false
set_option linter.unusedVariables false
namespace Go.Proofs.Sh
open Go.Pv
theorem byL_set {L : Bys} {j : Nat} {z : UInt8} (hj : j < L.length) : List.take j (byL L) ++ .int .u8 (z.toNat : Int) :: List.drop (j + 1) (byL L) = byL (L.set j z) := by
 unfold byL
 rw [List.map_set, List.set_eq_take_append_cons_drop, if_pos (by simpa using hj)]
theorem byL_bytes (L : Bys) : (byL L).all isByte = true := by simp [byL, isByte]
theorem byL_byteOf (L : Bys) : (byL L).map Go.Pv.byteOf = L := by
 induction L with
 | nil => rfl
 | cons b L ih => simp only [byL, List.map_cons] at ih ⊢; rw [ih]; simp [Go.Pv.byteOf]
theorem byL_at {L : Bys} {j : Nat} (h : j < L.length) : (List.drop j (byL L)).getD 0 PV.any = .int .u8 ((L.getD j 0).toNat : Int) := by
 simp [byL, h, List.getD_eq_getElem?_getD]
theorem wkC_byL (β τ : List (Nat × Nat)) (em : List Nat) : ∀ L : Bys, wkL (wkC β τ em) (byL L) (byL L)
 | [] => trivial
 | b :: L => ⟨rfl, wkC_byL β τ em L⟩
def at2 (x y : UInt8) : Nat := x.toNat * 256 + y.toNat
def chgd : Bys → Int → Bys → Bys × Int
 | b, l, x :: y :: z :: s =>
  if decide ((at2 x y : Int) ≤ l) = true then ([], 8)
  else if decide ((b.length : Int) ≤ (at2 x y : Int)) = true then ([], 1)
  else if (((b.getD (at2 x y) 0).toNat : Int) == (z.toNat : Int)) = true then ([], 22)
  else chgd (b.set (at2 x y) z) (at2 x y) s
 | b, _, _ => (b, 0)
structure CgA (k s : Bys) (R : Bys × Int) where
 i : Nat
 b : Bys
 l : Int
 hi : i ≤ s.length
 h3 : (s.length - i) % 3 = 0
 hb : b.length = k.length
 h0 : -1 ≤ l
 h1 : l ≤ 65535
 e : chgd b l (s.drop i) = R
def CgA.st {k s : Bys} {R : Bys × Int} (a : CgA k s R) : PS := { n := 63, env := [(8, .int .i64 a.i), (7, .int .i64 a.l), (6, .slb 0 0 k.length 1), (5, .int .i64 0), (4, .str []), (1, .str s)], objs := [(0, some (byL a.b))], live := [], nxt := 60 }
theorem drop3 {s : Bys} {i : Nat} (h : i + 3 ≤ s.length) : s.drop i = s.getD i 0 :: s.getD (i + 1) 0 :: s.getD (i + 2) 0 :: s.drop (i + 3) := by
 rw [drop_u8 (by omega : i < s.length), drop_u8 (by omega : i + 1 < s.length), drop_u8 (by omega : i + 1 + 1 < s.length)]
theorem changed_fs (k s : Bys) (hk : k.length ≤ 65536) (hs : s.length ≤ 1000000) (h0 : (s == []) = false) (h3 : s.length % 3 = 0) : Fsp Tryz.prog 95 [] 0 [.str k, .str s] [] 0 (.tup [.str (chgd k (-1) s).1, .int .i64 (chgd k (-1) s).2]) := by
 generalize hR : chgd k (-1) s = R
 have h3' : Int.tmod (s.length : Int) 3 = 0 := by rw [Int.tmod_eq_emod_of_nonneg (by omega)]; omega
 (refine Fsp.ofs (nx := 0) mixed Tryz.func95 rfl (by simp [Tryz.f95]) ?_; simp -implicitDefEqProofs only [push_cast, Tryz.f95, h0, h3', seval])
 refine callE_cb (by rfl) (by rfl) tk_9 tk_23 tk_5 tsz_5 (by rw [maxLen_eq]; omega) (by first | rfl | simp [gdOk]) ?_
 simp -implicitDefEqProofs only [push_cast, seval]
 refine loopC_of (α := CgA k s R) CgA.st (fun a => s.length - a.i) ⟨0, k, -1, by omega, by simpa using h3, rfl, by omega, by omega, hR⟩ ?_ ?_
 ·(simp only [CgA.st]; exact Wk.at _ _ _ [(0, 44)] [] [] (by simp) (by simp [wkV, PV.el, PV.weak, PS.get, PS.obj, PS.lv, lkp_hit, lkp_miss, lkp_nil, lko, wkL, wkC, res1, wkC_byL]) (by simp [PS.get, PS.obj, PS.lv, lkp_hit, lkp_miss, lkp_nil, lko, wkL, wkC, PV.weak, wkL, wkC, res1, wkC_byL]))
 ·rintro ⟨i, b, l, hi, h3i, hb, hl0, hl1, he⟩
  simp only [CgA.st]
  simp -implicitDefEqProofs only [push_cast, seval]
  refine condC_split (fun g1 => ?_) (fun g1 => ?_)
  ·have hlt : i + 3 ≤ s.length := by simp at g1; omega
   rw [drop3 hlt] at he
   have hi1 : ((i : Int) + 1).toNat = i + 1 := rfl
   have hi2 : ((i : Int) + 2).toNat = i + 2 := rfl
   obtain ⟨x, hgx⟩ : ∃ x, x = s.getD i 0 := ⟨_, rfl⟩
   obtain ⟨y, hgy⟩ : ∃ x, x = s.getD (i + 1) 0 := ⟨_, rfl⟩
   obtain ⟨z, hgz⟩ : ∃ x, x = s.getD (i + 2) 0 := ⟨_, rfl⟩
   rw [← hgx, ← hgy, ← hgz] at he
   replace hgx := hgx.symm; replace hgy := hgy.symm; replace hgz := hgz.symm
   have hx := x.toNat_lt
   have hy := y.toNat_lt
   have hz := z.toNat_lt
   have hw1 : IntKind.i64.wrap ((i : Int) + 1) = (i : Int) + 1 := wrap_i64_id (by omega) (by omega)
   have hw2 : IntKind.i64.wrap ((i : Int) + 2) = (i : Int) + 2 := wrap_i64_id (by omega) (by omega)
   have hw3 : IntKind.i64.wrap ((i : Int) + 3) = (i : Int) + 3 := wrap_i64_id (by omega) (by omega)
   have wx : IntKind.i64.wrap (x.toNat : Int) = x.toNat := wrap_i64_id (by omega) (by omega)
   have wy : IntKind.i64.wrap (y.toNat : Int) = y.toNat := wrap_i64_id (by omega) (by omega)
   have wx2 : IntKind.i64.wrap ((x.toNat : Int) * 256) = (x.toNat : Int) * 256 := wrap_i64_id (by omega) (by omega)
   have wxy : IntKind.i64.wrap ((x.toNat : Int) * 256 + y.toNat) = (at2 x y : Nat) := by rw [wrap_i64_id (by omega) (by omega), at2]; omega
   have ha : at2 x y ≤ 65535 := by unfold at2; omega
   rw [chgd] at he
   generalize at2 x y = a at *
   simp -implicitDefEqProofs only [push_cast, hw1, hw2, seval]
   (repeat refine and_o ?_)
   simp -implicitDefEqProofs only [push_cast, hi1, hi2, hgx, hgy, hgz, wx, wy, wx2, wxy, seval]
   refine condC_split (fun g2 => ?_) (fun g2 => ?_)
   ·rw [if_pos g2] at he
    subst he
    simp -implicitDefEqProofs only [push_cast, seval]
    all_goals (first | done | rfl | exact ⟨_, rfl, by simp [wkL, res2, res1, PV.weak, PV.el]⟩ | (simp [wkL, res2, res1, PV.weak, PV.el]; done))
   rw [if_neg (by rw [g2]; exact Bool.false_ne_true)] at he
   simp -implicitDefEqProofs only [push_cast, seval]
   refine condC_split (fun g3 => ?_) (fun g3 => ?_)
   ·rw [if_pos (by rw [hb]; exact g3)] at he
    subst he
    simp -implicitDefEqProofs only [push_cast, seval]
    all_goals (first | done | rfl | exact ⟨_, rfl, by simp [wkL, res2, res1, PV.weak, PV.el]⟩ | (simp [wkL, res2, res1, PV.weak, PV.el]; done))
   rw [if_neg (by rw [hb, g3]; exact Bool.false_ne_true)] at he
   have hal : a < b.length := by simp at g3; omega
   have hat := byL_at hal
   have hset := byL_set (z := z) hal
   have hbl := byL_length b
   simp -implicitDefEqProofs only [push_cast, hat, hbl, hw2, hi2, hgz, Nat.mul_one, seval]
   refine ⟨by omega, by rw [List.length_drop, byL_length]; omega, by omega, by omega, by (unfold drawOk; kernel_rfl), ?_⟩
   refine condC_split (fun g4 => ?_) (fun g4 => ?_)
   ·rw [if_pos g4] at he
    subst he
    simp -implicitDefEqProofs only [push_cast, seval]
    all_goals (first | done | rfl | exact ⟨_, rfl, by simp [wkL, res2, res1, PV.weak, PV.el]⟩ | (simp [wkL, res2, res1, PV.weak, PV.el]; done))
   rw [if_neg (by rw [g4]; exact Bool.false_ne_true)] at he
   simp -implicitDefEqProofs only [push_cast, hat, hbl, hset, hw2, hw3, hi2, hgz, Nat.mul_one, seval]
   refine ⟨by omega, by omega, by omega, by omega, ⟨i + 3, b.set a z, a, hlt, by omega, by rw [List.length_set]; exact hb, by omega, by omega, he⟩, by simp only; omega, ?_⟩
   (simp only [CgA.st]; exact Wk.at _ _ _ [(0, 0)] [] [] (by simp) (by simp [wkV, PV.el, PV.weak, PS.get, PS.obj, PS.lv, lkp_hit, lkp_miss, lkp_nil, lko, wkL, wkC, res1, wkC_byL]) (by simp [PS.get, PS.obj, PS.lv, lkp_hit, lkp_miss, lkp_nil, lko, wkL, wkC, PV.weak, wkL, wkC, res1, wkC_byL]))
  ·have hie : i = s.length := by simp at g1; omega
   subst hie
   rw [List.drop_length, chgd] at he
   ·subst he
    have hbt : List.take k.length (byL b) = byL b := List.take_of_length_le (by rw [byL_length]; omega)
    have hbo := byL_byteOf b
    have hby := byL_bytes b
    have hbl := byL_length b
    simp -implicitDefEqProofs only [push_cast, hbt, hbo, hby, hbl, hb, seval]
    exact ⟨Nat.le_refl _, _, rfl, by simp [wkL, res2, res1, PV.weak, PV.el]⟩
   ·intro x y z s h
    cases h
end Go.Proofs.Sh
set_option maxRecDepth 100000
set_option linter.unusedSimpArgs false
set_option linter.unusedVariables false
namespace Go.Proofs.Sh
open Go.Pv
def chgR (k s : Bys) : Bys × Int := if (s == []) = true then ([], 2) else if s.length % 3 ≠ 0 then ([], 2) else chgd k (-1) s
theorem chgR_fs (k s : Bys) (hk : k.length ≤ 65536) (hs : s.length ≤ 1000000) : Fsp Tryz.prog 95 [] 0 [.str k, .str s] [] 0 (.tup [.str (chgR k s).1, .int .i64 (chgR k s).2]) := by
 unfold chgR
 cases h0 : (s == []) with
 | true =>
  rw [if_pos rfl]
  (refine Fsp.ofs (nx := 0) mixed Tryz.func95 rfl (by simp [Tryz.f95]) ?_; simp -implicitDefEqProofs only [push_cast, Tryz.f95, h0, Int.reduceBEq, Int.reduceBNe, Int.reduceEq, Int.reduceNe, Int.reducePow, Nat.reduceAdd, Nat.reduceMul, Nat.reduceSub, Nat.reduceLT, Nat.reduceLeDiff, Nat.reduceEqDiff, Nat.reduceBEq, Int.reduceLT, Int.reduceLE, Int.reduceAdd, Int.reduceSub, Int.reduceMul, Int.reduceToNat, Int.reduceNeg, reduceIte, reduceCtorEq, reduceBEq])
  all_goals (first | done | rfl | exact ⟨_, rfl, by simp [wkL, res2, res1, PV.weak, PV.el]⟩ | (simp [wkL, res2, res1, PV.weak, PV.el]; done))
 | false =>
  rw [if_neg (by decide)]
  by_cases h3 : s.length % 3 = 0
  ·rw [if_neg (by omega)]
   exact changed_fs k s hk hs h0 h3
  ·rw [if_pos h3]
   have h3' : ((Int.tmod (s.length : Int) 3) != 0) = true := by
    rw [Int.tmod_eq_emod_of_nonneg (by omega)]
    simp
    omega
   (refine Fsp.ofs (nx := 0) mixed Tryz.func95 rfl (by simp [Tryz.f95]) ?_; simp -implicitDefEqProofs only [push_cast, Tryz.f95, h0, h3', Int.reduceBEq, Int.reduceBNe, Int.reduceEq, Int.reduceNe, Int.reducePow, Nat.reduceAdd, Nat.reduceMul, Nat.reduceSub, Nat.reduceLT, Nat.reduceLeDiff, Nat.reduceEqDiff, Nat.reduceBEq, Int.reduceLT, Int.reduceLE, Int.reduceAdd, Int.reduceSub, Int.reduceMul, Int.reduceToNat, Int.reduceNeg, reduceIte, reduceCtorEq, reduceBEq])
   all_goals (first | done | rfl | exact ⟨_, rfl, by simp [wkL, res2, res1, PV.weak, PV.el]⟩ | (simp [wkL, res2, res1, PV.weak, PV.el]; done))
def rd1 (L : List Bys) (r : Bys) : Bys × Int :=
 if (((r.length : Int) + 1) != 2) = true then ([], 2) else if decide ((L.length : Int) ≤ ((r.getD 0 0).toNat : Int)) = true then ([], 6) else (L.getD (r.getD 0 0).toNat [], 0)
def rd2 (L : List Bys) (r : Bys) : Bys × Int :=
 if (((r.length : Int) + 1) == 1) = true then ([], 3) else if decide ((L.length : Int) ≤ ((r.getD 0 0).toNat : Int)) = true then ([], 6) else chgR (L.getD (r.getD 0 0).toNat []) (r.drop 1)
def rdS (L : List Bys) (s : Bys) : Bys × Int :=
 match s with
 | [] => ([], 13)
 | k :: r =>
  if ((k.toNat : Int) == 0) = true then (if decide ((65536 : Int) < (r.length : Int)) = true then ([], 4) else (r, 0))
  else if ((k.toNat : Int) == 1) = true then rd1 L r
  else if ((k.toNat : Int) == 2) = true then rd2 L r
  else ([], 10)
theorem cread_fs (c : Cc) (s : Bys) (hc : c.k.length ≤ 1000) (hb : ∀ x ∈ c.k, x.length ≤ 65536) (hs : s.length ≤ 1000000) : Fsp Tryz.prog 75 [] 0 [c.pv, .str s] [] 0 (.tup [.str (rdS c.k s).1, .int .i64 (rdS c.k s).2]) := by
 obtain ⟨m, L⟩ := c
 unfold Cc.pv
 simp only at hc hb ⊢
 cases s with
 | nil =>
  (refine Fsp.ofs (nx := 0) mixed Tryz.func75 rfl (by simp [Tryz.f75]) ?_; simp -implicitDefEqProofs only [push_cast, Tryz.f75, Int.reduceBEq, Int.reduceBNe, Int.reduceEq, Int.reduceNe, Int.reducePow, Nat.reduceAdd, Nat.reduceMul, Nat.reduceSub, Nat.reduceLT, Nat.reduceLeDiff, Nat.reduceEqDiff, Nat.reduceBEq, Int.reduceLT, Int.reduceLE, Int.reduceAdd, Int.reduceSub, Int.reduceMul, Int.reduceToNat, Int.reduceNeg, reduceIte, reduceCtorEq, reduceBEq])
  all_goals (first | done | rfl | exact ⟨_, rfl, by simp [wkL, res2, res1, PV.weak, PV.el, rdS]⟩ | (simp [wkL, res2, res1, PV.weak, PV.el, rdS]; done))
 | cons k r =>
  have hk := k.toNat_lt
  have hrl : r.length ≤ 1000000 := by simp at hs; omega
  have hlen : (((k :: r).length : Nat) : Int) = (r.length : Int) + 1 := by simp
  have hl1 : IntKind.i64.wrap ((r.length : Int) + 1 - 1) = (r.length : Int) := by rw [wrap_i64_id (by omega) (by omega)]; omega
  have hcl := Lk.sclone_fs r hrl
  generalize hR : rdS L (k :: r) = R
  unfold rdS at hR
  simp only at hR
  have hne : (k :: r == ([] : Bys)) = false := rfl
  have hk0 : (k :: r).getD 0 0 = k := rfl
  have hd1 : (k :: r).drop 1 = r := rfl
  have hk1 : (k :: r).getD 1 0 = r.getD 0 0 := rfl
  have hd2 : (k :: r).drop 2 = r.drop 1 := rfl
  have hlenN : (k :: r).length = r.length + 1 := rfl
  (refine Fsp.ofs (nx := 0) mixed Tryz.func75 rfl (by simp [Tryz.f75]) ?_; simp -implicitDefEqProofs only [push_cast, Tryz.f75, hne, hk0, Int.reduceBEq, Int.reduceBNe, Int.reduceEq, Int.reduceNe, Int.reducePow, Nat.reduceAdd, Nat.reduceMul, Nat.reduceSub, Nat.reduceLT, Nat.reduceLeDiff, Nat.reduceEqDiff, Nat.reduceBEq, Int.reduceLT, Int.reduceLE, Int.reduceAdd, Int.reduceSub, Int.reduceMul, Int.reduceToNat, Int.reduceNeg, reduceIte, reduceCtorEq, reduceBEq])
  (repeat refine and_o ?_)
  refine condC_split (fun g1 => ?_) (fun g1 => ?_)
  ·rw [if_pos g1] at hR
   simp -implicitDefEqProofs only [push_cast, hlen, hl1, hd1, Int.reduceBEq, Int.reduceBNe, Int.reduceEq, Int.reduceNe, Int.reducePow, Nat.reduceAdd, Nat.reduceMul, Nat.reduceSub, Nat.reduceLT, Nat.reduceLeDiff, Nat.reduceEqDiff, Nat.reduceBEq, Int.reduceLT, Int.reduceLE, Int.reduceAdd, Int.reduceSub, Int.reduceMul, Int.reduceToNat, Int.reduceNeg, reduceIte, reduceCtorEq, reduceBEq]
   refine condC_split (fun g2 => ?_) (fun g2 => ?_)
   ·rw [if_pos g2] at hR
    subst hR
    simp -implicitDefEqProofs only [push_cast, Int.reduceBEq, Int.reduceBNe, Int.reduceEq, Int.reduceNe, Int.reducePow, Nat.reduceAdd, Nat.reduceMul, Nat.reduceSub, Nat.reduceLT, Nat.reduceLeDiff, Nat.reduceEqDiff, Nat.reduceBEq, Int.reduceLT, Int.reduceLE, Int.reduceAdd, Int.reduceSub, Int.reduceMul, Int.reduceToNat, Int.reduceNeg, reduceIte, reduceCtorEq, reduceBEq]
    all_goals (first | done | rfl | exact ⟨_, rfl, by simp [wkL, res2, res1, PV.weak, PV.el]⟩ | (simp [wkL, res2, res1, PV.weak, PV.el]; done))
   ·rw [if_neg (by rw [g2]; exact Bool.false_ne_true)] at hR
    subst hR
    simp -implicitDefEqProofs only [push_cast, hlen, hl1, hd1, hlenN, Int.reduceBEq, Int.reduceBNe, Int.reduceEq, Int.reduceNe, Int.reducePow, Nat.reduceAdd, Nat.reduceMul, Nat.reduceSub, Nat.reduceLT, Nat.reduceLeDiff, Nat.reduceEqDiff, Nat.reduceBEq, Int.reduceLT, Int.reduceLE, Int.reduceAdd, Int.reduceSub, Int.reduceMul, Int.reduceToNat, Int.reduceNeg, reduceIte, reduceCtorEq, reduceBEq]
    refine ⟨Nat.le_refl _, ?_⟩
    rw [show r.length + 1 - 1 = r.length by omega, List.take_length]
    refine callE_p hcl ?_
    simp -implicitDefEqProofs only [push_cast, Int.reduceBEq, Int.reduceBNe, Int.reduceEq, Int.reduceNe, Int.reducePow, Nat.reduceAdd, Nat.reduceMul, Nat.reduceSub, Nat.reduceLT, Nat.reduceLeDiff, Nat.reduceEqDiff, Nat.reduceBEq, Int.reduceLT, Int.reduceLE, Int.reduceAdd, Int.reduceSub, Int.reduceMul, Int.reduceToNat, Int.reduceNeg, reduceIte, reduceCtorEq, reduceBEq]
    all_goals (first | done | rfl | exact ⟨_, rfl, by simp [wkL, res2, res1, PV.weak, PV.el]⟩ | (simp [wkL, res2, res1, PV.weak, PV.el]; done))
  rw [if_neg (by rw [g1]; exact Bool.false_ne_true)] at hR
  simp -implicitDefEqProofs only [push_cast, hlen, Int.reduceBEq, Int.reduceBNe, Int.reduceEq, Int.reduceNe, Int.reducePow, Nat.reduceAdd, Nat.reduceMul, Nat.reduceSub, Nat.reduceLT, Nat.reduceLeDiff, Nat.reduceEqDiff, Nat.reduceBEq, Int.reduceLT, Int.reduceLE, Int.reduceAdd, Int.reduceSub, Int.reduceMul, Int.reduceToNat, Int.reduceNeg, reduceIte, reduceCtorEq, reduceBEq]
  refine condC_split (fun g2 => ?_) (fun g2 => ?_)
  ·rw [if_pos g2, rd1] at hR
   simp -implicitDefEqProofs only [push_cast, hlen, Int.reduceBEq, Int.reduceBNe, Int.reduceEq, Int.reduceNe, Int.reducePow, Nat.reduceAdd, Nat.reduceMul, Nat.reduceSub, Nat.reduceLT, Nat.reduceLeDiff, Nat.reduceEqDiff, Nat.reduceBEq, Int.reduceLT, Int.reduceLE, Int.reduceAdd, Int.reduceSub, Int.reduceMul, Int.reduceToNat, Int.reduceNeg, reduceIte, reduceCtorEq, reduceBEq]
   refine condC_split (fun g4 => ?_) (fun g4 => ?_)
   ·rw [if_pos g4] at hR
    subst hR
    simp -implicitDefEqProofs only [push_cast, Int.reduceBEq, Int.reduceBNe, Int.reduceEq, Int.reduceNe, Int.reducePow, Nat.reduceAdd, Nat.reduceMul, Nat.reduceSub, Nat.reduceLT, Nat.reduceLeDiff, Nat.reduceEqDiff, Nat.reduceBEq, Int.reduceLT, Int.reduceLE, Int.reduceAdd, Int.reduceSub, Int.reduceMul, Int.reduceToNat, Int.reduceNeg, reduceIte, reduceCtorEq, reduceBEq]
    all_goals (first | done | rfl | exact ⟨_, rfl, by simp [wkL, res2, res1, PV.weak, PV.el]⟩ | (simp [wkL, res2, res1, PV.weak, PV.el]; done))
   rw [if_neg (by rw [g4]; exact Bool.false_ne_true)] at hR
   have hr1 : r.length = 1 := by simp at g4; omega
   have hy := (r.getD 0 0).toNat_lt
   generalize r.getD 0 0 = y at *
   have wy : IntKind.i64.wrap (y.toNat : Int) = y.toNat := wrap_i64_id (by omega) (by omega)
   simp -implicitDefEqProofs only [push_cast, hk1, hlen, wy, sts_length, Int.reduceBEq, Int.reduceBNe, Int.reduceEq, Int.reduceNe, Int.reducePow, Nat.reduceAdd, Nat.reduceMul, Nat.reduceSub, Nat.reduceLT, Nat.reduceLeDiff, Nat.reduceEqDiff, Nat.reduceBEq, Int.reduceLT, Int.reduceLE, Int.reduceAdd, Int.reduceSub, Int.reduceMul, Int.reduceToNat, Int.reduceNeg, reduceIte, reduceCtorEq, reduceBEq]
   (repeat refine and_o ?_)
   refine condC_split (fun g5 => ?_) (fun g5 => ?_)
   ·rw [if_pos g5] at hR
    subst hR
    simp -implicitDefEqProofs only [push_cast, Int.reduceBEq, Int.reduceBNe, Int.reduceEq, Int.reduceNe, Int.reducePow, Nat.reduceAdd, Nat.reduceMul, Nat.reduceSub, Nat.reduceLT, Nat.reduceLeDiff, Nat.reduceEqDiff, Nat.reduceBEq, Int.reduceLT, Int.reduceLE, Int.reduceAdd, Int.reduceSub, Int.reduceMul, Int.reduceToNat, Int.reduceNeg, reduceIte, reduceCtorEq, reduceBEq]
    all_goals (first | done | rfl | exact ⟨_, rfl, by simp [wkL, res2, res1, PV.weak, PV.el]⟩ | (simp [wkL, res2, res1, PV.weak, PV.el]; done))
   rw [if_neg (by rw [g5]; exact Bool.false_ne_true)] at hR
   have hyl : y.toNat < L.length := by simp at g5; omega
   have hg := sts_at hyl
   subst hR
   simp -implicitDefEqProofs only [push_cast, hk1, hlen, wy, sts_length, hg, Int.reduceBEq, Int.reduceBNe, Int.reduceEq, Int.reduceNe, Int.reducePow, Nat.reduceAdd, Nat.reduceMul, Nat.reduceSub, Nat.reduceLT, Nat.reduceLeDiff, Nat.reduceEqDiff, Nat.reduceBEq, Int.reduceLT, Int.reduceLE, Int.reduceAdd, Int.reduceSub, Int.reduceMul, Int.reduceToNat, Int.reduceNeg, reduceIte, reduceCtorEq, reduceBEq]
   (repeat refine and_o ?_)
   all_goals (first | done | rfl | exact ⟨_, rfl, by simp [wkL, res2, res1, PV.weak, PV.el]⟩ | (simp [wkL, res2, res1, PV.weak, PV.el]; done))
  rw [if_neg (by rw [g2]; exact Bool.false_ne_true)] at hR
  simp -implicitDefEqProofs only [push_cast, hlen, Int.reduceBEq, Int.reduceBNe, Int.reduceEq, Int.reduceNe, Int.reducePow, Nat.reduceAdd, Nat.reduceMul, Nat.reduceSub, Nat.reduceLT, Nat.reduceLeDiff, Nat.reduceEqDiff, Nat.reduceBEq, Int.reduceLT, Int.reduceLE, Int.reduceAdd, Int.reduceSub, Int.reduceMul, Int.reduceToNat, Int.reduceNeg, reduceIte, reduceCtorEq, reduceBEq]
  refine condC_split (fun g3 => ?_) (fun g3 => ?_)
  ·rw [if_pos g3, rd2] at hR
   simp -implicitDefEqProofs only [push_cast, hlen, Int.reduceBEq, Int.reduceBNe, Int.reduceEq, Int.reduceNe, Int.reducePow, Nat.reduceAdd, Nat.reduceMul, Nat.reduceSub, Nat.reduceLT, Nat.reduceLeDiff, Nat.reduceEqDiff, Nat.reduceBEq, Int.reduceLT, Int.reduceLE, Int.reduceAdd, Int.reduceSub, Int.reduceMul, Int.reduceToNat, Int.reduceNeg, reduceIte, reduceCtorEq, reduceBEq]
   refine condC_split (fun g4 => ?_) (fun g4 => ?_)
   ·rw [if_pos g4] at hR
    subst hR
    simp -implicitDefEqProofs only [push_cast, Int.reduceBEq, Int.reduceBNe, Int.reduceEq, Int.reduceNe, Int.reducePow, Nat.reduceAdd, Nat.reduceMul, Nat.reduceSub, Nat.reduceLT, Nat.reduceLeDiff, Nat.reduceEqDiff, Nat.reduceBEq, Int.reduceLT, Int.reduceLE, Int.reduceAdd, Int.reduceSub, Int.reduceMul, Int.reduceToNat, Int.reduceNeg, reduceIte, reduceCtorEq, reduceBEq]
    all_goals (first | done | rfl | exact ⟨_, rfl, by simp [wkL, res2, res1, PV.weak, PV.el]⟩ | (simp [wkL, res2, res1, PV.weak, PV.el]; done))
   rw [if_neg (by rw [g4]; exact Bool.false_ne_true)] at hR
   have hr1 : 1 ≤ r.length := by simp at g4; cases r with | nil => exact absurd rfl g4 | cons => simp
   have hy := (r.getD 0 0).toNat_lt
   generalize r.getD 0 0 = y at *
   have wy : IntKind.i64.wrap (y.toNat : Int) = y.toNat := wrap_i64_id (by omega) (by omega)
   simp -implicitDefEqProofs only [push_cast, hk1, hlen, wy, sts_length, Int.reduceBEq, Int.reduceBNe, Int.reduceEq, Int.reduceNe, Int.reducePow, Nat.reduceAdd, Nat.reduceMul, Nat.reduceSub, Nat.reduceLT, Nat.reduceLeDiff, Nat.reduceEqDiff, Nat.reduceBEq, Int.reduceLT, Int.reduceLE, Int.reduceAdd, Int.reduceSub, Int.reduceMul, Int.reduceToNat, Int.reduceNeg, reduceIte, reduceCtorEq, reduceBEq]
   (repeat refine and_o ?_)
   refine condC_split (fun g5 => ?_) (fun g5 => ?_)
   ·rw [if_pos g5] at hR
    subst hR
    simp -implicitDefEqProofs only [push_cast, Int.reduceBEq, Int.reduceBNe, Int.reduceEq, Int.reduceNe, Int.reducePow, Nat.reduceAdd, Nat.reduceMul, Nat.reduceSub, Nat.reduceLT, Nat.reduceLeDiff, Nat.reduceEqDiff, Nat.reduceBEq, Int.reduceLT, Int.reduceLE, Int.reduceAdd, Int.reduceSub, Int.reduceMul, Int.reduceToNat, Int.reduceNeg, reduceIte, reduceCtorEq, reduceBEq]
    all_goals (first | done | rfl | exact ⟨_, rfl, by simp [wkL, res2, res1, PV.weak, PV.el]⟩ | (simp [wkL, res2, res1, PV.weak, PV.el]; done))
   rw [if_neg (by rw [g5]; exact Bool.false_ne_true)] at hR
   have hyl : y.toNat < L.length := by simp at g5; omega
   have hg := sts_at hyl
   have hkb : (L.getD y.toNat []).length ≤ 65536 := by
    rw [List.getD_eq_getElem?_getD, List.getElem?_eq_getElem hyl]; exact hb _ (List.getElem_mem hyl)
   have hC := chgR_fs (L.getD y.toNat []) (r.drop 1) hkb (by rw [List.length_drop]; omega)
   subst hR
   have hrt : (r.drop 1).take (r.length - 1) = r.drop 1 := List.take_of_length_le (by rw [List.length_drop]; omega)
   simp -implicitDefEqProofs only [push_cast, hk1, hlen, wy, sts_length, hg, hd2, hlenN, Int.reduceBEq, Int.reduceBNe, Int.reduceEq, Int.reduceNe, Int.reducePow, Nat.reduceAdd, Nat.reduceMul, Nat.reduceSub, Nat.reduceLT, Nat.reduceLeDiff, Nat.reduceEqDiff, Nat.reduceBEq, Int.reduceLT, Int.reduceLE, Int.reduceAdd, Int.reduceSub, Int.reduceMul, Int.reduceToNat, Int.reduceNeg, reduceIte, reduceCtorEq, reduceBEq]
   (repeat refine and_o ?_)
   rw [show r.length + 1 - 2 = r.length - 1 by omega, hrt]
   refine callE_p hC ?_
   simp -implicitDefEqProofs only [push_cast, Int.reduceBEq, Int.reduceBNe, Int.reduceEq, Int.reduceNe, Int.reducePow, Nat.reduceAdd, Nat.reduceMul, Nat.reduceSub, Nat.reduceLT, Nat.reduceLeDiff, Nat.reduceEqDiff, Nat.reduceBEq, Int.reduceLT, Int.reduceLE, Int.reduceAdd, Int.reduceSub, Int.reduceMul, Int.reduceToNat, Int.reduceNeg, reduceIte, reduceCtorEq, reduceBEq]
   (repeat refine and_o ?_)
   all_goals (first | done | rfl | exact ⟨_, rfl, by simp [wkL, res2, res1, PV.weak, PV.el]⟩ | (simp [wkL, res2, res1, PV.weak, PV.el]; done))
  rw [if_neg (by rw [g3]; exact Bool.false_ne_true)] at hR
  subst hR
  simp -implicitDefEqProofs only [push_cast, Int.reduceBEq, Int.reduceBNe, Int.reduceEq, Int.reduceNe, Int.reducePow, Nat.reduceAdd, Nat.reduceMul, Nat.reduceSub, Nat.reduceLT, Nat.reduceLeDiff, Nat.reduceEqDiff, Nat.reduceBEq, Int.reduceLT, Int.reduceLE, Int.reduceAdd, Int.reduceSub, Int.reduceMul, Int.reduceToNat, Int.reduceNeg, reduceIte, reduceCtorEq, reduceBEq]
  all_goals (first | done | rfl | exact ⟨_, rfl, by simp [wkL, res2, res1, PV.weak, PV.el]⟩ | (simp [wkL, res2, res1, PV.weak, PV.el]; done))
def Cc.get (c : Cc) (s : Bys) : Cc × Bys × Int := if (c.m : Int) = 0 then (c, [], 9) else if (rdS c.k s).2 = 0 then (c.put (rdS c.k s).1, (rdS c.k s).1, 0) else (c, [], (rdS c.k s).2)
theorem chgd_len : ∀ (s b : Bys) (l : Int), (chgd b l s).1.length ≤ b.length
 | [], b, l => by simp [chgd]
 | [x], b, l => by simp [chgd]
 | [x, y], b, l => by simp [chgd]
 | x :: y :: z :: s, b, l => by
  unfold chgd
  split
  ·simp
  ·split
   ·simp
   ·split
    ·simp
    ·have := chgd_len s (b.set (at2 x y) z) (at2 x y)
     rw [List.length_set] at this
     exact this
theorem chgR_len (k s : Bys) : (chgR k s).1.length ≤ k.length := by
 unfold chgR
 split
 ·simp
 ·split
  ·simp
  ·exact chgd_len s k (-1)
theorem getD_le {L : List Bys} {n : Nat} (hb : ∀ x ∈ L, x.length ≤ n) (i : Nat) : (L.getD i []).length ≤ n := by
 rw [List.getD_eq_getElem?_getD]
 cases h : L[i]? with
 | none => simp
 | some x => exact hb x (List.mem_of_getElem? h)
theorem rdS_len {L : List Bys} (hb : ∀ x ∈ L, x.length ≤ 65536) (s : Bys) : (rdS L s).1.length ≤ 65536 := by
 unfold rdS
 split
 ·simp
 ·split
  ·split
   ·simp
   ·rename_i h
    simp at h ⊢
    omega
  ·split
   ·unfold rd1
    split
    ·simp
    ·split
     ·simp
     ·exact getD_le hb _
   ·split
    ·unfold rd2
     split
     ·simp
     ·split
      ·simp
      ·exact Nat.le_trans (chgR_len _ _) (getD_le hb _)
    ·simp
end Go.Proofs.Sh
set_option maxRecDepth 100000
set_option linter.unusedSimpArgs false
set_option linter.unusedVariables false
namespace Go.Proofs.Sh
open Go.Pv
theorem cget_fs (c : Cc) (s : Bys) (hc : c.Ok) (hs : s.length ≤ 1000000) : Fsp Tryz.prog 41 [] 0 [c.pv, .str s] [] 0 (.tup [(c.get s).1.pv, .str (c.get s).2.1, .int .i64 (c.get s).2.2]) := by
 have hR := cread_fs c s (by have := hc.k; omega) hc.b hs
 have hm : ((c.m : Int) == 0) = false := by have := hc.m0; simp; omega
 have hW := with_fs c (rdS c.k s).1 hc.m1 (by have := hc.k; omega)
 unfold Cc.get
 rw [if_neg (by simpa using hm)]
 generalize (rdS c.k s).1 = b at *
 generalize (rdS c.k s).2 = e at *
 generalize hc2 : c.put b = c2 at *
 unfold Cc.pv at *
 by_cases he : e = 0
 ·subst he
  rw [if_pos rfl]
  (refine Fsp.ofs (nx := 0) mixed Tryz.func41 rfl (by simp [Tryz.f41]) ?_; simp -implicitDefEqProofs only [push_cast, Tryz.f41, hm, seval])
  refine callE_p hR ?_
  simp -implicitDefEqProofs only [push_cast, seval]
  refine callE_p hW ?_
  simp -implicitDefEqProofs only [push_cast, seval]
  all_goals (first | done | rfl | exact ⟨_, rfl, by simp [wkL, res2, res1, PV.weak, PV.el]⟩ | (simp [wkL, res2, res1, PV.weak, PV.el]; done))
 ·rw [if_neg he]
  have he' : (e != 0) = true := by simpa using he
  (refine Fsp.ofs (nx := 0) mixed Tryz.func41 rfl (by simp [Tryz.f41]) ?_; simp -implicitDefEqProofs only [push_cast, Tryz.f41, hm, seval])
  refine callE_p hR ?_
  simp -implicitDefEqProofs only [push_cast, he', seval]
  all_goals (first | done | rfl | exact ⟨_, rfl, by simp [wkL, res2, res1, PV.weak, PV.el]⟩ | (simp [wkL, res2, res1, PV.weak, PV.el]; done))
end Go.Proofs.Sh
set_option maxRecDepth 100000
set_option linter.unusedSimpArgs false
set_option linter.unusedVariables false
namespace Go.Proofs.Sh
open Go.Pv
open Lk (En Pc)
def Hf.cf (k : Nat) (h : Hf) : List PV :=
 [.fn k [], .int .i64 h.o, .bool h.bg, .int .i64 h.s.m, .sl 1 (sts h.s.k), .int .i64 h.l.m, .sl 1 (sts h.l.k),
  .int .i64 h.e.most, .sl 3 (h.e.way.map Lk.Pc.pv), .int .i64 h.e.next, .str h.e.rest, .int .i64 h.e.exp, .str (h.e.aside 0), .str (h.e.aside 1), .str (h.e.aside 2), .str (h.e.aside 3), .str (h.e.aside 4), .str (h.e.aside 5), .str (h.e.aside 6), .str (h.e.aside 7),
  .str (h.e.aside 8), .str (h.e.aside 9), .str (h.e.aside 10), .str (h.e.aside 11), .str (h.e.aside 12), .str (h.e.aside 13), .str (h.e.aside 14), .str (h.e.aside 15), .str h.e.read, .bool h.e.ack,
  .str h.nr, .str h.fr, .str h.out, .bool h.dd]
theorem fdead_fs (k : Nat) (h : Hf) : Fsp Tryz.prog 14 [] 0 [.agg (h.cf k)] [] 0 (.bool h.dd) := by
 (refine Fsp.ofs (nx := 0) mixed Tryz.func14 rfl (by simp [Tryz.f14]) ?_; simp -implicitDefEqProofs only [push_cast, Tryz.f14, Hf.cf, seval])
 all_goals (first | done | rfl | exact ⟨_, rfl, by simp [wkL, res2, res1, PV.weak, PV.el]⟩ | (simp [wkL, res2, res1, PV.weak, PV.el]; done))
theorem fquiet_fs (k : Nat) (h : Hf) : Fsp Tryz.prog 17 [] 0 [.agg (h.cf k)] [] 0 (.bool (decide (h.e.way.length = 0) && !h.e.ack)) := by
 have hQ := Lk.quiet_fs h.e
 simp only [Lk.En.pv, Lk.En.cs, Lk.pcs] at hQ
 (refine Fsp.ofs (nx := 0) mixed Tryz.func17 rfl (by simp [Tryz.f17]) ?_; simp -implicitDefEqProofs only [push_cast, Tryz.f17, Hf.cf, seval])
 refine callE_p hQ ?_
 simp -implicitDefEqProofs only [push_cast, seval]
 all_goals (first | done | rfl | exact ⟨_, rfl, by simp [wkL, res2, res1, PV.weak, PV.el]⟩ | (simp [wkL, res2, res1, PV.weak, PV.el]; done))
theorem fdue_fs (k : Nat) (h : Hf) (hw : h.e.way.length ≤ 1000) (hs : ∀ q ∈ h.e.way, q.b.length ≤ 1000000) : Fsp Tryz.prog 25 [] 0 [.agg (h.cf k)] [] 0 (.tup [.agg (({ h with e := h.e.due } : Hf).cf k), .sl 1 (sts h.e.dueP)]) := by
 have hD := Lk.due_fs h.e hw hs
 obtain ⟨o, bg, s, l, e, nr, fr, out, dd⟩ := h
 simp only at hD ⊢
 have hz : List.map PV.str e.dueP = sts e.dueP := rfl
 rw [hz] at hD
 generalize e.dueP = D at *
 generalize he : e.due = e2 at *
 simp only [Lk.En.pv, Lk.En.cs, Lk.pcs] at hD
 (refine Fsp.ofs (nx := 0) mixed Tryz.func25 rfl (by simp [Tryz.f25]) ?_; simp -implicitDefEqProofs only [push_cast, Tryz.f25, Hf.cf, seval])
 refine callE_p hD ?_
 simp -implicitDefEqProofs only [push_cast, seval]
 all_goals (first | done | rfl | exact ⟨_, rfl, by simp [wkL, res2, res1, PV.weak, PV.el, Hf.cf]⟩ | (simp [wkL, res2, res1, PV.weak, PV.el, Hf.cf]; done))
theorem ftick_fs (k : Nat) (h : Hf) (hw : h.e.way.length ≤ 1000) : Fsp Tryz.prog 37 [] 0 [.agg (h.cf k)] [] 0 (.agg (({ h with e := h.e.tick } : Hf).cf k)) := by
 have hD := Lk.tick_fs h.e hw
 obtain ⟨o, bg, s, l, e, nr, fr, out, dd⟩ := h
 simp only at hD ⊢
 generalize he : e.tick = e2 at *
 simp only [Lk.En.pv, Lk.En.cs, Lk.pcs] at hD
 (refine Fsp.ofs (nx := 0) mixed Tryz.func37 rfl (by simp [Tryz.f37]) ?_; simp -implicitDefEqProofs only [push_cast, Tryz.f37, Hf.cf, seval])
 refine callE_p hD ?_
 simp -implicitDefEqProofs only [push_cast, seval]
 all_goals (first | done | rfl | exact ⟨_, rfl, by simp [wkL, res2, res1, PV.weak, PV.el, Hf.cf]⟩ | (simp [wkL, res2, res1, PV.weak, PV.el, Hf.cf]; done))
theorem fout_fs (k : Nat) (h : Hf) : Fsp Tryz.prog 13 [] 0 [.agg (h.cf k)] [] 0 (.tup [.agg (({ h with out := [] } : Hf).cf k), .str h.out]) := by
 obtain ⟨o, bg, s, l, e, nr, fr, out, dd⟩ := h
 (refine Fsp.ofs (nx := 0) mixed Tryz.func13 rfl (by simp [Tryz.f13]) ?_; simp -implicitDefEqProofs only [push_cast, Tryz.f13, Hf.cf, seval])
 all_goals (first | done | rfl | exact ⟨_, rfl, by simp [wkL, res2, res1, PV.weak, PV.el, Hf.cf]⟩ | (simp [wkL, res2, res1, PV.weak, PV.el, Hf.cf]; done))
end Go.Proofs.Sh
set_option maxRecDepth 100000
set_option linter.unusedSimpArgs false
set_option linter.unusedVariables false
namespace Go.Proofs.Sh
open Go.Pv
open Lk (En Pc)
def fourN (b : Bys) : Int := getV 1 4 (b.take 4)
theorem four_is {b : Bys} (h : 4 ≤ b.length) : getE 4 (b.take 4) = 0 ∧ 0 ≤ fourN b ∧ fourN b < 4294967296 := by
 have hl : (b.take 4).length = 4 := by rw [List.length_take]; omega
 have hw : wid 4 = 4 := rfl
 have hd := decU_lt 1 (b.take 4)
 rw [hl] at hd
 unfold fourN getE getV
 rw [if_neg (by rw [hl, hw]; decide), if_neg (by rw [hl, hw]; decide), if_pos (by rw [hl, hw])]
 unfold readV
 have hh : high 4 = 4294967295 := by decide
 have hdd : decU 1 (b.take 4) < 4294967296 := hd
 rw [if_neg (by rw [hh]; simp; omega)]
 refine ⟨rfl, ?_, ?_⟩ <;> omega
def Hf.shr : Nat → Hf → Hf
 | 0, h => h
 | f + 1, h =>
  if decide ((4 : Int) ≤ (h.fr.length : Int)) = true then
   if decide ((131072 : Int) < fourN h.fr) = true then { h with dd := true }
   else if decide ((h.fr.length : Int) - 4 < fourN h.fr) = true then h
   else if ((h.l.get ((h.fr.drop 4).take (fourN h.fr).toNat)).2.2 != 0) = true then { h with fr := h.fr.drop (4 + (fourN h.fr).toNat), dd := true }
   else Hf.shr f { h with fr := h.fr.drop (4 + (fourN h.fr).toNat), l := (h.l.get ((h.fr.drop 4).take (fourN h.fr).toNat)).1, out := h.out ++ (h.l.get ((h.fr.drop 4).take (fourN h.fr).toNat)).2.1 }
  else h
def Hf.got (h : Hf) (p : Bys) : Hf × Int :=
 if h.dd = true then (h, 20)
 else if Lk.gotN h.e p = 0 then
  (let r := Hf.shr (h.fr.length + (h.e.gotE p).read.length + 1) { h with e := { (h.e.gotE p) with read := [] }, fr := h.fr ++ (h.e.gotE p).read }
   (if r.dd = true then { r with fr := [] } else r, 0))
 else (h, Lk.gotN h.e p)
theorem shr_keep : ∀ (f : Nat) (h : Hf), (Hf.shr f h).o = h.o ∧ (Hf.shr f h).bg = h.bg ∧ (Hf.shr f h).s = h.s ∧ (Hf.shr f h).e = h.e ∧ (Hf.shr f h).nr = h.nr
 | 0, h => ⟨rfl, rfl, rfl, rfl, rfl⟩
 | f + 1, h => by
  unfold Hf.shr
  split
  ·split
   ·exact ⟨rfl, rfl, rfl, rfl, rfl⟩
   ·split
    ·exact ⟨rfl, rfl, rfl, rfl, rfl⟩
    ·split
     ·exact ⟨rfl, rfl, rfl, rfl, rfl⟩
     ·exact shr_keep f _
  ·exact ⟨rfl, rfl, rfl, rfl, rfl⟩
end Go.Proofs.Sh
set_option maxRecDepth 100000
set_option linter.unusedSimpArgs false
set_option linter.unusedVariables false
namespace Go.Proofs.Sh
open Go.Pv
open Lk (En Pc)
theorem fgotdead_fs (k : Nat) (h : Hf) (p : Bys) (hd : h.dd = true) : Fsp Tryz.prog 15 [] 0 [.agg (h.cf k), .str p] [] 0 (.tup [.agg (h.cf k), .int .i64 20]) := by
 obtain ⟨o, bg, s, l, e, nr, fr, out, dd⟩ := h
 simp only at hd
 subst hd
 (refine Fsp.ofs (nx := 0) mixed Tryz.func15 rfl (by simp [Tryz.f15]) ?_; simp -implicitDefEqProofs only [push_cast, Tryz.f15, Hf.cf, seval])
 all_goals (first | done | rfl | exact ⟨_, rfl, by simp [wkL, res2, res1, PV.weak, PV.el, Hf.cf]⟩ | (simp [wkL, res2, res1, PV.weak, PV.el, Hf.cf]; done))
theorem fgoterr_fs (k : Nat) (h : Hf) (p : Bys) (hd : h.dd = false) (he : h.e.Ok) (hp : p.length ≤ 1000000) (hg : Lk.gotN h.e p ≠ 0) : Fsp Tryz.prog 15 [] 0 [.agg (h.cf k), .str p] [] 0 (.tup [.agg (h.cf k), .int .i64 (Lk.gotN h.e p)]) := by
 have hG := Lk.got_fs h.e p he hp
 obtain ⟨o, bg, s, l, e, nr, fr, out, dd⟩ := h
 simp only at hd hG hg ⊢
 subst hd
 have hg' : (Lk.gotN e p == 0) = false := by simpa using hg
 have hg2 : (Lk.gotN e p != 0) = true := by simpa using hg
 unfold Lk.gotR at hG
 rw [if_neg (by rw [hg']; decide)] at hG
 generalize Lk.gotN e p = g at *
 simp only [Lk.En.pv, Lk.En.cs, Lk.pcs] at hG
 (refine Fsp.ofs (nx := 0) mixed Tryz.func15 rfl (by simp [Tryz.f15]) ?_; simp -implicitDefEqProofs only [push_cast, Tryz.f15, Hf.cf, seval])
 refine callE_p hG ?_
 simp -implicitDefEqProofs only [push_cast, hg2, seval]
 all_goals (first | done | rfl | exact ⟨_, rfl, by simp [wkL, res2, res1, PV.weak, PV.el, Hf.cf]⟩ | (simp [wkL, res2, res1, PV.weak, PV.el, Hf.cf]; done))
theorem shorts_fs (k : Nat) (h : Hf) : Fsp Tryz.prog 40 [h.cf k] 0 [.box 0 0] [h.cf k, [.box 0 0]] 0 (.fn 74 [.box 1 0]) := by
 (refine Fsp.of (nx := 1) mixed Tryz.func40 rfl (by decide) (by first | exact Nat.le_refl _ | simp) (by simp [Tryz.f40]) ⟨by simp, by simp⟩ ?_; simp -implicitDefEqProofs only [push_cast, Tryz.f40, Hf.cf, seval])
 exact endK_box [] [0, 1] rfl rfl (by simp [PS.lv, lkp_hit, lkp_miss, lkp_nil]) rfl rfl (by rfl) (fun i j ps h1 h2 => by (rcases i with _ | _ | i <;> simp at h1 h2 <;> (subst h1; subst h2; exact ⟨_, rfl, (by (repeat' (first | exact wkL_nil | refine wkL_cons ?_ ?_)); all_goals (first | rfl | exact ⟨rfl, rfl⟩ | exact ⟨rfl, rfl, rfl⟩ | exact .inl rfl))⟩))) ⟨by simp [resOk, PS.get, lkp_hit, lkp_miss, PS.ev], by simp [resPV, PS.get, lkp_hit, lkp_miss, PS.ev], by simp [resOf, resPV, one', res3, res2, res1, PS.get, lkp_hit, lkp_miss, PS.ev, PV.weak, PV.el, wkL]⟩
def hzG : List PV := [.nilfn, .int .i64 0, .bool false, .int .i64 0, .nilsl, .int .i64 0, .nilsl, .int .i64 0, .nilsl, .int .i64 0, .str [], .int .i64 0, .str [], .str [], .str [], .str [], .str [], .str [], .str [], .str [], .str [], .str [], .str [], .str [], .str [], .str [], .str [], .str [], .str [], .bool false, .str [], .str [], .str [], .bool false]
theorem Cc.Ok.get {c : Cc} (h : c.Ok) (s : Bys) : (c.get s).1.Ok ∧ (c.get s).2.1.length ≤ 65536 := by
 unfold Cc.get
 split
 ·exact ⟨h, by simp⟩
 ·split
  ·exact ⟨h.put (rdS_len h.b s), rdS_len h.b s⟩
  ·exact ⟨h, by simp⟩
structure NsA (R : Hf) where
 h : Hf
 f : Nat
 hf : h.fr.length < f
 hb : h.fr.length ≤ 1000000000
 lk : h.l.Ok
 ob : h.out.length + 65536 * h.fr.length ≤ 1000000000000000
 e : Hf.shr f h = R
def NsA.O (k : Nat) (h : Hf) : List (Nat × Option (List PV)) := [(0, some (h.cf k)), (1, some hzG), (2, some [.box 0 0])]
def NsA.st (k : Nat) {R : Hf} (a : NsA R) : PS := { n := 59, env := [(1, .box 2 0), (0, .yld 3)], objs := NsA.O k a.h, live := [], nxt := 5 }
set_option maxHeartbeats 4000000 in
theorem fgot_fs (k : Nat) (h : Hf) (p : Bys) (hd : h.dd = false) (he : h.e.Ok) (hp : p.length ≤ 1000000) (hg : Lk.gotN h.e p = 0) (hfr : h.fr.length + (h.e.gotE p).read.length ≤ 1000000000) (hlk : h.l.Ok) (hob : h.out.length + 65536 * (h.fr.length + (h.e.gotE p).read.length) ≤ 1000000000000000) : Fsp Tryz.prog 15 [] 0 [.agg (h.cf k), .str p] [] 0 (.tup [.agg ((h.got p).1.cf k), .int .i64 0]) := by
 have hG := Lk.got_fs h.e p he hp
 have hRd := Lk.read_fs (h.e.gotE p)
 have hM := shorts_fs k { h with e := { (h.e.gotE p) with read := [] }, fr := h.fr ++ (h.e.gotE p).read }
 generalize hR : (h.got p).1 = R
 unfold Hf.got at hR
 rw [if_neg (by rw [hd]; decide), if_pos hg] at hR
 unfold Lk.gotR at hG
 rw [if_pos (by rw [hg]; rfl), hg] at hG
 simp only at hR
 obtain ⟨o, bg, s, l, e, nr, fr, out, dd⟩ := h
 simp only at hd hG hg hRd hM hR hfr hlk hob
 subst hd
 generalize e.gotE p = e2 at *
 simp only [Lk.En.pv, Lk.En.cs, Lk.pcs] at hG hRd
 simp only [Hf.cf] at hM ⊢
 (refine Fsp.ofs (nx := 0) mixed Tryz.func15 rfl (by simp [Tryz.f15]) ?_; simp -implicitDefEqProofs only [push_cast, Tryz.f15, seval])
 refine callE_p hG ?_
 simp -implicitDefEqProofs only [push_cast, seval]
 refine callE_p hRd ?_
 simp -implicitDefEqProofs only [push_cast, seval]
 refine ⟨by omega, ?_⟩
 refine callE_bx hM [0] [] ?_
 simp -implicitDefEqProofs only [push_cast, seval]
 generalize hRR : Hf.shr (fr.length + e2.read.length + 1) { o := o, bg := bg, s := s, l := l, e := { e2 with read := [] }, nr := nr, fr := fr ++ e2.read, out := out, dd := false } = RR at hR
 refine PWP.named (fun Q => (∀ T, Q .normal T → Q (.exit 0) T) ∧ ∀ objs live nx, lkp none objs 0 = some (RR.cf k) → lkp none objs 1 = some hzG → Q .normal { n := 67, env := [(43, .any), (5, .int .i64 0), (4, .box 1 0), (2, .box 0 0)], objs := objs, live := live, nxt := nx }) ⟨?_, ?_⟩ (fun Q hQ => ?_)
 ·intro T h
  rw [blkC_exit, if_pos rfl]
  exact h
 ·intro objs live nx o0 o1
  clear hRR hM hG hRd
  obtain ⟨o', bg', s', l', e', nr', fr', out', dd'⟩ := RR
  simp only [Hf.cf] at o0
  unfold hzG at o1
  cases dd' with
  | false =>
   simp only [Bool.false_eq_true, if_false] at hR
   subst hR
   simp -implicitDefEqProofs only [push_cast, o0, o1, seval]
   all_goals (first | done | rfl | exact ⟨_, rfl, by simp [wkL, res2, res1, PV.weak, PV.el]⟩ | (simp [wkL, res2, res1, PV.weak, PV.el]; done))
  | true =>
   simp only [if_true] at hR
   subst hR
   simp -implicitDefEqProofs only [push_cast, o0, o1, seval]
   all_goals (first | done | rfl | exact ⟨_, rfl, by simp [wkL, res2, res1, PV.weak, PV.el]⟩ | (simp [wkL, res2, res1, PV.weak, PV.el]; done))
 ·refine PWP.rangeY { n := 67, env := [(43, .fn 74 [.box 2 0]), (5, .int .i64 0), (4, .box 1 0), (2, .box 0 0)], objs := NsA.O k { o := o, bg := bg, s := s, l := l, e := { e2 with read := [] }, nr := nr, fr := fr ++ e2.read, out := out, dd := false }, live := [], nxt := 3 } ?_ 74 [.box 2 0] rfl Tryz.func74 rfl (by decide) rfl (by decide) ?_
  ·simp only [zipB, upto, List.cons_append, List.nil_append, NsA.O, Hf.cf, hzG]
   exact Wk.by _ _ _ [(0, 0), (1, 4), (2, 144)] [] [] (by simp) (by simp [wkV, wkL, PV.el, PV.weak, PS.get, PS.obj, PS.lv, lkp_hit, lkp_miss, lkp_nil, lko]) (by simp [PS.get, PS.obj, PS.lv, lkp_hit, lkp_miss, lkp_nil, lko, wkL, wkC, PV.weak]) (by simp) (by rfl) (by rfl) (by simp [lko]) (by simp) (by simp) (by simp) (fun i hi => absurd hi (Nat.not_lt_zero i))
  refine VCY_sound mixed ?_
  simp -implicitDefEqProofs only [push_cast, itS, seval]
  refine YWP.loop (α := NsA RR) (NsA.st k) (fun _ => none) (fun a => a.h.fr.length) ⟨_, fr.length + e2.read.length + 1, by simp, by simpa using hfr, hlk, by simpa using hob, hRR⟩ ?_ rfl ?_
  ·simp only [NsA.st, NsA.O, ycOf]
   exact Wk.by _ _ _ [(0, 0), (1, 1), (2, 2), (3, 3)] [] [] (by simp) (by simp [wkV, PV.el, PV.weak, PS.get, PS.obj, PS.lv, lkp_hit, lkp_miss, lkp_nil, lko]) (by simp [PS.get, PS.obj, PS.lv, lkp_hit, lkp_miss, lkp_nil, lko, wkL, wkC, PV.weak, Hf.cf, hzG]) (by simp) (by rfl) (by rfl) (by simp [lko]) (by simp) (by simp) (by simp) (fun i hi => by have hi' : i < 4 := hi; rcases i with _ | _ | _ | _ | i <;> first | rfl | (exfalso; omega))
  clear hRR hM hG hRd hR
  rintro ⟨h, f, hf, hb, hlk1, hob1, he⟩
  cases f with
  | zero => exact absurd hf (Nat.not_lt_zero _)
  | succ f =>
  rw [Hf.shr] at he
  obtain ⟨o1, bg1, s1, l1, e1, nr1, fr1, out1, dd1⟩ := h
  simp only at he hf hb hlk1 hob1
  refine VCY_sound mixed ?_
  simp only [NsA.st, NsA.O, Hf.cf]
  cases c1 : decide ((4 : Int) ≤ (fr1.length : Int)) with
  | false =>
   rw [if_neg (by rw [c1]; decide)] at he
   simp -implicitDefEqProofs only [push_cast, c1, seval]
   refine ⟨.inl rfl, hQ.2 _ _ _ ?_ rfl⟩
   rw [← he]; rfl
  | true =>
   have h4 : 4 ≤ fr1.length := by simp at c1; omega
   rw [if_pos c1] at he
   obtain ⟨q1, q2, q3⟩ := four_is h4
   have hGet := get_fs (o := 1) (s := 4) (.inr rfl) (by unfold isSize; omega) (fr1.take 4)
   rw [q1] at hGet
   rw [show getV 1 4 (fr1.take 4) = fourN fr1 from rfl] at hGet
   simp -implicitDefEqProofs only [push_cast, c1, seval]
   refine YWP.reg mixed ?_
   simp -implicitDefEqProofs only [push_cast, seval]
   (repeat (first | refine ⟨(by omega : _ ≤ _), ?_⟩ | refine ⟨(by omega : _ < _), ?_⟩ | refine ⟨(by simp; omega), ?_⟩ | refine ⟨(by simp; done), ?_⟩ | refine ⟨(by (unfold drawOk; kernel_rfl)), ?_⟩))
   refine callE_p hGet ?_
   have hwl : IntKind.i64.wrap ((fr1.length : Int) - 4) = (fr1.length : Int) - 4 := wrap_i64_id (by omega) (by omega)
   obtain ⟨n, hn⟩ : ∃ n : Nat, fourN fr1 = (n : Int) := ⟨(fourN fr1).toNat, by omega⟩
   rw [hn] at he q3 ⊢
   rw [Int.toNat_natCast] at he
   cases c2 : decide ((131072 : Int) < (n : Int)) with
   | true =>
    rw [if_pos c2] at he
    simp -implicitDefEqProofs only [push_cast, c2, seval]
    refine ⟨.inr rfl, hQ.2 _ _ _ ?_ rfl⟩
    rw [← he]; rfl
   | false =>
    rw [if_neg (by rw [c2]; decide)] at he
    cases c3 : decide ((fr1.length : Int) - 4 < (n : Int)) with
    | true =>
     rw [if_pos c3] at he
     simp -implicitDefEqProofs only [push_cast, c2, c3, hwl, seval]
     refine ⟨.inr rfl, hQ.2 _ _ _ ?_ rfl⟩
     rw [← he]; rfl
    | false =>
     rw [if_neg (by rw [c3]; decide)] at he
     have hnl : 4 + n ≤ fr1.length := by simp at c3; omega
     have hn6 : n ≤ 131072 := by simp at c2; omega
     have hw4 : IntKind.i64.wrap (4 + (n : Int)) = 4 + (n : Int) := wrap_i64_id (by omega) (by omega)
     have ht4 : (4 + (n : Int)).toNat = 4 + n := by omega
     have hg := cget_fs l1 ((fr1.drop 4).take n) hlk1 (by rw [List.length_take]; omega)
     have hgo := Cc.Ok.get hlk1 ((fr1.drop 4).take n)
     have hs4 : 4 + n - 4 = n := by omega
     have hdl : (fr1.drop (4 + n)).length = fr1.length - (4 + n) := List.length_drop
     have htk : (fr1.drop (4 + n)).take (fr1.length - (4 + n)) = fr1.drop (4 + n) := List.take_of_length_le (by omega)
     simp -implicitDefEqProofs only [push_cast, c2, c3, hwl, hw4, ht4, hs4, htk, seval]
     (repeat (first | refine ⟨(by omega : _ ≤ _), ?_⟩ | refine ⟨(by omega : _ < _), ?_⟩ | refine ⟨(by simp; omega), ?_⟩ | refine ⟨(by simp; done), ?_⟩ | refine ⟨(by (unfold drawOk; kernel_rfl)), ?_⟩))
     refine YWP.reg_y 2 mixed ⟨by rfl, by rfl, by simp [ycOf]⟩ ?_ ?_ ?_
     ·intro S pe h
      have h' : ryK _ _ Exit.outgrown S pe := h
      rcases h'.1 with h | h <;> cases h
     ·decide
     simp -implicitDefEqProofs only [push_cast, seval]
     refine yldE_of _ (.tmp 55) #[.tmp 56] #[9] 57 rfl rfl (by rfl) rfl (by rfl) (by rfl) (by rfl) (by rfl) (by simp) ?_
     refine RndP.of mixed ⟨by rfl, by rfl, by simp [ycOf]⟩ ?_
     simp only [ycOf, ybeg]
     simp -implicitDefEqProofs only [push_cast, pz, seval]
     generalize (fr1.drop 4).take n = ss at *
     generalize l1.get ss = G at *
     obtain ⟨l2, one, er⟩ := G
     simp only at hg hgo he
     simp only [Cc.pv] at hg
     refine callE_p hg ?_
     cases c4 : (er != 0) with
     | true =>
      rw [if_pos c4] at he
      simp -implicitDefEqProofs only [push_cast, c4, seval]
      refine ⟨.inr rfl, hQ.1 _ (hQ.2 _ _ _ ?_ rfl)⟩
      rw [← he]; rfl
     | false =>
      rw [if_neg (by rw [c4]; decide)] at he
      simp -implicitDefEqProofs only [push_cast, c4, seval]
      refine ⟨by omega, ⟨_, f, ?_, ?_, hgo.1, ?_, he⟩, ?_, ?_, rfl⟩
      ·simp only at hf ⊢; omega
      ·simp only; omega
      ·simp only [List.length_append]; omega
      ·simp only; omega
      ·simp only [NsA.st, NsA.O, Hf.cf]
       exact Wk.by _ _ _ [(0, 0), (1, 1), (2, 2), (3, 3)] [] [] (by simp) (by simp [wkV, PV.el, PV.weak, PS.get, PS.obj, PS.lv, lkp_hit, lkp_miss, lkp_nil, lko]) (by simp [PS.get, PS.obj, PS.lv, lkp_hit, lkp_miss, lkp_nil, lko, wkL, wkC, PV.weak, hzG, htk]) (by simp) (by rfl) (by rfl) (by simp [lko]) (by simp) (by simp) (by simp) (fun i hi => by have hi' : i < 4 := hi; rcases i with _ | _ | _ | _ | i <;> first | rfl | (exfalso; omega))
end Go.Proofs.Sh
