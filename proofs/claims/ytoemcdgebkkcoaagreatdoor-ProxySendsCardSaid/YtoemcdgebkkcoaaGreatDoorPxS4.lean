/- The library's contract at this program: strings.Join. -/
import Derived.Test.YtoemcdgebkkcoaaGreatDoorShTypes
import Derived.Test.YtoemcdgebkkcoaaGreatDoorPxC5
import Derived.Test.YtoemcdgebkkcoaaGreatDoorProg
import Derived.KernelRfl
import Derived.Shelf.Strings.OnBuilder
import Derived.Test.YtoemcdgebkkcoaaGreatDoorPxS1
namespace Go.Proofs
open Go.Shelf
def Tryz.laysN156_ren : Go.Shelf.Ren := ⟨fun | 156 => 21 | 165 => 43 | 166 => 44 | 169 => 45 | 240 => 77 | 241 => 78 | 276 => 96 | 277 => 97 | n => n, fun | 31 => 28 | 9 => 9 | 3 => 3 | 4 => 4 | 0 => 0 | 20 => 20 | 72 => 89 | 76 => 93 | 70 => 87 | 37 => 23 | 75 => 92 | 127 => 139 | 164 => 159 | 5 => 5 | 80 => 95 | n => n, fun | n => n⟩
theorem Tryz.laysN156 : Go.Proofs.Lays.n156 Tryz.prog Tryz.laysN156_ren := {
  mixed := by kernel_rfl
  f156 := Tryz.func21.trans (congrArg some (by kernel_rfl))
  f165 := Tryz.func43.trans (congrArg some (by kernel_rfl))
  f166 := Tryz.func44.trans (congrArg some (by kernel_rfl))
  f169 := Tryz.func45.trans (congrArg some (by kernel_rfl))
  f240 := Tryz.func77.trans (congrArg some (by kernel_rfl))
  f241 := Tryz.func78.trans (congrArg some (by kernel_rfl))
  f276 := Tryz.func96.trans (congrArg some (by kernel_rfl))
  f277 := Tryz.func97.trans (congrArg some (by kernel_rfl))
  t0 := Tryz.underlying0
  a0 := Tryz.isAgg0
  z0 := Tryz.sizeOf0
  v0 := Tryz.zeroValue0
  t3 := Tryz.underlying3
  a3 := Tryz.isAgg3
  z3 := Tryz.sizeOf3
  v3 := Tryz.zeroValue3
  t4 := Tryz.underlying4
  a4 := Tryz.isAgg4
  z4 := Tryz.sizeOf4
  v4 := Tryz.zeroValue4
  t9 := Tryz.underlying9
  a9 := Tryz.isAgg9
  z9 := Tryz.sizeOf9
  v9 := Tryz.zeroValue9
  t20 := Tryz.underlying20
  a20 := Tryz.isAgg20
  z20 := Tryz.sizeOf20
  v20 := Tryz.zeroValue20
  t31 := Tryz.underlying28
  a31 := Tryz.isAgg28
  z31 := Tryz.sizeOf28
  v31 := Tryz.zeroValue28
  t37 := Tryz.underlying23
  a37 := Tryz.isAgg23
  z37 := Tryz.sizeOf23
  v37 := Tryz.zeroValue23
  t70 := Tryz.underlying87
  a70 := Tryz.isAgg87
  z70 := Tryz.sizeOf87
  v70 := Tryz.zeroValue87
  t72 := Tryz.underlying89
  a72 := Tryz.isAgg89
  z72 := Tryz.sizeOf89
  v72 := Tryz.zeroValue89
  t75 := Tryz.underlying92
  a75 := Tryz.isAgg92
  z75 := Tryz.sizeOf92
  v75 := Tryz.zeroValue92
  t76 := Tryz.underlying93
  a76 := Tryz.isAgg93
  z76 := Tryz.sizeOf93
  v76 := Tryz.zeroValue93
  t127 := Tryz.underlying139
  a127 := Tryz.isAgg139
  z127 := Tryz.sizeOf139
  v127 := Tryz.zeroValue139
  t164 := Tryz.underlying159
  a164 := Tryz.isAgg159
  z164 := Tryz.sizeOf159
  v164 := Tryz.zeroValue159 }
namespace Sh
open Go.Pv
open Go.RowKit (Below)
theorem bld_extra : Go.Proofs.Builder.Extra Tryz.prog Tryz.laysN156_ren := { sizeBuilder := by kernel_rfl, liesBuilder := by kernel_rfl, t5 := Tryz.underlying5, a5 := Tryz.isAgg5, z5 := Tryz.sizeOf5, v5 := Tryz.zeroValue5, infoByte := by kernel_rfl, cellsByte := by kernel_rfl, sizeByte := by kernel_rfl, neB5 := by decide }
theorem join_fs (L : List Bys) (s : Bys) (hl : L.length ≤ 1000000) (h : (Lib.join L s).length ≤ 140737488355328) : Fsp Tryz.prog 21 [] 0 [.sl 1 (sts L), .str s] [] 0 (.str (Lib.join L s)) := by
  refine Fsp.of_below ⟨Tryz.f21, Tryz.func21, by kernel_rfl, by kernel_rfl⟩ ?_
  intro g w vs hI hsz hargs
  rcases vs with ⟨_ | ⟨a, _ | ⟨b, _ | ⟨c, r⟩⟩⟩⟩ <;> simp at hsz
  have ha := (hargs 0 a _ rfl rfl).sl_inv
  have hb := (hargs 1 b _ rfl rfl).str_inv
  subst hb
  cases L with
  | nil =>
    have key : ∀ (q : Option Addr) (c : Nat), Calls Tryz.prog 21 #[.slice q 0 c, .string ⟨⟨s⟩⟩] w (fun e w' => ∃ v, e = .returned v ∧ PRel g.h v (.str (Lib.join [] s)) ∧ Below w.heap.size w w') := fun q c =>
      (Any.strings_Join_none Tryz.laysN156 bld_extra q c ⟨⟨s⟩⟩ w).mono fun e w' h => ⟨_, h.1, .str _, h.2 ▸ Go.RowKit.Below.refl _ _⟩
    generalize hes : sts [] = es at ha
    cases ha with
    | slnil => exact key _ _
    | slx a => exact key _ _
    | sl b off n cap _ _ vals hn hc hm hsz hh ho hp =>
      rw [← hes] at hn
      subst hn
      exact key _ _
  | cons x r =>
    generalize hes : sts (x :: r) = es at ha
    cases ha with
    | slnil => cases hes
    | slx a => cases hes
    | sl b off n cap _ _ vals hn hc hm hsz hh ho hp =>
      subst hes
      have hfl : (sts (x :: r)).flatMap PV.cells = sts (x :: r) := by
        generalize x :: r = L
        induction L with
        | nil => rfl
        | cons y L ih => show PV.cells (.str y) ++ (sts L).flatMap PV.cells = _; rw [ih]; rfl
      rw [hfl] at hh ho hp
      generalize hL : x :: r = L at *
      have h0 : 0 < (sts L).length := by rw [← hL]; exact Nat.succ_pos _
      have hcell : ∀ (j : Nat) (y : Bys), L[j]? = some y → w.cell? ⟨b, off + j, none⟩ = some (.string ⟨⟨y⟩⟩) := by
        intro j y hj
        have hjl : j < L.length := by obtain ⟨hh, _⟩ := List.getElem?_eq_some_iff.1 hj; exact hh
        have hjs : j < (sts L).length := by rw [sts_length]; exact hjl
        have h1 := wcell_cell (hI.hw _ _ _ (hh j hjs)) (ho j hjs)
        have h2 := hp j (.str y) (by rw [sts, List.getElem?_map, hj]; rfl)
        generalize vals j = v at h1 h2
        cases h2
        exact h1
      have hbk : b < w.heap.size := wcell_lt (hI.hw _ _ _ (hh 0 h0))
      have hJ := Any.strings_Join Tryz.laysN156 bld_extra b off cap (L.map fun y => (⟨⟨y⟩⟩ : ByteArray)) ⟨⟨s⟩⟩ w
        (fun j y hj => by
          rw [List.getElem?_map] at hj
          obtain ⟨z, hz, rfl⟩ := Option.map_eq_some_iff.1 hj
          exact hcell j z hz) hbk (by rw [List.length_map]; omega) (by rw [List.length_map]; rw [sts_length] at hn; omega)
        (by rw [List.map_map]; simpa [Function.comp_def] using h)
      rw [List.length_map, List.map_map] at hJ
      rw [sts_length] at hn
      subst hn
      refine hJ.mono fun e w' h => ⟨_, h.1, ?_, h.2⟩
      simp only [Function.comp_def, List.map_id']
      exact .str _
end Sh
end Go.Proofs

/- A half's small methods; Few; Asks; strings.Join. -/
set_option maxRecDepth 100000
set_option linter.unusedSimpArgs false
set_option linter.unusedVariables false
namespace Go.Proofs.Sh
open Go.Pv
open Lk (En Pc)
theorem hdead_fs (h : Hf) : Fsp Tryz.prog 14 [] 0 [h.pv] [] 0 (.bool h.dd) := by
  unfold Hf.pv
  (refine Fsp.of (nx := 0) mixed Tryz.func14 rfl (by decide) (by first | exact Nat.le_refl _ | simp) (by simp [Tryz.f14]) ⟨by decide, by decide⟩ ?_; simp -implicitDefEqProofs only [push_cast, Tryz.f14, Hf.cs, seval])
  all_goals (first | done | rfl | exact ⟨_, rfl, by simp [wkL, res2, res1, PV.weak, PV.el]⟩ | (simp [wkL, res2, res1, PV.weak, PV.el]; done))
theorem hquiet_fs (h : Hf) : Fsp Tryz.prog 17 [] 0 [h.pv] [] 0 (.bool (decide (h.e.way.length = 0) && !h.e.ack)) := by
  have hQ := Lk.quiet_fs h.e
  simp only [Lk.En.pv, Lk.En.cs, Lk.pcs] at hQ
  unfold Hf.pv
  (refine Fsp.of (nx := 0) mixed Tryz.func17 rfl (by decide) (by first | exact Nat.le_refl _ | simp) (by simp [Tryz.f17]) ⟨by decide, by decide⟩ ?_; simp -implicitDefEqProofs only [push_cast, Tryz.f17, Hf.cs, seval])
  refine callE_pure hQ (by rfl) (by rfl) (by rfl) (by decide) (by rfl) (fun _ => by rfl) (by first | rfl | simp [gdOk, newToks]) ?_
  simp -implicitDefEqProofs only [push_cast, seval]
  all_goals (first | done | rfl | exact ⟨_, rfl, by simp [wkL, res2, res1, PV.weak, PV.el]⟩ | (simp [wkL, res2, res1, PV.weak, PV.el]; done))
theorem hdue_fs (h : Hf) (hw : h.e.way.length ≤ 1000) (hs : ∀ q ∈ h.e.way, q.b.length ≤ 1000000) : Fsp Tryz.prog 25 [] 0 [h.pv] [] 0 (.tup [({ h with e := h.e.due } : Hf).pv, .sl 1 (sts h.e.dueP)]) := by
  have hD := Lk.due_fs h.e hw hs
  obtain ⟨o, bg, s, l, e, nr, fr, out, dd⟩ := h
  simp only at hD ⊢
  have hz : List.map PV.str e.dueP = sts e.dueP := rfl
  rw [hz] at hD
  generalize e.dueP = D at *
  generalize he : e.due = e2 at *
  simp only [Lk.En.pv, Lk.En.cs, Lk.pcs] at hD
  unfold Hf.pv
  (refine Fsp.of (nx := 0) mixed Tryz.func25 rfl (by decide) (by first | exact Nat.le_refl _ | simp) (by simp [Tryz.f25]) ⟨by decide, by decide⟩ ?_; simp -implicitDefEqProofs only [push_cast, Tryz.f25, Hf.cs, seval])
  refine callE_pure hD (by rfl) (by rfl) (by rfl) (by decide) (by rfl) (fun _ => by rfl) (by first | rfl | simp [gdOk, newToks]) ?_
  simp -implicitDefEqProofs only [push_cast, seval]
  all_goals (first | done | rfl | exact ⟨_, rfl, by simp [wkL, res2, res1, PV.weak, PV.el, Hf.cs]⟩ | (simp [wkL, res2, res1, PV.weak, PV.el, Hf.cs]; done))
theorem neardead_fs (h : Hf) (b : Bys) (hd : h.dd = true) : Fsp Tryz.prog 11 [] 0 [h.pv, .str b] [] 0 (.tup [h.pv, .int .i64 20]) := by
  obtain ⟨o, bg, s, l, e, nr, fr, out, dd⟩ := h
  simp only at hd
  subst hd
  unfold Hf.pv
  (refine Fsp.of (nx := 0) mixed Tryz.func11 rfl (by decide) (by first | exact Nat.le_refl _ | simp) (by simp [Tryz.f11]) ⟨by decide, by decide⟩ ?_; simp -implicitDefEqProofs only [push_cast, Tryz.f11, Hf.cs, seval])
  all_goals (first | done | rfl | exact ⟨_, rfl, by simp [wkL, res2, res1, PV.weak, PV.el, Hf.cs]⟩ | (simp [wkL, res2, res1, PV.weak, PV.el, Hf.cs]; done))
def rqL (l : List Rq) : List PV := l.map Rq.pv
theorem rqL_length (l : List Rq) : (rqL l).length = l.length := List.length_map _
def rq0 : Rq := ⟨0, [], [], []⟩
theorem rq_at {l : List Rq} {i : Nat} (h : i < l.length) : (rqL l).getD i PV.any = (l.getD i rq0).pv := by
  rw [rqL, List.getD_eq_getElem?_getD, List.getElem?_map, List.getElem?_eq_getElem h, List.getD_eq_getElem?_getD, List.getElem?_eq_getElem h]; rfl
theorem rq_drop {l : List Rq} {i : Nat} (h : i < l.length) : l.drop i = l.getD i rq0 :: l.drop (i + 1) := by
  rw [List.getD_eq_getElem?_getD, List.getElem?_eq_getElem h]; exact List.drop_eq_getElem_cons h
/-- A request of so many numbers and bytes. -/
def rqBig (r : Rq) : Bool := decide ((20 : Int) < r.N.length) || decide ((60 : Int) < r.B.length) || decide ((40 : Int) < r.L.length)
def fewB (l : List Rq) (rest : Bys) : Bool := !(l.any rqBig) && (decide ((l.length : Int) ≤ 12) && decide ((rest.length : Int) ≤ 100))
structure FwA (l : List Rq) where
  i : Nat
  h : i ≤ l.length
  e : (l.drop i).any rqBig = l.any rqBig
def FwA.st (l : List Rq) (rest : Bys) (a : FwA l) : PS := { n := 38, env := [(9, .int .i64 a.i), (8, .int .i64 l.length), (7, .sl 4 (rqL l)), (4, .bool false), (1, .str rest), (0, .sl 4 (rqL l))], objs := [], live := [], nxt := 60 }
theorem few_fs (l : List Rq) (rest : Bys) (hl : l.length ≤ 1000000000000000) : Fsp Tryz.prog 7 [] 0 [.sl 4 (rqL l), .str rest] [] 0 (.bool (fewB l rest)) := by
  generalize hR : fewB l rest = R
  unfold fewB at hR
  (refine Fsp.of (nx := 0) mixed Tryz.func7 rfl (by decide) (by first | exact Nat.le_refl _ | simp) (by simp [Tryz.f7]) ⟨by decide, by decide⟩ ?_; simp -implicitDefEqProofs only [push_cast, Tryz.f7, seval])
  simp -implicitDefEqProofs only [push_cast, rqL_length, seval]
  refine loopC_of (α := FwA l) (FwA.st l rest) (fun a => l.length - a.i) ⟨0, by omega, rfl⟩ ?_ ?_
  · (simp only [FwA.st]; exact Wk.by _ _ _ [] [] [] (by simp) (by simp [wkV, PV.el, PV.weak, PS.get, PS.obj, PS.lv, lkp_hit, lkp_miss, lkp_nil, lko, wkL, wkC, res1]) (by simp [PS.get, PS.obj, PS.lv, lkp_hit, lkp_miss, lkp_nil, lko, wkL, wkC, PV.weak, wkL, wkC, res1]) (by simp [PS.get, PS.obj, PS.lv, lkp_hit, lkp_miss, lkp_nil, lko]) (by rfl) (by rfl) (by simp [lko]) (by simp) (by simp) (by simp) (fun i hi => absurd hi (Nat.not_lt_zero i)))
  · rintro ⟨i, hi, he⟩
    simp only [FwA.st]
    simp -implicitDefEqProofs only [push_cast, rqL_length, seval]
    refine condC_split (fun g1 => ?_) (fun g1 => ?_)
    · have hlt : i < l.length := by simp at g1; omega
      have hwi : IntKind.i64.wrap ((i : Int) + 1) = ((i + 1 : Nat) : Int) := by (rw [wrap_i64_id (by omega) (by omega)]; rfl)
      have hg := rq_at hlt
      rw [rq_drop hlt, List.any_cons] at he
      generalize l.getD i rq0 = r at *
      simp only [Rq.pv] at hg
      simp -implicitDefEqProofs only [push_cast, hg, rqL_length, seval]
      (repeat (first | refine ⟨(by omega : _ ≤ _), ?_⟩ | refine ⟨(by omega : _ < _), ?_⟩ | refine ⟨by (unfold drawOk; kernel_rfl), ?_⟩ | refine ⟨(by simp; done), ?_⟩ | refine ⟨(by simp; omega), ?_⟩))
      refine condC_split (fun g2 => ?_) (fun g2 => ?_)
      · have hb : rqBig r = true := by unfold rqBig; simpa [ints] using g2
        rw [hb, Bool.true_or] at he
        rw [← he] at hR
        subst hR
        simp -implicitDefEqProofs only [push_cast, seval]
        all_goals (first | done | rfl | exact ⟨_, rfl, by simp [wkL, res2, res1, PV.weak, PV.el]⟩ | (simp [wkL, res2, res1, PV.weak, PV.el]; done))
      · have hb : rqBig r = false := by unfold rqBig; simpa [ints] using g2
        rw [hb, Bool.false_or] at he
        simp -implicitDefEqProofs only [push_cast, hwi, seval]
        refine ⟨⟨i + 1, hlt, he⟩, by simp only; omega, ?_⟩
        (simp only [FwA.st]; exact Wk.by _ _ _ [] [] [] (by simp) (by simp [wkV, PV.el, PV.weak, PS.get, PS.obj, PS.lv, lkp_hit, lkp_miss, lkp_nil, lko, wkL, wkC, res1]) (by simp [PS.get, PS.obj, PS.lv, lkp_hit, lkp_miss, lkp_nil, lko, wkL, wkC, PV.weak, wkL, wkC, res1]) (by simp [PS.get, PS.obj, PS.lv, lkp_hit, lkp_miss, lkp_nil, lko]) (by rfl) (by rfl) (by simp [lko]) (by simp) (by simp) (by simp) (fun i hi => absurd hi (Nat.not_lt_zero i)))
    · have hie : i = l.length := by simp at g1; omega
      subst hie
      rw [List.drop_length] at he
      rw [← he] at hR
      subst hR
      simp -implicitDefEqProofs only [push_cast, rqL_length, seval]
      all_goals (first | done | rfl | exact ⟨_, rfl, by simp [wkL, res2, res1, PV.weak, PV.el]⟩ | (simp [wkL, res2, res1, PV.weak, PV.el]; done))
theorem packS_len (o : Int) (r : Rq) : (packS o r).1.length ≤ 65536 := by
  unfold packS
  split
  · split
    · simp
    · split
      · simp
      · split
        · simp
        · rename_i f e1 e2 h
          have h' : ¬ ((65536 : Int) < ((fmt o f r.fd).length : Int) + 4) := by simpa using h
          simp only [hd, List.length_append, encB_length]
          omega
  · simp
def asksB (o : Int) (l : List Rq) : Bys := (l.map fun r => (packS o r).1).flatten
theorem asksB_len (o : Int) : ∀ l : List Rq, (asksB o l).length ≤ 65536 * l.length
  | [] => by simp [asksB]
  | r :: l => by
    have := asksB_len o l
    have h := packS_len o r
    unfold asksB at *
    rw [List.map_cons, List.flatten_cons, List.length_append, List.length_cons]
    omega
structure AsA (l : List Rq) where
  i : Nat
  h : i ≤ l.length
def AsA.st (o : Int) (l : List Rq) (rest : Bys) (a : AsA l) : PS := { n := 33, env := [(16, .int .i64 a.i), (15, .int .i64 l.length), (14, .sl 4 (rqL l)), (7, .str (beg o ++ asksB o (l.take a.i))), (6, .str []), (2, .str rest), (0, .int .i64 o)], objs := [], live := [], nxt := 60 }
theorem asks_fs {o : Int} (ho : isOrder o) (l : List Rq) (rest : Bys) (hl : l.length ≤ 12) (hr : rest.length ≤ 100) (hF : ∀ x ∈ l, x.Few) : Fsp Tryz.prog 9 [] 0 [.int .i64 o, .sl 4 (rqL l), .str rest] [] 0 (.str (beg o ++ asksB o l ++ rest)) := by
  have hb := begin_fs ho
  have hbl := beg_length o
  have h0 : beg o ++ asksB o (l.take 0) = beg o := by simp [asksB]
  (refine Fsp.of (nx := 0) mixed Tryz.func9 rfl (by decide) (by first | exact Nat.le_refl _ | simp) (by simp [Tryz.f9]) ⟨by decide, by decide⟩ ?_; simp -implicitDefEqProofs only [push_cast, Tryz.f9, seval])
  refine callE_pure hb (by rfl) (by rfl) (by rfl) (by decide) (by rfl) (fun _ => by rfl) (by first | rfl | simp [gdOk, newToks]) ?_
  simp -implicitDefEqProofs only [push_cast, rqL_length, seval]
  refine loopC_of (α := AsA l) (AsA.st o l rest) (fun a => l.length - a.i) ⟨0, by omega⟩ ?_ ?_
  · (simp only [AsA.st, h0]; exact Wk.by _ _ _ [] [] [] (by simp) (by simp [wkV, PV.el, PV.weak, PS.get, PS.obj, PS.lv, lkp_hit, lkp_miss, lkp_nil, lko, wkL, wkC, res1]) (by simp [PS.get, PS.obj, PS.lv, lkp_hit, lkp_miss, lkp_nil, lko, wkL, wkC, PV.weak, wkL, wkC, res1]) (by simp [PS.get, PS.obj, PS.lv, lkp_hit, lkp_miss, lkp_nil, lko]) (by rfl) (by rfl) (by simp [lko]) (by simp) (by simp) (by simp) (fun i hi => absurd hi (Nat.not_lt_zero i)))
  · rintro ⟨i, hi⟩
    simp only [AsA.st]
    simp -implicitDefEqProofs only [push_cast, rqL_length, seval]
    refine condC_split (fun g1 => ?_) (fun g1 => ?_)
    · have hlt : i < l.length := by simp at g1; omega
      have hwi : IntKind.i64.wrap ((i : Int) + 1) = ((i + 1 : Nat) : Int) := by (rw [wrap_i64_id (by omega) (by omega)]; rfl)
      have hg := rq_at hlt
      have hm : l.getD i rq0 ∈ l := by rw [List.getD_eq_getElem?_getD, List.getElem?_eq_getElem hlt]; exact List.getElem_mem hlt
      have hP := packPut_fs o _ (hF _ hm)
      have hS : asksB o (l.take (i + 1)) = asksB o (l.take i) ++ (packS o (l.getD i rq0)).1 := by
        unfold asksB
        rw [List.take_succ_eq_append_getElem hlt, List.map_append, List.flatten_append, List.getD_eq_getElem?_getD, List.getElem?_eq_getElem hlt]
        simp
      have hA := asksB_len o (l.take i)
      have hAl : (l.take i).length ≤ 12 := by rw [List.length_take]; omega
      have hpl := packS_len o (l.getD i rq0)
      unfold packR at hP
      generalize l.getD i rq0 = r at *
      generalize hp1 : (packS o r).1 = p1 at *
      generalize (packS o r).2 = p2 at *
      have hal : (beg o ++ asksB o (l.take i)).length + p1.length ≤ 1000000 := by rw [List.length_append, hbl]; omega
      have hB : beg o ++ asksB o (l.take (i + 1)) = beg o ++ asksB o (l.take i) ++ p1 := by rw [hS, List.append_assoc]
      generalize beg o ++ asksB o (l.take i) = q at *
      simp only [Rq.pv] at hg hP
      simp -implicitDefEqProofs only [push_cast, hg, rqL_length, seval]
      (repeat (first | refine ⟨(by omega : _ ≤ _), ?_⟩ | refine ⟨(by omega : _ < _), ?_⟩ | refine ⟨by (unfold drawOk; kernel_rfl), ?_⟩ | refine ⟨(by simp; done), ?_⟩ | refine ⟨(by simp; omega), ?_⟩))
      refine callE_pure hP (by rfl) (by rfl) (by rfl) (by decide) (by rfl) (fun _ => by rfl) (by first | rfl | simp [gdOk, newToks]) ?_
      simp -implicitDefEqProofs only [push_cast, hwi, seval]
      refine ⟨by omega, ⟨i + 1, hlt⟩, by simp only; omega, ?_⟩
      (simp only [AsA.st, hB]; exact Wk.by _ _ _ [] [] [] (by simp) (by simp [wkV, PV.el, PV.weak, PS.get, PS.obj, PS.lv, lkp_hit, lkp_miss, lkp_nil, lko, wkL, wkC, res1]) (by simp [PS.get, PS.obj, PS.lv, lkp_hit, lkp_miss, lkp_nil, lko, wkL, wkC, PV.weak, wkL, wkC, res1]) (by simp [PS.get, PS.obj, PS.lv, lkp_hit, lkp_miss, lkp_nil, lko]) (by rfl) (by rfl) (by simp [lko]) (by simp) (by simp) (by simp) (fun i hi => absurd hi (Nat.not_lt_zero i)))
    · have hie : i = l.length := by simp at g1; omega
      subst hie
      rw [List.take_length]
      have hA := asksB_len o l
      have hal : (beg o ++ asksB o l).length + rest.length ≤ 1000000 := by rw [List.length_append, hbl]; omega
      simp -implicitDefEqProofs only [push_cast, rqL_length, seval]
      omega
end Go.Proofs.Sh

/- What a half is handed, plain: its messages are the document's. -/
set_option maxRecDepth 100000
set_option linter.unusedSimpArgs false
set_option linter.unusedVariables false
namespace Go.Proofs.Sh
open Go.Pv
open Lk (En Pc)
theorem lenN_app {o : Int} {b : Bys} (h : 4 ≤ b.length) (x : Bys) : lenN o (b ++ x) = lenN o b := by
  unfold lenN
  rw [List.drop_append_of_le_length (by omega), List.take_append_of_le_length (by rw [List.length_drop]; omega)]
theorem reqN_app {o : Int} {b : Bys} (h : 4 ≤ b.length) (x : Bys) : reqN o (b ++ x) = reqN o b := by
  unfold reqN
  rw [lenN_app h, if_neg (show ¬ (b ++ x).length < 4 by rw [List.length_append]; omega), if_neg (show ¬ b.length < 4 by omega)]
theorem rqs_succ (o : Int) : ∀ (f : Nat) (b : Bys), b.length ≤ f → rqs o (f + 1) b = rqs o f b
  | 0, b, h => by
    have hb : b = [] := List.length_eq_zero_iff.1 (by omega)
    subst hb
    rw [rqs, rqs]
    simp [reqN]
  | f + 1, b, h => by
    rw [rqs]
    conv => rhs; rw [rqs]
    by_cases h1 : reqN o b < 0
    · rw [if_pos h1, if_pos h1]
    · rw [if_neg h1, if_neg h1]
      by_cases h2 : reqN o b = 0 ∨ (b.length : Int) < reqN o b
      · rw [if_pos h2, if_pos h2]
      · obtain ⟨n, hn, h4, hl⟩ := reqN_big h1 h2
        rw [if_neg h2, if_neg h2, hn, Int.toNat_natCast, rqs_succ o f (b.drop n) (by rw [List.length_drop]; omega)]
theorem rqs_len (o : Int) (b : Bys) : ∀ f, b.length ≤ f → rqs o f b = rqs o b.length b := by
  intro f h
  induction f with
  | zero => rw [show b.length = 0 by omega]
  | succ f ih =>
    by_cases hb : b.length ≤ f
    · rw [rqs_succ o f b hb, ih hb]
    · rw [show f + 1 = b.length by omega]
/-- The messages of bytes. -/
def rqT (o : Int) (b : Bys) : List Bys × Bool := rqs o b.length b
theorem rqT_st (o : Int) (b : Bys) : rqT o b = if reqN o b < 0 then ([], true) else if reqN o b = 0 ∨ (b.length : Int) < reqN o b then ([], false) else (b.take (reqN o b).toNat :: (rqT o (b.drop (reqN o b).toNat)).1, (rqT o (b.drop (reqN o b).toNat)).2) := by
  unfold rqT
  rw [← rqs_succ o b.length b (Nat.le_refl _), rqs, rqs_len o (b.drop (reqN o b).toNat) b.length (by rw [List.length_drop]; omega)]
def rq (o : Int) (bg : Bool) (b : Bys) : List Bys × Bool := if bg = true then rqT o b else reqs o b
theorem reqs_st (o : Int) (b : Bys) : reqs o b = if b.length < 4 then ([], false) else if (b.take 4 != beg o) = true then ([], true) else (beg o :: (rqT o (b.drop 4)).1, (rqT o (b.drop 4)).2) := by
  unfold reqs rqT
  rw [rqs_len o (b.drop 4) b.length (by rw [List.length_drop]; omega)]
/-- A whole message is there. -/
theorem wh_yes {h : Hf} (ho : isOrder h.o) (hw : h.wh.2.1 = true) (x : Bys) : rq h.o h.bg (h.nr ++ x) = (h.nr.take h.wh.1.toNat :: (rq h.o true (h.nr.drop h.wh.1.toNat ++ x)).1, (rq h.o true (h.nr.drop h.wh.1.toNat ++ x)).2) := by
  obtain ⟨n, hn, h4, hl, h6, hd⟩ := wh_n ho hw
  have hO : isOrd h.o = true := by rcases ho with h | h <;> rw [h] <;> rfl
  obtain ⟨o, bg, s, l, e, nr, fr, out, dd⟩ := h
  simp only at *
  rw [hn, Int.toNat_natCast]
  have htk : (nr ++ x).take n = nr.take n := List.take_append_of_le_length hl
  have hdr : (nr ++ x).drop n = nr.drop n ++ x := List.drop_append_of_le_length hl
  have hal : nr.length ≤ (nr ++ x).length := by rw [List.length_append]; omega
  unfold rq
  cases bg with
  | false =>
    rw [if_neg (by decide), if_pos rfl, reqs_st]
    unfold Hf.wh at hn hd hw
    simp only [Bool.false_eq_true, if_false] at hn hd hw
    rw [if_neg (by simp; omega)] at hn hd hw
    simp only at hn hd hw
    have hn4 : n = 4 := by omega
    subst hn4
    have he : nr.take 4 = beg o := by simpa using hw
    rw [if_neg (by omega), htk, hdr, if_neg (by rw [he]; simp), he]
  | true =>
    rw [if_pos rfl, if_pos rfl, rqT_st, reqN_app (by omega)]
    have hr : reqN o nr = n := by
      unfold Hf.wh at hn hd hw
      simp only [if_true] at hn hd hw
      unfold lenR at hn hd hw
      rw [if_pos hO, if_neg (by omega : ¬ nr.length < 4)] at hn hd hw
      unfold reqN
      rw [if_neg (by omega)]
      by_cases h0 : lenN o nr = 0
      · rw [if_pos h0] at hw; simp at hw
      · rw [if_neg h0] at hn hd hw
        by_cases h1 : 16384 < lenN o nr
        · rw [if_pos h1] at hw; simp at hw
        · rw [if_neg h1] at hn hd hw
          rw [if_neg (by omega)]
          simpa using hn
    rw [hr, if_neg (by omega), if_neg (by omega), Int.toNat_natCast, htk, hdr]
/-- No whole message is there. -/
theorem wh_no {h : Hf} (ho : isOrder h.o) (hd : h.dd = false) (hw : h.wh.2.1 = false) : rq h.o h.bg h.nr = ([], h.wh.2.2) := by
  have hO : isOrd h.o = true := by rcases ho with h | h <;> rw [h] <;> rfl
  obtain ⟨o, bg, s, l, e, nr, fr, out, dd⟩ := h
  simp only at *
  subst hd
  unfold rq
  cases bg with
  | false =>
    unfold Hf.wh at hw ⊢
    simp only [Bool.false_eq_true, if_false] at hw ⊢
    rw [reqs_st]
    by_cases h4 : nr.length < 4
    · rw [if_pos h4, if_pos (show decide ((nr.length : Int) < 4) = true by simp; omega)]
    · have h4' : ¬ decide ((nr.length : Int) < 4) = true := by simp; omega
      rw [if_neg h4'] at hw
      rw [if_neg h4, if_neg h4']
      simp only at hw ⊢
      have he : (nr.take 4 != beg o) = true := by simpa using hw
      rw [if_pos he, he]
  | true =>
    unfold Hf.wh at hw ⊢
    simp only [if_true] at hw ⊢
    unfold lenR at hw ⊢
    rw [if_pos hO] at hw ⊢
    rw [rqT_st]
    by_cases h4 : nr.length < 4
    · have hr : reqN o nr = 0 := by unfold reqN; rw [if_pos h4]
      rw [if_pos h4, hr]
      rfl
    · rw [if_neg h4] at hw ⊢
      by_cases h0 : lenN o nr = 0
      · have hr : reqN o nr = -1 := by unfold reqN; rw [if_neg h4, if_pos (.inl h0)]
        rw [if_pos h0, hr]
        rfl
      · rw [if_neg h0] at hw ⊢
        by_cases h1 : 16384 < lenN o nr
        · have hr : reqN o nr = -1 := by unfold reqN; rw [if_neg h4, if_pos (.inr h1)]
          rw [if_pos h1, hr]
          rfl
        · rw [if_neg h1] at hw ⊢
          have hr : reqN o nr = ((4 * lenN o nr : Nat) : Int) := by unfold reqN; rw [if_neg h4, if_neg (by omega)]
          have hw' : ¬ (((4 * lenN o nr : Nat) : Int) ≤ (nr.length : Int)) := by simpa using hw
          rw [hr, if_neg (show ¬ ((4 * lenN o nr : Nat) : Int) < 0 by omega), if_pos (.inr (by omega))]
          rfl
/-- What a cache and an end are behind messages. -/
def fdm (p : Cc × En) (L : List Bys) : Cc × En := L.foldl (fun q m => (q.1.put m, q.2.sendE (frame (q.1.sh m)))) p
/-- What near bytes do, at once. -/
structure RunIs (h R : Hf) (M : List Bys) : Prop where
  o : R.o = h.o
  l : R.l = h.l
  e : fdm (h.s, h.e) M = (R.s, R.e)
  q : rq h.o h.bg h.nr = (M, R.dd)
  a : R.dd = false → ∀ x, rq h.o h.bg (h.nr ++ x) = (M ++ (rq h.o R.bg (R.nr ++ x)).1, (rq h.o R.bg (R.nr ++ x)).2)
  m : ∀ m ∈ M, 4 ≤ m.length ∧ m.length ≤ 65536
  n : M.flatten.length + R.nr.length = h.nr.length
  k : ∀ r, h.nr.length ≤ r → h.Ok r → R.Ok (r - M.flatten.length)
theorem run_is : ∀ (f : Nat) (h : Hf), isOrder h.o → h.dd = false → h.nr.length < f → ∃ M, RunIs h (Hf.run f h) M
  | 0, h, _, _, hf => absurd hf (Nat.not_lt_zero _)
  | f + 1, h, ho, hd, hf => by
    rw [Hf.run, if_neg (by rw [hd]; decide)]
    cases hw : h.wh.2.1 with
    | false =>
      rw [if_neg (by decide)]
      exact ⟨[], rfl, rfl, rfl, wh_no ho hd hw, fun _ x => by simp, fun m hm => (by cases hm), by simp, fun r _ hk => ⟨hk.o, hk.s, hk.e⟩⟩
    | true =>
      rw [if_pos rfl]
      obtain ⟨n, hn, h4, hl, h6, hdd⟩ := wh_n ho hw
      have hy := wh_yes ho hw
      rw [hn, Int.toNat_natCast] at hy
      rw [hn, Int.toNat_natCast, hdd]
      have hdl : (h.nr.drop n).length = h.nr.length - n := List.length_drop
      have htl : (h.nr.take n).length = n := by rw [List.length_take]; omega
      obtain ⟨M, H⟩ := run_is f (Hf.stp { h with dd := false, bg := true, nr := h.nr.drop n } (h.nr.take n)) ho rfl (by show (h.nr.drop n).length < f; omega)
      have q0 := hy []
      rw [List.append_nil, List.append_nil] at q0
      have Hq : rq h.o true (h.nr.drop n) = (M, _) := H.q
      rw [Hq] at q0
      refine ⟨h.nr.take n :: M, H.o, H.l, H.e, q0, fun hR x => ?_, ?_, ?_, ?_⟩
      · have Ha : rq h.o true (h.nr.drop n ++ x) = _ := H.a hR x
        rw [hy x, Ha]
        rfl
      · intro m hm
        rcases List.mem_cons.1 hm with rfl | hm
        · exact ⟨by omega, by omega⟩
        · exact H.m m hm
      · have Hn : M.flatten.length + _ = (h.nr.drop n).length := H.n
        rw [List.flatten_cons, List.length_append]
        omega
      · intro r hr hk
        have h1 := Hf.Ok.stp hk h4 (by omega) htl h6 (h.nr.drop n)
        have h2 := H.k (r - n) (by show (h.nr.drop n).length ≤ r - n; omega) h1
        rw [List.flatten_cons, List.length_append, htl, ← Nat.sub_sub]
        exact h2
theorem EnR.le {e : En} {r q : Nat} (h : EnR e r) (hq : q ≤ r) : EnR e q :=
  ⟨h.m0, h.m1, h.w, h.wb, h.n0, by have := h.n1; omega, by have := h.q; omega, h.e0, h.e1, h.a16, h.al, h.rl⟩
theorem pcSum_due : ∀ l : List Pc, Lk.pcSum (Lk.dueL l) = Lk.pcSum l
  | [] => rfl
  | p :: l => by have := pcSum_due l; simp only [Lk.dueL, List.map_cons, Lk.pcSum] at *; omega
theorem EnR.due {e : En} {r : Nat} (h : EnR e r) : EnR e.due r :=
  ⟨h.m0, h.m1, by show (Lk.dueL e.way).length ≤ 16; rw [Lk.dueL_len]; exact h.w, fun p hp => by
    obtain ⟨q, hq, rfl⟩ := List.mem_map.1 hp
    exact h.wb q hq, h.n0, h.n1, by have := h.q; unfold En.tot at *; show Lk.pcSum (Lk.dueL e.way) + e.rest.length + _ ≤ _; rw [pcSum_due]; exact this, h.e0, h.e1, h.a16, h.al, h.rl⟩
theorem pktBytes_len (k n a : Int) (b : Bys) : (Lk.pktBytes k n a b).length = b.length + 11 := by unfold Lk.pktBytes; simp
theorem pkt_len (k n a : Int) (b : Bys) : (Lk.pkt k n a b).length ≤ b.length + 11 := by
  unfold Lk.pkt
  have := pktBytes_len k n a b
  split
  · simp
  · split
    · split
      · simp
      · omega
    · split
      · split
        · simp
        · omega
      · simp
theorem dueP_len {e : En} {r : Nat} (h : EnR e r) : e.dueP.length ≤ 17 ∧ ∀ x ∈ e.dueP, x.length ≤ 1000011 := by
  unfold En.dueP
  split
  · refine ⟨by simp, fun x hx => ?_⟩
    rw [List.mem_singleton] at hx
    subst hx
    have := pkt_len 1 0 e.exp []
    simp only [List.length_nil] at this
    omega
  · refine ⟨?_, fun x hx => ?_⟩
    · have := Lk.dueStr_len e e.way
      have := h.w
      omega
    · unfold Lk.dueStr at hx
      obtain ⟨p, hp, rfl⟩ := List.mem_map.1 hx
      have h1 := pkt_len 0 p.n e.exp p.b
      have h2 := h.wb p (List.mem_filter.1 hp).1
      omega
theorem join_len (s : Bys) (n : Nat) (hs : s.length ≤ n) : ∀ (L : List Bys), (∀ x ∈ L, x.length ≤ n) → (Lib.join L s).length ≤ 2 * n * L.length
  | [], _ => by simp [Lib.join_nil]
  | x :: l, h => by
    have key : ∀ l : List Bys, (∀ x ∈ l, x.length ≤ n) → Lib.lens l ≤ n * l.length := by
      intro l
      induction l with
      | nil => intro _; simp [Lib.lens]
      | cons y l ih =>
        intro h
        have h1 := ih fun x hx => h x (List.mem_cons_of_mem _ hx)
        have h2 := h y List.mem_cons_self
        simp only [Lib.lens, List.map_cons, List.sum_cons, List.length_cons, Nat.mul_add, Nat.mul_one] at *
        omega
    rw [Lib.join_length]
    have h1 := key _ h
    have h2 : s.length * l.length ≤ n * (x :: l).length := Nat.mul_le_mul hs (by simp)
    rw [Nat.mul_assoc, Nat.two_mul]
    omega
end Go.Proofs.Sh

/- ProxySends. -/
set_option maxRecDepth 100000
set_option linter.unusedSimpArgs false
set_option linter.unusedVariables false
namespace Go.Proofs.Sh
open Go.Pv
open Lk (En Pc)
theorem cnew8_fs : Fsp Tryz.prog 18 [] 0 [.int .i64 8] [] 0 (.tup [(⟨8, []⟩ : Cc).pv, .int .i64 0]) := by
  unfold Cc.pv
  (refine Fsp.of (nx := 0) mixed Tryz.func18 rfl (by decide) (by first | exact Nat.le_refl _ | simp) (by simp [Tryz.f18]) ⟨by decide, by decide⟩ ?_; simp -implicitDefEqProofs only [push_cast, Tryz.f18, seval])
  all_goals (first | done | rfl | exact ⟨_, rfl, by simp [wkL, res2, res1, PV.weak, PV.el, sts]⟩ | (simp [wkL, res2, res1, PV.weak, PV.el, sts]; done))
def en0 : En := { most := 1024, way := [], next := 0, rest := [], exp := 0, aside := fun _ => [], read := [], ack := false }
theorem lnew_fs : Fsp Tryz.prog 19 [] 0 [.int .i64 1024] [] 0 (.tup [en0.pv, .int .i64 0]) := by
  have h := Lk.new_fs 1024
  exact h
def hf0 (o : Int) : Hf := { o := o, bg := false, s := ⟨8, []⟩, l := ⟨8, []⟩, e := en0, nr := [], fr := [], out := [], dd := false }
theorem hnew_fs {o : Int} (ho : isOrder o) : Fsp Tryz.prog 10 [] 0 [.bool false, .int .i64 o, .int .i64 8, .int .i64 1024] [] 0 (.tup [(hf0 o).pv, .int .i64 0]) := by
  have h1 := cnew8_fs
  have h2 := lnew_fs
  simp only [Cc.pv] at h1
  simp only [Lk.En.pv, Lk.En.cs, Lk.pcs, en0] at h2
  unfold Hf.pv hf0 en0
  rcases ho with rfl | rfl
  · (refine Fsp.of (nx := 0) mixed Tryz.func10 rfl (by decide) (by first | exact Nat.le_refl _ | simp) (by simp [Tryz.f10]) ⟨by decide, by decide⟩ ?_; simp -implicitDefEqProofs only [push_cast, Tryz.f10, Hf.cs, seval])
    refine callE_pure h1 (by rfl) (by rfl) (by rfl) (by decide) (by rfl) (fun _ => by rfl) (by first | rfl | simp [gdOk, newToks]) ?_
    simp -implicitDefEqProofs only [push_cast, seval]
    refine callE_pure h2 (by rfl) (by rfl) (by rfl) (by decide) (by rfl) (fun _ => by rfl) (by first | rfl | simp [gdOk, newToks]) ?_
    simp -implicitDefEqProofs only [push_cast, seval]
    all_goals (first | done | rfl | exact ⟨_, rfl, by simp [wkL, res2, res1, PV.weak, PV.el]⟩ | (simp [wkL, res2, res1, PV.weak, PV.el]; done))
  · (refine Fsp.of (nx := 0) mixed Tryz.func10 rfl (by decide) (by first | exact Nat.le_refl _ | simp) (by simp [Tryz.f10]) ⟨by decide, by decide⟩ ?_; simp -implicitDefEqProofs only [push_cast, Tryz.f10, Hf.cs, seval])
    refine callE_pure h1 (by rfl) (by rfl) (by rfl) (by decide) (by rfl) (fun _ => by rfl) (by first | rfl | simp [gdOk, newToks]) ?_
    simp -implicitDefEqProofs only [push_cast, seval]
    refine callE_pure h2 (by rfl) (by rfl) (by rfl) (by decide) (by rfl) (fun _ => by rfl) (by first | rfl | simp [gdOk, newToks]) ?_
    simp -implicitDefEqProofs only [push_cast, seval]
    all_goals (first | done | rfl | exact ⟨_, rfl, by simp [wkL, res2, res1, PV.weak, PV.el]⟩ | (simp [wkL, res2, res1, PV.weak, PV.el]; done))
theorem reqs_nil (o : Int) : reqs o [] = ([], false) := rfl
/-- Where the law stands, part by part. -/
structure LwA (o : Int) (P : List Bys) where
  i : Nat
  hi : i ≤ 2
  h : Hf
  L : List Bys
  ho : h.o = o
  hL : L.length ≤ 13108 * i
  ok : h.dd = false → h.Ok (h.nr.length + (P.drop i).flatten.length)
  J : h.dd = false → ∀ x, reqs o ((P.take i).flatten ++ x) = (L ++ (rq o h.bg (h.nr ++ x)).1, (rq o h.bg (h.nr ++ x)).2)
def LwA.O (h : Hf) : List (Nat × Option (List PV)) := [(0, some h.cs), (1, some [.int .i64 h.s.m, .sl 1 (sts h.s.k)]), (2, some (h.e.cs (.sl 3 (h.e.way.map Lk.Pc.pv))))]
def LwA.st (o : Int) (P : List Bys) (a : LwA o P) : PS := { n := 183, env := [(88, .int .i64 a.i), (87, .int .i64 2), (86, .sl 1 (sts P)), (19, .int .i64 a.L.length), (18, .sl 1 (sts P)), (15, .box 2 0), (13, .box 1 0), (11, .box 0 0), (9, .int .i64 o), (8, .bool false)], objs := LwA.O a.h, live := [], nxt := 5 }
theorem hcs_len (h : Hf) : h.cs.length = 34 := rfl
theorem hcs_take (h : Hf) : h.cs.take 34 = h.cs := rfl
theorem hcs_take' (h : Hf) : List.take h.cs.length h.cs = h.cs := rfl
theorem hcs_drop (h : Hf) : h.cs.drop 34 = [] := rfl
theorem ecs_drop (e : En) (x : PV) : (e.cs x).drop 23 = [] := rfl
theorem ecs_len (e : En) (x : PV) : (e.cs x).length = 23 := rfl
theorem ecs_take (e : En) (x : PV) : (e.cs x).take 23 = e.cs x := rfl
theorem hcs_back (h : Hf) (a : List Nat) (b c : Nat) : h.cs.map (PV.back1 a b c) = h.cs := by simp [Hf.cs, PV.back1, PV.weak]
theorem ecs_back (e : En) (l : List PV) (a : List Nat) (b c : Nat) : (e.cs (.sl 3 l)).map (PV.back1 a b c) = e.cs (.sl 3 l) := by simp [Lk.En.cs, PV.back1, PV.weak]
theorem hcs_wk (h : Hf) (β τ : List (Nat × Nat)) (em : List Nat) : wkL (wkC β τ em) h.cs h.cs := by simp [Hf.cs, wkL, wkC, PV.weak]
theorem ecs_wk (e : En) (l : List PV) (β τ : List (Nat × Nat)) (em : List Nat) : wkL (wkC β τ em) (e.cs (.sl 3 l)) (e.cs (.sl 3 l)) := by simp [Lk.En.cs, wkL, wkC, PV.weak]
/-- Where the law's own messages stand. -/
structure InA (R : Hf) (M : List Bys) where
  j : Nat
  c : Cc
  e : En
  h : j ≤ M.length
  ok : c.Ok
  er : EnR e (M.drop j).flatten.length
  f : fdm (c, e) (M.drop j) = (R.s, R.e)
def InA.O (h N : Hf) (c : Cc) (e : En) : List (Nat × Option (List PV)) := [(0, some h.cs), (1, some [.int .i64 c.m, .sl 1 (sts c.k)]), (2, some (e.cs (.sl 3 (e.way.map Lk.Pc.pv)))), (3, some N.cs)]
def InA.st (o : Int) (P : List Bys) (i : Nat) (h N R : Hf) (L M : List Bys) (a : InA R M) : PS := { n := 183, env := [(121, .int .i64 a.j), (120, .int .i64 M.length), (119, .sl 1 (sts M)), (24, .bool R.dd), (23, .sl 1 (sts (L ++ M))), (22, .int .i64 0), (21, .box 3 0), (88, .int .i64 i), (87, .int .i64 2), (86, .sl 1 (sts P)), (18, .sl 1 (sts P)), (20, .int .i64 i), (15, .box 2 0), (13, .box 1 0), (11, .box 0 0), (9, .int .i64 o), (8, .bool false)], objs := InA.O h N a.c a.e, live := [], nxt := 5 }
theorem mem4_len : ∀ M : List Bys, (∀ m ∈ M, 4 ≤ m.length ∧ m.length ≤ 65536) → M.length ≤ M.flatten.length
  | [], _ => by simp
  | x :: M, h => by
    have h1 := mem4_len M fun m hm => h m (List.mem_cons_of_mem _ hm)
    have h2 := h x List.mem_cons_self
    rw [List.flatten_cons, List.length_append, List.length_cons]
    omega
theorem Hf.cut_is (R : Hf) : R.cut.o = R.o ∧ R.cut.s = R.s ∧ R.cut.e = R.e ∧ R.cut.dd = R.dd ∧ R.cut.bg = R.bg ∧ R.cut.nr.length ≤ R.nr.length ∧ (R.dd = false → R.cut.nr = R.nr) := by
  unfold Hf.cut
  split
  · rename_i h
    exact ⟨rfl, rfl, rfl, rfl, rfl, Nat.zero_le _, fun h2 => by rw [h] at h2; cases h2⟩
  · exact ⟨rfl, rfl, rfl, rfl, rfl, Nat.le_refl _, fun _ => rfl⟩
theorem rq_nil (o : Int) (x : Bys) : reqs o (([] : List Bys).flatten ++ x) = ([] ++ (rq o false ([] ++ x)).1, (rq o false ([] ++ x)).2) := rfl
theorem hf0_ok {o : Int} (ho : isOrder o) (r : Nat) (hr : r ≤ 3000) : (hf0 o).Ok r where
  o := ho
  s := ⟨by show 1 ≤ 8; omega, by show 8 ≤ 64; omega, by show 0 ≤ 64; omega, fun x hx => (by cases hx)⟩
  e := ⟨by show (1 : Int) ≤ 1024; omega, by show (1024 : Int) ≤ 1000000; omega, by show 0 ≤ 16; omega, fun x hx => (by cases hx), by show (0 : Int) ≤ 0; omega, by show (0 : Int) + 17 * r ≤ 1000000000; omega, by show 0 + 0 + 5 * r ≤ 65536; omega, by show (0 : Int) ≤ 0; omega, by show (0 : Int) ≤ 1000000000; omega, fun _ _ => rfl, fun _ => (by show 0 ≤ 1000000; omega), by show 0 ≤ 1000000000; omega⟩
theorem join_flat : ∀ L : List Bys, Lib.join L [] = L.flatten
  | [] => rfl
  | x :: l => by
    have key : ∀ l : List Bys, Lib.joinTail [] l = l.flatten := by
      intro l
      induction l with
      | nil => rfl
      | cons y l ih => simp [Lib.joinTail, ih]
    rw [Lib.join_cons, key]
    rfl
set_option maxHeartbeats 4000000 in
theorem sends_fs (ord cut : Nat) (l : List Rq) (rest : Bys) (h1 : ord < 256) (h2 : cut < 65536) (hl : l.length ≤ 1000000000000000) (hF : ∀ x ∈ l, x.Few) : Fsp Tryz.prog 5 [] 0 [.int .u8 ord, .sl 4 (rqL l), .str rest, .int .u16 cut] [] 0 (.bool true) := by
  have hw := awake_fs
  have hf := few_fs l rest hl
  have ho : isOrder (ord % 2 : Nat) := by unfold isOrder; omega
  have hor : IntKind.i64.wrap (Int.tmod (ord : Int) 2) = ((ord % 2 : Nat) : Int) := by rw [Int.tmod_eq_emod_of_nonneg (by omega), wrap_i64_id (by omega) (by omega)]; omega
  cases hfew : fewB l rest with
  | false =>
    rw [hfew] at hf
    (refine Fsp.of (nx := 0) mixed Tryz.func5 rfl (by decide) (by first | exact Nat.le_refl _ | simp) (by simp [Tryz.f5]) ⟨by decide, by decide⟩ ?_; simp -implicitDefEqProofs only [push_cast, Tryz.f5, seval])
    refine callE_pure hf (by rfl) (by rfl) (by rfl) (by decide) (by rfl) (fun _ => by rfl) (by first | rfl | simp [gdOk, newToks]) ?_
    simp -implicitDefEqProofs only [push_cast, seval]
    refine callE_pure hw (by rfl) (by rfl) (by rfl) (by decide) (by rfl) (fun _ => by rfl) (by first | rfl | simp [gdOk, newToks]) ?_
    simp -implicitDefEqProofs only [push_cast, seval]
    all_goals (first | done | rfl | exact ⟨_, rfl, by simp [wkL, res2, res1, PV.weak, PV.el]⟩ | (simp [wkL, res2, res1, PV.weak, PV.el]; done))
  | true =>
    rw [hfew] at hf
    have hl12 : l.length ≤ 12 ∧ rest.length ≤ 100 := by
      unfold fewB at hfew
      simp at hfew
      omega
    have hA := asks_fs ho l rest hl12.1 hl12.2 hF
    have hal := asksB_len (ord % 2 : Nat) l
    generalize hB : beg (ord % 2 : Nat) ++ asksB (ord % 2 : Nat) l ++ rest = B at *
    have hN := hnew_fs ho
    have hC := cnew8_fs
    have hE := lnew_fs
    simp only [Cc.pv] at hC
    simp only [Lk.En.pv, Lk.En.cs, Lk.pcs, en0] at hE
    simp only [Hf.pv, Hf.cs, hf0, en0] at hN
    generalize (ord % 2 : Nat) = o at *
    (refine Fsp.of (nx := 0) mixed Tryz.func5 rfl (by decide) (by first | exact Nat.le_refl _ | simp) (by simp [Tryz.f5]) ⟨by decide, by decide⟩ ?_; simp -implicitDefEqProofs only [push_cast, Tryz.f5, seval])
    refine callE_pure hf (by rfl) (by rfl) (by rfl) (by decide) (by rfl) (fun _ => by rfl) (by first | rfl | simp [gdOk, newToks]) ?_
    simp -implicitDefEqProofs only [push_cast, hor, seval]
    refine callE_pure hA (by rfl) (by rfl) (by rfl) (by decide) (by rfl) (fun _ => by rfl) (by first | rfl | simp [gdOk, newToks]) ?_
    simp -implicitDefEqProofs only [push_cast, seval]
    refine condC_split (fun g1 => ?_) (fun g1 => ?_)
    · simp -implicitDefEqProofs only [push_cast, seval]
      refine callE_pure hw (by rfl) (by rfl) (by rfl) (by decide) (by rfl) (fun _ => by rfl) (by first | rfl | simp [gdOk, newToks]) ?_
      simp -implicitDefEqProofs only [push_cast, seval]
      all_goals (first | done | rfl | exact ⟨_, rfl, by simp [wkL, res2, res1, PV.weak, PV.el]⟩ | (simp [wkL, res2, res1, PV.weak, PV.el]; done))
    · have hB3 : B.length ≤ 3000 := by simp at g1; omega
      have hkl : cut % (B.length + 1) ≤ B.length := Nat.lt_succ_iff.1 (Nat.mod_lt cut (Nat.succ_pos B.length))
      have hkr : Int.tmod (cut : Int) ((B.length : Int) + 1) = ((cut % (B.length + 1) : Nat) : Int) := by
        rw [Int.tmod_eq_emod_of_nonneg (by omega)]; rfl
      generalize cut % (B.length + 1) = k at hkl hkr
      have hwb : IntKind.i64.wrap ((B.length : Int) + 1) = (B.length : Int) + 1 := wrap_i64_id (by omega) (by omega)
      have hwk : IntKind.i64.wrap (cut : Int) = cut := wrap_i64_id (by omega) (by omega)
      have hwkk : IntKind.i64.wrap (k : Int) = k := wrap_i64_id (by omega) (by omega)
      simp -implicitDefEqProofs only [push_cast, seval]
      refine callE_pure hN (by rfl) (by rfl) (by rfl) (by decide) (by rfl) (fun _ => by rfl) (by first | rfl | simp [gdOk, newToks]) ?_
      simp -implicitDefEqProofs only [push_cast, seval]
      refine callE_pure hC (by rfl) (by rfl) (by rfl) (by decide) (by rfl) (fun _ => by rfl) (by first | rfl | simp [gdOk, newToks]) ?_
      simp -implicitDefEqProofs only [push_cast, seval]
      refine callE_pure hE (by rfl) (by rfl) (by rfl) (by decide) (by rfl) (fun _ => by rfl) (by first | rfl | simp [gdOk, newToks]) ?_
      have htk : (B.drop k).take (B.length - k) = B.drop k := List.take_of_length_le (by rw [List.length_drop]; omega)
      simp -implicitDefEqProofs only [push_cast, hkr, hwb, hwk, hwkk, htk, seval]
      refine ⟨by omega, by omega, by omega, by omega, by (unfold drawOk; kernel_rfl), ?_⟩
      have hP2 : [B.take k, B.drop k].length = 2 := rfl
      have hPf : [B.take k, B.drop k].flatten.length ≤ 3000 := by simp; omega
      have hPe : [PV.str (B.take k), PV.str (B.drop k)] = sts [B.take k, B.drop k] := rfl
      rw [hPe]
      generalize [B.take k, B.drop k] = P at *
      refine loopC_of (α := LwA o P) (LwA.st o P) (fun a => 2 - a.i) ⟨0, by omega, hf0 o, [], rfl, by simp, fun _ => hf0_ok ho _ (by simpa [hf0] using hPf), fun _ x => rq_nil o x⟩ ?_ ?_
      · simp only [LwA.O, hf0, Hf.cs, Lk.En.cs, en0]
        (simp only [LwA.st]; exact Wk.by _ _ _ [(0, 88), (1, 116), (2, 144)] [] [] (by simp) (by simp [wkV, PV.el, PV.weak, PS.get, PS.obj, PS.lv, lkp_hit, lkp_miss, lkp_nil, lko, wkL, wkC, res1, LwA.O, hf0, Hf.cs, Lk.En.cs, en0]) (by simp [PS.get, PS.obj, PS.lv, lkp_hit, lkp_miss, lkp_nil, lko, wkL, wkC, PV.weak, wkL, wkC, res1, LwA.O, hf0, Hf.cs, Lk.En.cs, en0]) (by simp [PS.get, PS.obj, PS.lv, lkp_hit, lkp_miss, lkp_nil, lko]) (by rfl) (by rfl) (by simp [lko]) (by simp) (by simp) (by simp) (fun i hi => absurd hi (Nat.not_lt_zero i)))
      · clear hwkk htk hkr hkl hwb hwk hN hC hE hA hf hor hB hal
        rintro ⟨i, hi, h, L, hho, hL, hok, hJ⟩
        simp only [LwA.st, LwA.O]
        simp -implicitDefEqProofs only [push_cast, seval]
        refine condC_split (fun g2 => ?_) (fun g2 => ?_)
        · have hlt : i < P.length := by simp at g2; omega
          have hgp := sts_at hlt
          have hpl : (P.drop i).flatten.length = (P.getD i []).length + (P.drop (i + 1)).flatten.length := by rw [drop_at hlt, List.flatten_cons, List.length_append]
          have hpt : (P.take (i + 1)).flatten = (P.take i).flatten ++ P.getD i [] := by
            rw [List.take_succ_eq_append_getElem hlt, List.flatten_append, List.getD_eq_getElem?_getD, List.getElem?_eq_getElem hlt]; simp
          have hptl : (P.take (i + 1)).flatten.length ≤ 3000 := by
            have h1 : P.flatten = (P.take (i + 1)).flatten ++ (P.drop (i + 1)).flatten := by rw [← List.flatten_append, List.take_append_drop]
            rw [h1, List.length_append] at hPf
            omega
          generalize P.getD i [] = b at *
          have hDead := hdead_fs h
          cases hdd : h.dd with
          | true =>
            have hNear := neardead_fs h b hdd
            rw [hdd] at hDead
            simp only [Hf.pv] at hNear hDead
            simp -implicitDefEqProofs only [push_cast, hgp, hcs_len, hcs_take, sts_length, seval]
            refine ⟨by omega, ?_⟩
            refine callE_pure hNear (by rfl) (by rfl) (by rfl) (by decide) (by rfl) (fun _ => by rfl) (by first | rfl | simp [gdOk, newToks]) ?_
            simp -implicitDefEqProofs only [push_cast, hgp, hcs_len, hcs_take, hcs_back, seval]
            refine ⟨by (unfold drawOk; kernel_rfl), ?_⟩
            refine callE_pure hDead (by rfl) (by rfl) (by rfl) (by decide) (by rfl) (fun _ => by rfl) (by first | rfl | simp [gdOk, newToks]) ?_
            simp -implicitDefEqProofs only [push_cast, hcs_len, hcs_take, hcs_back, seval]
            refine callE_pure hw (by rfl) (by rfl) (by rfl) (by decide) (by rfl) (fun _ => by rfl) (by first | rfl | simp [gdOk, newToks]) ?_
            simp -implicitDefEqProofs only [push_cast, seval]
            all_goals (first | done | rfl | exact ⟨_, rfl, by simp [wkL, res2, res1, PV.weak, PV.el]⟩ | (simp [wkL, res2, res1, PV.weak, PV.el]; done))
          | false =>
            obtain ⟨M, hR⟩ := run_is (h.nr.length + b.length + 1) { h with nr := h.nr ++ b } (by show isOrder h.o; rw [hho]; exact ho) hdd (by simp)
            have hOk := hok hdd
            have hNear := near_fs h b hdd ⟨hOk.o, hOk.s, hOk.e.le (by omega)⟩
            unfold Hf.near at hNear
            generalize Hf.run (h.nr.length + b.length + 1) { h with nr := h.nr ++ b } = R at *
            rw [hdd] at hDead
            have hq1 := hJ hdd b
            have hq2 := hR.q
            simp only [hho] at hq2
            rw [hq2] at hq1
            rw [← hpt] at hq1
            have hJoin := join_fs (P.take (i + 1)) [] (by rw [List.length_take]; omega) (by rw [join_flat]; omega)
            rw [join_flat] at hJoin
            have hReq := reqs_fs ho (P.take (i + 1)).flatten (by omega)
            rw [hq1] at hReq
            simp only at hReq
            have hMl : M.flatten.length ≤ h.nr.length + b.length := by have := hR.n; simp only [List.length_append] at this; omega
            have hMn := mem4_len M hR.m
            have hnr : h.nr.length + b.length ≤ 13108 := by have := hOk.e.q; omega
            have hi1 : ((i : Int) + 1).toNat = i + 1 := rfl
            have hjt : List.take (i + 1) (sts P) = sts (P.take (i + 1)) := List.map_take.symm
            have hLM : List.drop L.length (sts (L ++ M)) = sts M := by unfold sts; rw [List.map_append]; exact List.drop_left' (by rw [List.length_map])
            have hLM2 : List.take M.length (sts M) = sts M := List.take_of_length_le (by rw [sts_length]; exact Nat.le_refl _)
            have hLM3 : List.take (L.length + M.length - L.length) (sts M) = sts M := List.take_of_length_le (by rw [sts_length]; omega)
            have hLMl : (sts (L ++ M)).length = L.length + M.length := by rw [sts_length, List.length_append]
            have hwi : IntKind.i64.wrap ((i : Int) + 1) = ((i + 1 : Nat) : Int) := by (rw [wrap_i64_id (by omega) (by omega)]; rfl)
            obtain ⟨c1, c2, c3, c4, c5, c6, c7⟩ := Hf.cut_is R
            generalize hN : R.cut = N at *
            simp only [Hf.pv] at hNear hDead
            simp -implicitDefEqProofs only [push_cast, hgp, hcs_len, hcs_take, sts_length, seval]
            refine ⟨by omega, ?_⟩
            refine callE_pure hNear (by rfl) (by rfl) (by rfl) (by decide) (by rfl) (fun _ => by rfl) (by first | rfl | simp [gdOk, newToks]) ?_
            simp -implicitDefEqProofs only [push_cast, hgp, hcs_len, hcs_take, hcs_back, seval]
            refine ⟨by (unfold drawOk; kernel_rfl), ?_⟩
            refine callE_pure hDead (by rfl) (by rfl) (by rfl) (by decide) (by rfl) (fun _ => by rfl) (by first | rfl | simp [gdOk, newToks]) ?_
            simp -implicitDefEqProofs only [push_cast, hcs_len, hcs_take, hcs_back, hwi, hjt, hi1, sts_length, seval]
            refine ⟨by omega, by omega, ?_⟩
            refine callE_pure hJoin (by rfl) (by rfl) (by rfl) (by decide) (by rfl) (fun _ => by rfl) (by first | rfl | simp [gdOk, newToks]) ?_
            simp -implicitDefEqProofs only [push_cast, hwi, hjt, hi1, seval]
            refine callE_pure hReq (by rfl) (by rfl) (by rfl) (by decide) (by rfl) (fun _ => by rfl) (by first | rfl | simp [gdOk, newToks]) ?_
            simp -implicitDefEqProofs only [push_cast, hLM, hLMl, hLM2, hLM3, sts_length, seval]
            refine ⟨by omega, by omega, ?_⟩
            have hRok := hR.k (h.nr.length + (P.drop i).flatten.length) (by simp only [List.length_append]; omega) ⟨hOk.o, hOk.s, hOk.e⟩
            have hRn := hR.n
            have hRm := hR.m
            have hRe := hR.e
            have hRa := hR.a
            have hRo := hR.o
            simp only [List.length_append, hho] at hRn hRe hRa hRo
            clear hR hNear hDead hReq hJoin hq1 hq2
            refine loopC_of (α := InA R M) (InA.st o P i h N R L M) (fun a => M.length - a.j) ⟨0, h.s, h.e, by omega, hOk.s, hOk.e.le (by rw [List.drop_zero]; omega), by rw [List.drop_zero]; exact hRe⟩ ?_ ?_
            · (simp only [InA.st, InA.O]; exact Wk.by _ _ _ [(0, 0), (1, 1), (2, 2), (3, 53)] [] [] (by simp) (by simp [wkV, PV.el, PV.weak, PS.get, PS.obj, PS.lv, lkp_hit, lkp_miss, lkp_nil, lko, wkL, wkC, res1, InA.O, hcs_wk, ecs_wk]) (by simp [PS.get, PS.obj, PS.lv, lkp_hit, lkp_miss, lkp_nil, lko, wkL, wkC, PV.weak, wkL, wkC, res1, InA.O, hcs_wk, ecs_wk]) (by simp [PS.get, PS.obj, PS.lv, lkp_hit, lkp_miss, lkp_nil, lko]) (by rfl) (by rfl) (by simp [lko]) (by simp) (by simp) (by simp) (fun i hi => absurd hi (Nat.not_lt_zero i)))
            · rintro ⟨j, c, e, hj, hcok, her, hf⟩
              simp only [InA.st, InA.O]
              simp -implicitDefEqProofs only [push_cast, sts_length, seval]
              refine condC_split (fun g3 => ?_) (fun g3 => ?_)
              · have hjl : j < M.length := by simp at g3; omega
                have hgm := sts_at hjl
                have hwj : IntKind.i64.wrap ((j : Int) + 1) = ((j + 1 : Nat) : Int) := by (rw [wrap_i64_id (by omega) (by omega)]; rfl)
                rw [drop_at hjl] at her hf
                have hmm : M.getD j [] ∈ M := by rw [List.getD_eq_getElem?_getD, List.getElem?_eq_getElem hjl]; exact List.getElem_mem hjl
                have hm4 := hRm _ hmm
                generalize M.getD j [] = m at *
                rw [List.flatten_cons, List.length_append] at her
                have hPut := hcok.fs (b := m) hm4.2
                have hsl := sh_len c m
                have hq := her.q
                have hFr := frame_fs (c.sh m) (by omega)
                have hfl : (frame (c.sh m)).length ≤ 6 + 3 * m.length := by
                  unfold frame
                  rw [List.length_append, (putS_4 (n := (c.sh m).length) (by omega)).1]
                  omega
                have hSend := her.fs hm4.1 (by omega) hfl
                have her2 := her.send hm4.1 (by omega) hfl
                have hcok2 := hcok.put (b := m) hm4.2
                rw [Nat.add_sub_cancel_left] at her2
                have hf2 : fdm (c.put m, e.sendE (frame (c.sh m))) (M.drop (j + 1)) = (R.s, R.e) := hf
                clear hf her
                generalize c.put m = c2 at *
                generalize e.sendE (frame (c.sh m)) = e2 at *
                generalize frame (c.sh m) = fm at *
                generalize c.sh m = sm at *
                simp only [Cc.pv] at hPut
                simp only [Lk.En.pv, Lk.pcs] at hSend
                simp -implicitDefEqProofs only [push_cast, hgm, sts_length, seval]
                refine ⟨by omega, ?_⟩
                refine callE_pure hPut (by rfl) (by rfl) (by rfl) (by decide) (by rfl) (fun _ => by rfl) (by first | rfl | simp [gdOk, newToks]) ?_
                simp -implicitDefEqProofs only [push_cast, ecs_len, ecs_take, ecs_back, seval]
                refine callE_pure hFr (by rfl) (by rfl) (by rfl) (by decide) (by rfl) (fun _ => by rfl) (by first | rfl | simp [gdOk, newToks]) ?_
                simp -implicitDefEqProofs only [push_cast, ecs_len, ecs_take, ecs_back, seval]
                refine callE_pure hSend (by rfl) (by rfl) (by rfl) (by decide) (by rfl) (fun _ => by rfl) (by first | rfl | simp [gdOk, newToks]) ?_
                simp -implicitDefEqProofs only [push_cast, ecs_len, ecs_take, ecs_back, ecs_drop, List.append_nil, hwj, seval]
                (repeat (first | refine ⟨(by omega : _ ≤ _), ?_⟩ | refine ⟨(by omega : _ < _), ?_⟩ | refine ⟨(by simp; omega), ?_⟩ | refine ⟨(by simp; done), ?_⟩ | refine ⟨(by (unfold drawOk; kernel_rfl)), ?_⟩))
                refine ⟨⟨j + 1, c2, e2, hjl, hcok2, her2, hf2⟩, by simp only; omega, ?_⟩
                (simp only [InA.st, InA.O]; exact Wk.by _ _ _ [(0, 0), (1, 1), (2, 2), (3, 3)] [] [] (by simp) (by simp [wkV, PV.el, PV.weak, PS.get, PS.obj, PS.lv, lkp_hit, lkp_miss, lkp_nil, lko, wkL, wkC, res1, InA.O, hcs_wk, ecs_wk]) (by simp [PS.get, PS.obj, PS.lv, lkp_hit, lkp_miss, lkp_nil, lko, wkL, wkC, PV.weak, wkL, wkC, res1, InA.O, hcs_wk, ecs_wk]) (by simp [PS.get, PS.obj, PS.lv, lkp_hit, lkp_miss, lkp_nil, lko]) (by rfl) (by rfl) (by simp [lko]) (by simp) (by simp) (by simp) (fun i hi => absurd hi (Nat.not_lt_zero i)))
              · have hje : j = M.length := by simp at g3; omega
                subst hje
                rw [List.drop_length] at hf her
                have hce := Prod.mk.inj (show (c, e) = (R.s, R.e) from hf)
                obtain ⟨hcR, heR⟩ := hce
                subst hcR
                subst heR
                have hEr := hRok.e
                have hDN := hdead_fs N
                have hDue := hdue_fs N (by rw [c3]; have := hEr.w; omega) (by rw [c3]; exact hEr.wb)
                have hDue2 := Lk.due_fs R.e (by have := hEr.w; omega) hEr.wb
                have hDl := dueP_len hEr
                have hJn := join_fs R.e.dueP [124] (by omega) (by have := join_len [124] 1000011 (by simp) R.e.dueP hDl.2; have h2 : 2 * 1000011 * R.e.dueP.length ≤ 2 * 1000011 * 17 := Nat.mul_le_mul_left _ hDl.1; omega)
                have hz : List.map PV.str R.e.dueP = sts R.e.dueP := rfl
                rw [hz] at hDue2
                rw [c3] at hDue
                rw [c4] at hDN
                have hEd := hEr.due
                simp only [Hf.pv] at hDN hDue
                simp only [Lk.En.pv, Lk.pcs] at hDue2
                simp -implicitDefEqProofs only [push_cast, hcs_len, hcs_take, hcs_back, hcs_drop, List.append_nil, hLMl, seval]
                refine callE_pure hDN (by rfl) (by rfl) (by rfl) (by decide) (by rfl) (fun _ => by rfl) (by first | rfl | simp [gdOk, newToks]) ?_
                simp -implicitDefEqProofs only [push_cast, hcs_len, hcs_take, hcs_back, hcs_drop, List.append_nil, bne_self_eq_false, seval]
                refine callE_pure hDue (by rfl) (by rfl) (by rfl) (by decide) (by rfl) (fun _ => by rfl) (by first | rfl | simp [gdOk, newToks]) ?_
                simp -implicitDefEqProofs only [push_cast, hcs_len, hcs_take, hcs_back, hcs_drop, List.append_nil, ecs_len, ecs_take, ecs_back, ecs_drop, seval]
                refine callE_pure hDue2 (by rfl) (by rfl) (by rfl) (by decide) (by rfl) (fun _ => by rfl) (by first | rfl | simp [gdOk, newToks]) ?_
                simp -implicitDefEqProofs only [push_cast, hcs_len, hcs_take, hcs_back, hcs_drop, List.append_nil, ecs_len, ecs_take, ecs_back, ecs_drop, seval]
                refine callE_pure hJn (by rfl) (by rfl) (by rfl) (by decide) (by rfl) (fun _ => by rfl) (by first | rfl | simp [gdOk, newToks]) ?_
                simp -implicitDefEqProofs only [push_cast, seval]
                refine callE_pure hJn (by rfl) (by rfl) (by rfl) (by decide) (by rfl) (fun _ => by rfl) (by first | rfl | simp [gdOk, newToks]) ?_
                simp -implicitDefEqProofs only [push_cast, bne_self_eq_false, hwi, seval]
                refine ⟨⟨i + 1, by omega, { N with e := R.e.due }, L ++ M, by show N.o = _; rw [c1, hRo], ?_, ?_, ?_⟩, by simp only; omega, ?_⟩
                · rw [List.length_append, Nat.mul_add]
                  omega
                · intro _
                  refine ⟨by show isOrder N.o; rw [c1, hRo]; exact ho, by show N.s.Ok; rw [c2]; exact hRok.s, EnR.le hEd ?_⟩
                  simp only
                  omega
                · intro hd x
                  have hd' : R.dd = false := by rw [← c4]; exact hd
                  have ha := hRa hd' x
                  rw [hpt, List.append_assoc, hJ hdd (b ++ x), ← List.append_assoc h.nr b x, ha]
                  simp only [List.append_assoc]
                  rw [c5, c7 hd']
                · (simp only [LwA.st, LwA.O]; exact Wk.by _ _ _ [(0, 0), (1, 1), (2, 2)] [] [] (by simp) (by simp [wkV, PV.el, PV.weak, PS.get, PS.obj, PS.lv, lkp_hit, lkp_miss, lkp_nil, lko, wkL, wkC, res1, LwA.O, hcs_wk, ecs_wk, c2]) (by simp [PS.get, PS.obj, PS.lv, lkp_hit, lkp_miss, lkp_nil, lko, wkL, wkC, PV.weak, wkL, wkC, res1, LwA.O, hcs_wk, ecs_wk, c2]) (by simp [PS.get, PS.obj, PS.lv, lkp_hit, lkp_miss, lkp_nil, lko]) (by rfl) (by rfl) (by simp [lko]) (by simp) (by simp) (by simp) (fun i hi => absurd hi (Nat.not_lt_zero i)))
        · have hie : i = 2 := by simp at g2; omega
          subst hie
          have hQ1 := hquiet_fs h
          have hQ2 := Lk.quiet_fs h.e
          simp only [Hf.pv] at hQ1
          simp only [Lk.En.pv, Lk.pcs] at hQ2
          simp -implicitDefEqProofs only [push_cast, hcs_len, hcs_take, hcs_back, hcs_drop, List.append_nil, ecs_len, ecs_take, ecs_back, ecs_drop, seval]
          refine callE_pure hQ1 (by rfl) (by rfl) (by rfl) (by decide) (by rfl) (fun _ => by rfl) (by first | rfl | simp [gdOk, newToks]) ?_
          simp -implicitDefEqProofs only [push_cast, hcs_len, hcs_take, hcs_back, hcs_drop, List.append_nil, ecs_len, ecs_take, ecs_back, ecs_drop, seval]
          refine callE_pure hQ2 (by rfl) (by rfl) (by rfl) (by decide) (by rfl) (fun _ => by rfl) (by first | rfl | simp [gdOk, newToks]) ?_
          simp -implicitDefEqProofs only [push_cast, beq_self_eq_true, seval]
          refine callE_pure hw (by rfl) (by rfl) (by rfl) (by decide) (by rfl) (fun _ => by rfl) (by first | rfl | simp [gdOk, newToks]) ?_
          simp -implicitDefEqProofs only [push_cast, seval]
          (repeat (first | refine ⟨(by omega : _ ≤ _), ?_⟩ | refine ⟨(by omega : _ < _), ?_⟩ | refine ⟨(by simp; omega), ?_⟩ | refine ⟨(by simp; done), ?_⟩ | refine ⟨(by (unfold drawOk; kernel_rfl)), ?_⟩))
          all_goals (first | done | rfl | exact ⟨_, rfl, by simp [wkL, res2, res1, PV.weak, PV.el]⟩ | (simp [wkL, res2, res1, PV.weak, PV.el]; done))
end Go.Proofs.Sh
