/- glaziertop: the requests, and the example. -/
import Derived.Test.YtbpjoeopnaggoaaDoorSbGoW
import Derived.Test.YtbpjoeopnaggoaaDoorSbWide
set_option maxRecDepth 100000
set_option linter.unusedSimpArgs false
set_option linter.unusedVariables false
namespace Go.Proofs.Sh
open Go.Pv

/-- What is said behind a request. -/
structure Sd where
  C : Nat
  A : Nat
  B : Nat
  F : Bool
  N : Int
  hC : C < 256
  hA : A < 256
  hB : B < 256
def Sd.pv (x : Sd) : PV := .agg [.int .u8 (x.C : Int), .int .u8 (x.A : Int), .int .u8 (x.B : Int), .bool x.F, .int .i16 x.N]
def sdL (X : List Sd) : List PV := X.map Sd.pv
theorem sdL_length (X : List Sd) : (sdL X).length = X.length := List.length_map _
def sd0 : Sd := ⟨0, 0, 0, false, 0, by decide, by decide, by decide⟩
theorem sd_at {X : List Sd} {i : Nat} (h : i < X.length) : (sdL X).getD i PV.any = (X.getD i sd0).pv := by
  rw [sdL, List.getD_eq_getElem?_getD, List.getElem?_map, List.getElem?_eq_getElem h, List.getD_eq_getElem?_getD, List.getElem?_eq_getElem h]; rfl
def ttl : List UInt8 := [116, 105, 116, 108, 101]
def bqN (n : Nat) : Rq := match n with | 0 => ⟨38, [], [], []⟩ | 1 => ⟨11, [1], ttl, []⟩ | 2 => ⟨51, [1], [], []⟩ | _ => ⟨58, [], [], []⟩
def bq (x : Sd) : Rq := bqN (x.C % 4)
theorem bq_put (o : Int) (ho : o = 0 ∨ o = 1) (x : Sd) : (packS o (bq x)).2 = 0 ∧ (packS o (bq x)).1.length ≤ 24 := by
  have h : ∀ n, n < 4 → (packS o (bqN n)).2 = 0 ∧ (packS o (bqN n)).1.length ≤ 24 := by
    intro n hn
    rcases ho with rfl | rfl <;> (match n, hn with
      | 0, _ => exact ⟨by kernel_rfl, by decide +kernel⟩
      | 1, _ => exact ⟨by kernel_rfl, by decide +kernel⟩
      | 2, _ => exact ⟨by kernel_rfl, by decide +kernel⟩
      | 3, _ => exact ⟨by kernel_rfl, by decide +kernel⟩)
  exact h _ (Nat.mod_lt _ (by decide))
theorem bq_few (x : Sd) : (bq x).Few := by
  unfold bq bqN
  split <;> exact ⟨by simp, by simp [ttl], by simp⟩
theorem backRequest_fs (x : Sd) : Fsp Tryd.prog 31 [] 0 [x.pv] [] 0 (bq x).pv := by
  obtain ⟨C, A, B, F, N, hC, hA, hB⟩ := x
  have hm : Int.tmod (C : Int) 4 = ((C % 4 : Nat) : Int) := by rw [Int.tmod_eq_emod_of_nonneg (by omega)]; omega
  have hw : IntKind.u8.wrap ((C % 4 : Nat) : Int) = ((C % 4 : Nat) : Int) := wrap_u8_id (by omega) (by omega)
  have h4 : C % 4 < 4 := Nat.mod_lt _ (by decide)
  unfold bq
  simp only
  generalize C % 4 = n at *
  match n, h4 with
  | 0, _ =>
    (refine Fsp.of (nx := 0) mixed Tryd.func31 rfl (by decide) (by first | exact Nat.le_refl _ | simp) (by simp [Tryd.f31]) ⟨by decide, by decide⟩ ?_; simp -implicitDefEqProofs only [push_cast, Tryd.f31, Sd.pv, hm, hw, seval])
    all_goals first | done | exact ⟨_, rfl, by simp [wkL, res2, res1, PV.weak, PV.el, bqN, Rq.pv, ints, ttl]⟩ | (simp [wkL, res2, res1, res3, PV.weak, PV.el, bqN, Rq.pv, ints, ttl]; done) | skip
  | 1, _ =>
    (refine Fsp.of (nx := 0) mixed Tryd.func31 rfl (by decide) (by first | exact Nat.le_refl _ | simp) (by simp [Tryd.f31]) ⟨by decide, by decide⟩ ?_; simp -implicitDefEqProofs only [push_cast, Tryd.f31, Sd.pv, hm, hw, seval])
    all_goals first | done | exact ⟨_, rfl, by simp [wkL, res2, res1, PV.weak, PV.el, bqN, Rq.pv, ints, ttl]⟩ | (simp [wkL, res2, res1, res3, PV.weak, PV.el, bqN, Rq.pv, ints, ttl]; done) | skip
  | 2, _ =>
    (refine Fsp.of (nx := 0) mixed Tryd.func31 rfl (by decide) (by first | exact Nat.le_refl _ | simp) (by simp [Tryd.f31]) ⟨by decide, by decide⟩ ?_; simp -implicitDefEqProofs only [push_cast, Tryd.f31, Sd.pv, hm, hw, seval])
    all_goals first | done | exact ⟨_, rfl, by simp [wkL, res2, res1, PV.weak, PV.el, bqN, Rq.pv, ints, ttl]⟩ | (simp [wkL, res2, res1, res3, PV.weak, PV.el, bqN, Rq.pv, ints, ttl]; done) | skip
  | 3, _ =>
    (refine Fsp.of (nx := 0) mixed Tryd.func31 rfl (by decide) (by first | exact Nat.le_refl _ | simp) (by simp [Tryd.f31]) ⟨by decide, by decide⟩ ?_; simp -implicitDefEqProofs only [push_cast, Tryd.f31, Sd.pv, hm, hw, seval])
    all_goals first | done | exact ⟨_, rfl, by simp [wkL, res2, res1, PV.weak, PV.el, bqN, Rq.pv, ints, ttl]⟩ | (simp [wkL, res2, res1, res3, PV.weak, PV.el, bqN, Rq.pv, ints, ttl]; done) | skip
theorem isOrd_01 {o : Int} (h : o = 0 ∨ o = 1) : isOrd o = true := by rcases h with rfl | rfl <;> rfl
/-- One request more, that may be asked. -/
theorem ask_one (s : Sb) (x : Sd) (ho : s.o = 0 ∨ s.o = 1) (hc : ¬ s.c = 0) (hl : s.out.length ≤ 60000) : askS s [bq x] = (asked s [bq x], 0) ∧ (asked s [bq x]).c = s.c ∧ (asked s [bq x]).d = s.d ∧ (asked s [bq x]).o = s.o ∧ (asked s [bq x]).l = s.l ∧ (asked s [bq x]).came = s.came ∧ (asked s [bq x]).n = s.n + 1 ∧
    (asked s [bq x]).q = (if (replyOf (bq x).C).isSome = true then s.q ++ [s.n + 1] else s.q) ∧ (asked s [bq x]).out.length ≤ s.out.length + 24 ∧ s.out <+: (asked s [bq x]).out := by
  obtain ⟨h1, h2⟩ := bq_put s.o ho x
  have hp : putAll s.o s.out [bq x] = (s.out ++ (packS s.o (bq x)).1, 0) := by
    show putI s.o (s.out, 0) (bq x) = _
    rw [putI, if_pos rfl, if_pos h1, if_neg (by simp only; omega)]
  have he : askE s [bq x] = 0 := by rw [askE, if_neg hc, hp]
  refine ⟨by rw [askS, if_pos he], rfl, rfl, rfl, rfl, rfl, rfl, ?_, ?_, ?_⟩
  · show (addAll (s.n, s.q, s.mm) [bq x]).2.1 = _
    show (addR (s.n, s.q, s.mm) (bq x)).2.1 = _
    unfold addR
    simp only
    split <;> rfl
  · show (putAll s.o s.out [bq x]).1.length ≤ _
    rw [hp, List.length_append]; omega
  · show s.out <+: (putAll s.o s.out [bq x]).1
    rw [hp]; exact List.prefix_append _ _
def baS : Sb := ⟨1, 1, false, 0, 0, 0, beg1, [], [], none⟩
def baO : List UInt8 := (askS baS [⟨38, [], [], []⟩]).1.out
def baT : Sb := ⟨1, 1, false, 1, 0, 0, baO, [], [1], some [(1, 38)]⟩
def baX : Ot := ⟨1, 38, 1, [1, 1], [], []⟩
def baB : List UInt8 := (tellS 1 baX).1
theorem ba_new : newS 1 1 = (baS, 0) := by rfl
theorem ba_ask : askS baS [⟨38, [], [], []⟩] = (baT, 0) := by kernel_rfl
theorem ba_tell : tellS 1 baX = (baB, 0) := by kernel_rfl
theorem ba_feed : feedS baT baB = ({ baT with l := 1, q := [], m := some [] }, [baX], 0) := by kernel_rfl
set_option maxHeartbeats 2000000 in
theorem backAwake_fs : Fsp Tryd.prog 30 [] 0 [] [] 0 (.bool true) := by
  have hn := new_fs 1 1
  rw [newR, ba_new] at hn
  have ha := ask_fs baS [⟨38, [], [], []⟩] ⟨by decide, by decide, by decide, by decide⟩ (by decide) (fun x hx => by
    obtain rfl := List.mem_singleton.1 hx; exact ⟨by decide, by decide, by decide⟩)
  rw [askR, ba_ask] at ha
  have hp := tellPut_fs 1 baX ⟨by decide, by decide, by decide⟩
  rw [tellR, ba_tell] at hp
  have hf := feed_fs baT baB (by decide) (by decide +kernel)
  rw [feedR, ba_feed] at hf
  have hw := waiting_fs { baT with l := 1, q := [], m := some [] } (by decide)
  have hs := sent_fs { baT with l := 1, q := [], m := some [] }
  simp only [Sb.pv, Sb.cs, Sb.mpv, baS, baT, baX, rqL, oL, List.map, Rq.pv, Ot.pv, ints, mkM] at ha hn hp hf hw hs
  have ha := ha.takes (qs := [.agg [.int .i64 1, .int .i64 1, .bool false, .int .i64 0, .int .i64 0, .int .i64 0, .str beg1, .str [], .sl 1 [], .nilm],
    .sl 4 [.agg [.int .i64 38, .nilsl, .str [], .nilsl]]]) rfl (fun i q p h1 h2 g v r => by
      rcases i with _ | _ | i
      · simp at h1 h2; subst h1; subst h2; exact r
      · simp at h1 h2; subst h1; subst h2
        refine Rel.nlRow ?_ ?_ ?_ r
        · rfl
        · simp [nlCs, nlC, PV.cells]
        · simp [PV.cells]
      · simp at h1)
  have hp := hp.nils (qs := [.int .i64 1, .agg [.int .i64 1, .int .i64 38, .int .i64 1, .sl 1 [.int .i64 1, .int .i64 1], .str [], .nilsl]]) ⟨nlV_same _, nlV_agg (by simp [nlCs, nlC]), trivial⟩
  (refine Fsp.of (nx := 0) mixed Tryd.func30 rfl (by decide) (by first | exact Nat.le_refl _ | simp) (by simp [Tryd.f30]) ⟨by decide, by decide⟩ ?_; simp -implicitDefEqProofs only [push_cast, Tryd.f30, seval])
  refine callE_pure hn (by rfl) (by rfl) (by rfl) (by decide) (by rfl) (fun _ => by rfl) (by first | rfl | simp [gdOk, newToks]) ?_
  simp -implicitDefEqProofs only [push_cast, seval]
  refine callE_pure ha (by rfl) (by rfl) (by rfl) (by decide) (by rfl) (fun _ => by rfl) (by first | rfl | simp [gdOk, newToks]) ?_
  simp -implicitDefEqProofs only [push_cast, seval]
  skip
  refine callE_pure hp (by rfl) (by rfl) (by rfl) (by decide) (by rfl) (fun _ => by rfl) (by first | rfl | simp [gdOk, newToks]) ?_
  simp -implicitDefEqProofs only [push_cast, seval]
  refine callE_pure hf (by rfl) (by rfl) (by rfl) (by decide) (by rfl) (fun _ => by rfl) (by first | rfl | simp [gdOk, newToks]) ?_
  simp -implicitDefEqProofs only [push_cast, seval]
  skip
  refine callE_pure hw (by rfl) (by rfl) (by rfl) (by decide) (by rfl) (fun _ => by rfl) (by first | rfl | simp [gdOk, newToks]) ?_
  simp -implicitDefEqProofs only [push_cast, seval]
  refine callE_pure hs (by rfl) (by rfl) (by rfl) (by decide) (by rfl) (fun _ => by rfl) (by first | rfl | simp [gdOk, newToks]) ?_
  simp -implicitDefEqProofs only [push_cast, seval]
  skip

end Go.Proofs.Sh

/- TopWaits. -/
set_option maxRecDepth 100000
set_option linter.unusedSimpArgs false
set_option linter.unusedVariables false
namespace Go.Proofs.Sh
open Go.Pv

theorem pvints_at {l : List Int} {i : Nat} (h : i < l.length) : (ints l).getD i PV.any = .int .i64 (l.getD i 0) := by
  rw [ints, List.getD_eq_getElem?_getD, List.getElem?_map, List.getElem?_eq_getElem h, List.getD_eq_getElem?_getD, List.getElem?_eq_getElem h]; rfl
theorem optT_isSome (o : Option Fm) : ∃ (F : List Int) (b : Bool) (l : Int), optT o = .tup [.agg [.sl 1 (ints F), .bool b, .int .i64 l], .bool o.isSome] := by
  cases o with
  | none => exact ⟨[], false, 0, rfl⟩
  | some f => exact ⟨f.F, f.B, f.L, rfl⟩
/-- The event out of order. -/
def noX (k : Int) : Ot := ⟨2, 12, k, [1], [], []⟩
theorem noX_ok : ∀ k : Nat, k < 13 → (tellS 0 (noX k)).2 = 0 ∧ wholeS 0 (tellS 0 (noX k)).1 = true ∧ tellG 0 (tellS 0 (noX k)).1 = (noX k, ((tellS 0 (noX k)).1.length : Int), 0) ∧ (tellS 0 (noX k)).1.length ≤ 40 := by
  intro k hk
  match k, hk with
  | 0, _ => exact ⟨by kernel_rfl, by kernel_rfl, by kernel_rfl, by decide +kernel⟩
  | 1, _ => exact ⟨by kernel_rfl, by kernel_rfl, by kernel_rfl, by decide +kernel⟩
  | 2, _ => exact ⟨by kernel_rfl, by kernel_rfl, by kernel_rfl, by decide +kernel⟩
  | 3, _ => exact ⟨by kernel_rfl, by kernel_rfl, by kernel_rfl, by decide +kernel⟩
  | 4, _ => exact ⟨by kernel_rfl, by kernel_rfl, by kernel_rfl, by decide +kernel⟩
  | 5, _ => exact ⟨by kernel_rfl, by kernel_rfl, by kernel_rfl, by decide +kernel⟩
  | 6, _ => exact ⟨by kernel_rfl, by kernel_rfl, by kernel_rfl, by decide +kernel⟩
  | 7, _ => exact ⟨by kernel_rfl, by kernel_rfl, by kernel_rfl, by decide +kernel⟩
  | 8, _ => exact ⟨by kernel_rfl, by kernel_rfl, by kernel_rfl, by decide +kernel⟩
  | 9, _ => exact ⟨by kernel_rfl, by kernel_rfl, by kernel_rfl, by decide +kernel⟩
  | 10, _ => exact ⟨by kernel_rfl, by kernel_rfl, by kernel_rfl, by decide +kernel⟩
  | 11, _ => exact ⟨by kernel_rfl, by kernel_rfl, by kernel_rfl, by decide +kernel⟩
  | 12, _ => exact ⟨by kernel_rfl, by kernel_rfl, by kernel_rfl, by decide +kernel⟩
theorem feed_late (s : Sb) (k : Nat) (hk : k < 13) (ho : s.o = 0) (hlv : s.Live) (hl : s.l = 0) (hcm : s.came = []) (a : Int) (q : List Int) (hq : s.q = a :: q) (ha : a < k) : feedS s (tellS 0 (noX k)).1 = (failS s, [], 9) := by
  obtain ⟨-, h2, h3, -⟩ := noX_ok k hk
  unfold Sb.Live at hlv
  rw [feedS, if_neg (by rw [hlv]; exact Bool.false_ne_true), hcm, List.nil_append, feedGo]
  have e1 : s.own.o = 0 := ho
  rw [e1, if_pos h2, h3, if_pos rfl]
  have hw : wideO s.own (noX k) = noX k := by
    unfold wideO noX
    rw [show s.own.l = 0 from hl]
    simp only [Ot.mk.injEq, true_and, and_true]
    rw [wideS, if_neg (by simp [wideB]; omega), wideN]
    simp; omega
  have hm : mayB s.own (wideO s.own (noX k)) = false := by
    rw [hw, mayB]
    split
    · rfl
    · rw [show s.own.q = a :: q from hq]
      exact if_pos (decide_eq_true ha)
  rw [if_neg (by rw [hm]; exact Bool.false_ne_true)]
  rfl
theorem feed_dead (s : Sb) : feedS (failS s) [] = (failS s, [], 20) := by
  rw [feedS, if_pos (by simp [failS])]
structure Tw (X : List Sd) where
  i : Nat
  s : Sb
  hi : i ≤ X.length
  ho : s.o = 0
  hc : s.c = 2
  hd : s.d = false
  hl : s.l = 0
  hm : s.came = []
  hn : s.n = i
  hu : s.out.length ≤ 4 + 24 * i
  hq : s.q.Pairwise (· < ·)
  hb : ∀ a ∈ s.q, 1 ≤ a ∧ a ≤ i
  hk : s.q.length ≤ i
def Tw.st (k : Nat) {X : List Sd} (a : Tw X) : PS := { n := 141, env := [(1, .int .u8 k), (37, .int .i64 a.i), (36, .int .i64 X.length), (35, .sl 5 (sdL X)), (7, .slt 1 (ints a.s.q) 50), (5, .box 0 0)], objs := [(0, some (a.s.cs (.sl 1 (ints a.s.q)) a.s.mpv))], live := [(50, true)], nxt := 60 }
structure Tv (l : List Int) where
  i : Nat
  h : i ≤ l.length
def Tv.st (s : Sb) (k : Nat) {l : List Int} (a : Tv l) : PS := { n := 141, env := [(75, .int .i64 a.i), (74, .int .i64 l.length), (13, .sl 1 (ints l)), (7, .sl 1 (ints l)), (5, .box 0 0), (1, .int .u8 k)], objs := [(0, some (s.cs (.sl 1 (ints l)) s.mpv))], live := [], nxt := 60 }
theorem getD_memI {l : List Int} {i : Nat} (h : i < l.length) : l.getD i 0 ∈ l := by
  rw [List.getD_eq_getElem?_getD, List.getElem?_eq_getElem h]; exact List.getElem_mem h
set_option maxHeartbeats 8000000 in
theorem topWaits_fs (X : List Sd) (k : Nat) (hk : k < 256) (hX : X.length ≤ 1000000000000000) : Fsp Tryd.prog 9 [] 0 [.sl 5 (sdL X), .int .u8 k] [] 0 (.bool true) := by
  cases k1 : decide ((12 : Int) < (X.length : Int))
  · have hX12 : X.length ≤ 12 := by simp at k1; omega
    have hN := new_fs 0 2
    rw [newR, show newS 0 2 = (({ sb0 with o := 0, c := 2, out := beg0 } : Sb), 0) by rfl] at hN
    simp only [Sb.pv, Sb.cs, Sb.mpv, sb0, ints, List.map] at hN
    (refine Fsp.of (nx := 0) mixed Tryd.func9 rfl (by decide) (by first | exact Nat.le_refl _ | simp) (by simp [Tryd.f9]) ⟨by decide, by decide⟩ ?_; simp -implicitDefEqProofs only [push_cast, Tryd.f9, sdL_length, k1, seval])
    refine callE_pure backAwake_fs (by rfl) (by rfl) (by rfl) (by decide) (by rfl) (fun _ => by rfl) (by first | rfl | simp [gdOk, newToks]) ?_
    simp -implicitDefEqProofs only [push_cast, k1, sdL_length, seval]
    refine callE_pure hN (by rfl) (by rfl) (by rfl) (by decide) (by rfl) (fun _ => by rfl) (by first | rfl | simp [gdOk, newToks]) ?_
    simp -implicitDefEqProofs only [push_cast, seval]
    refine loopC_of (α := Tw X) (Tw.st k) (fun a => X.length - a.i) ⟨0, { sb0 with o := 0, c := 2, out := beg0 }, by omega, rfl, rfl, rfl, rfl, rfl, rfl, by simp [beg0], by simp [sb0], by simp [sb0], by simp [sb0]⟩ ?_ ?_
    · (simp only [Tw.st, Sb.cs, Sb.mpv, sb0]; exact Wk.by _ _ _ [(0, 40)] [] [50] (by simp) (by simp [wkV, PV.el, PV.weak, PS.get, PS.obj, PS.lv, lkp_hit, lkp_miss, lkp_nil, lko, wkL, res1, ints, Sb.mpv, wkC, sdL_length]) (by simp [PS.get, PS.obj, PS.lv, lkp_hit, lkp_miss, lkp_nil, lko, wkL, mpv_wkC, wkC_int, wkC_str, wkC_bool, wkC_sl, wkC_mpure, wkC_any, PV.weak, wkL, res1, ints, Sb.mpv, wkC, sdL_length]) (by simp [PS.get, PS.obj, PS.lv, lkp_hit, lkp_miss, lkp_nil, lko]) (by rfl) (by rfl) (by simp [lko]) (by simp) (by simp) (by simp) (fun i hi => absurd hi (Nat.not_lt_zero i)))
    · rintro ⟨i, s, hi, ho, hc, hd, hl, hm, hn, hu, hq, hb, hq2⟩
      simp -implicitDefEqProofs only [push_cast, Tw.st, Sb.cs, sdL_length, seval]
      refine condC_split (fun g1 => ?_) (fun g1 => ?_)
      · have hlt : i < X.length := by simp at g1; omega
        have hg := sd_at hlt
        generalize X.getD i sd0 = x at *
        have hbr := backRequest_fs x
        have hak := askM_fs s [bq x] ⟨by omega, by omega, by omega, by omega⟩ (by simp) (fun y hy => by obtain rfl := List.mem_singleton.1 hy; exact bq_few x)
        obtain ⟨r1, r2, r3, r4, r5, r6, r7, r8, r9, -⟩ := ask_one s x (.inl ho) (by omega) (by omega)
        rw [askR, r1] at hak
        have hrp := reply_fs (bq x).C
        obtain ⟨pF, pb, pl, hp1⟩ := optT_isSome (replyOf (bq x).C)
        rw [hp1] at hrp
        generalize asked s [bq x] = s' at *
        have hbp : (bq x).pv = .agg [.int .i64 (bq x).C, .sl 1 (ints (bq x).N), .str (bq x).B, .sl 1 (ints (bq x).L)] := rfl
        simp only [rqL, List.map, hbp, Sb.pv, Sb.cs] at hak hbr
        generalize (bq x).C = xC at *
        generalize (bq x).N = xN at *
        generalize (bq x).B = xB at *
        generalize (bq x).L = xL at *
        simp only [Sd.pv] at hg hbr
        have wi : IntKind.i64.wrap ((i : Int) + 1) = (i : Int) + 1 := wrap_i64_id (by omega) (by omega)
        simp -implicitDefEqProofs only [push_cast, hg, sdL_length, seval]
        (repeat (first | refine ⟨by omega, ?_⟩ | refine ⟨by (unfold drawOk; kernel_rfl), ?_⟩))
        refine callE_pure hbr (by rfl) (by rfl) (by rfl) (by decide) (by rfl) (fun _ => by rfl) (by first | rfl | simp [gdOk, newToks]) ?_
        simp -implicitDefEqProofs only [push_cast, seval]
        skip
        refine callE_pure hak (by rfl) (by rfl) (by first | rfl | (simp only [List.map_cons, List.map_nil, List.toList_toArray, PS.ev, PS.get, lkp_hit, lkp_miss, lkp_nil, PV.un, PV.el, mpv_weak]; rfl)) (by decide) (by first | rfl | (simp only [tokLt, tokLt2, List.all_cons, List.all_nil, mpv_tok1]; rfl)) (fun _ => by rfl) (by first | rfl | simp [gdOk, newToks]) ?_
        simp -implicitDefEqProofs only [push_cast, mpv_weak, mpv_back1, mpv_tok1, mpv_cells, mpv_one, mpv_un, mpv_cnd, seval]
        skip
        refine callE_pure hrp (by rfl) (by rfl) (by rfl) (by decide) (by rfl) (fun _ => by rfl) (by first | rfl | simp [gdOk, newToks]) ?_
        simp -implicitDefEqProofs only [push_cast, mpv_weak, mpv_back1, mpv_tok1, mpv_cells, mpv_one, mpv_un, mpv_cnd, seval]
        refine condC_split (fun g2 => ?_) (fun g2 => ?_)
        · rw [if_pos g2] at r8
          have hsn : ints s.q ++ [.int .i64 ((i : Int) + 1)] = ints s'.q := by rw [r8, hn]; simp [ints]
          simp -implicitDefEqProofs only [push_cast, wi, hsn, ints_length, mpv_weak, mpv_back1, mpv_tok1, mpv_cells, mpv_one, mpv_un, mpv_cnd, seval]
          (repeat (first | refine ⟨by omega, ?_⟩ | refine ⟨by (unfold drawOk; kernel_rfl), ?_⟩))
          refine ⟨⟨i + 1, s', hlt, r4.trans ho, r2.trans hc, r3.trans hd, r5.trans hl, r6.trans hm, by rw [r7, hn]; rfl, by omega, ?_, ?_, ?_⟩, Nat.sub_lt_sub_left hlt (Nat.lt_succ_self _), ?_⟩
          · rw [r8, List.pairwise_append]
            refine ⟨hq, by simp, fun a ha b hb' => ?_⟩
            rw [List.mem_singleton.1 hb', hn]
            have := hb a ha
            omega
          · rw [r8]
            intro a ha
            rcases List.mem_append.1 ha with ha | ha
            · have := hb a ha; omega
            · rw [List.mem_singleton.1 ha, hn]; omega
          · rw [r8, List.length_append]; simp only [List.length_cons, List.length_nil]; omega
          · skip
            (simp only [Tw.st, Sb.cs]; exact Wk.by _ _ _ [(0, 0)] [(50, 204)] [] (by simp) (by simp [wkV, PV.el, PV.weak, PS.get, PS.obj, PS.lv, lkp_hit, lkp_miss, lkp_nil, lko, wkL, res1]) (by simp [PS.get, PS.obj, PS.lv, lkp_hit, lkp_miss, lkp_nil, lko, wkL, mpv_wkC, wkC_int, wkC_str, wkC_bool, wkC_sl, wkC_mpure, wkC_any, PV.weak, wkL, res1]) (by simp [PS.get, PS.obj, PS.lv, lkp_hit, lkp_miss, lkp_nil, lko]) (by rfl) (by rfl) (by simp [lko]) (by simp) (by simp) (by simp) (fun i hi => absurd hi (Nat.not_lt_zero i)))
        · rw [if_neg (by rw [g2]; exact Bool.false_ne_true)] at r8
          simp -implicitDefEqProofs only [push_cast, wi, mpv_weak, mpv_back1, mpv_tok1, mpv_cells, mpv_one, mpv_un, mpv_cnd, seval]
          refine ⟨⟨i + 1, s', hlt, r4.trans ho, r2.trans hc, r3.trans hd, r5.trans hl, r6.trans hm, by rw [r7, hn]; rfl, by omega, by rw [r8]; exact hq, by rw [r8]; intro a ha; have := hb a ha; omega, by rw [r8]; omega⟩, Nat.sub_lt_sub_left hlt (Nat.lt_succ_self _), ?_⟩
          (simp only [Tw.st, Sb.cs, r8]; exact Wk.by _ _ _ [(0, 0)] [(50, 50)] [] (by simp) (by simp [wkV, PV.el, PV.weak, PS.get, PS.obj, PS.lv, lkp_hit, lkp_miss, lkp_nil, lko, wkL, res1]) (by simp [PS.get, PS.obj, PS.lv, lkp_hit, lkp_miss, lkp_nil, lko, wkL, mpv_wkC, wkC_int, wkC_str, wkC_bool, wkC_sl, wkC_mpure, wkC_any, PV.weak, wkL, res1]) (by simp [PS.get, PS.obj, PS.lv, lkp_hit, lkp_miss, lkp_nil, lko]) (by rfl) (by rfl) (by simp [lko]) (by simp) (by simp) (by simp) (fun i hi => absurd hi (Nat.not_lt_zero i)))
      · have hie : i = X.length := by simp at g1; omega
        have hwt := waitingM_fs s (by omega)
        simp only [Sb.cs] at hwt
        simp -implicitDefEqProofs only [push_cast, seval]
        refine callE_pure hwt (by rfl) (by rfl) (by first | rfl | (simp only [List.map_cons, List.map_nil, List.toList_toArray, PS.ev, PS.get, lkp_hit, lkp_miss, lkp_nil, PV.un, PV.el, mpv_weak]; rfl)) (by decide) (by first | rfl | (simp only [tokLt, tokLt2, List.all_cons, List.all_nil, mpv_tok1]; rfl)) (fun _ => by rfl) (by first | rfl | simp [gdOk, newToks]) ?_
        simp -implicitDefEqProofs only [push_cast, ints_length, bne_self_eq_false, mpv_weak, mpv_back1, mpv_tok1, mpv_cells, mpv_one, mpv_un, mpv_cnd, seval]
        refine loopC_of (α := Tv s.q) (Tv.st s k) (fun a => s.q.length - a.i) ⟨0, Nat.zero_le _⟩ ?_ ?_
        · (simp only [Tv.st, Sb.cs]; exact Wk.by _ _ _ [(0, 0)] [] [] (by simp) (by simp [wkV, PV.el, PV.weak, PS.get, PS.obj, PS.lv, lkp_hit, lkp_miss, lkp_nil, lko, wkL, res1, ints_length]) (by simp [PS.get, PS.obj, PS.lv, lkp_hit, lkp_miss, lkp_nil, lko, wkL, mpv_wkC, wkC_int, wkC_str, wkC_bool, wkC_sl, wkC_mpure, wkC_any, PV.weak, wkL, res1, ints_length]) (by simp [PS.get, PS.obj, PS.lv, lkp_hit, lkp_miss, lkp_nil, lko]) (by rfl) (by rfl) (by simp [lko]) (by simp) (by simp) (by simp) (fun i hi => absurd hi (Nat.not_lt_zero i)))
        · rintro ⟨j, hj⟩
          simp -implicitDefEqProofs only [push_cast, Tv.st, Sb.cs, ints_length, seval]
          refine condC_split (fun g2 => ?_) (fun g2 => ?_)
          · have hlt2 : j < s.q.length := by simp at g2; omega
            have hgj := pvints_at hlt2
            have wj : IntKind.i64.wrap ((j : Int) + 1) = (j : Int) + 1 := wrap_i64_id (by omega) (by omega)
            simp -implicitDefEqProofs only [push_cast, hgj, ints_length, bne_self_eq_false, wj, seval]
            (repeat (first | refine ⟨by omega, ?_⟩ | refine ⟨by (unfold drawOk; kernel_rfl), ?_⟩))
            refine ⟨⟨j + 1, hlt2⟩, Nat.sub_lt_sub_left hlt2 (Nat.lt_succ_self _), ?_⟩
            (simp only [Tv.st, Sb.cs]; exact Wk.by _ _ _ [(0, 0)] [] [] (by simp) (by simp [wkV, PV.el, PV.weak, PS.get, PS.obj, PS.lv, lkp_hit, lkp_miss, lkp_nil, lko, wkL, res1]) (by simp [PS.get, PS.obj, PS.lv, lkp_hit, lkp_miss, lkp_nil, lko, wkL, mpv_wkC, wkC_int, wkC_str, wkC_bool, wkC_sl, wkC_mpure, wkC_any, PV.weak, wkL, res1]) (by simp [PS.get, PS.obj, PS.lv, lkp_hit, lkp_miss, lkp_nil, lko]) (by rfl) (by rfl) (by simp [lko]) (by simp) (by simp) (by simp) (fun i hi => absurd hi (Nat.not_lt_zero i)))
          · simp -implicitDefEqProofs only [push_cast, ints_length, seval]
            refine condC_split (fun g3 => ?_) (fun g3 => ?_)
            · simp -implicitDefEqProofs only [push_cast, seval]
            · have hl2 : 2 ≤ s.q.length := by simp at g3; omega
              have w1 : IntKind.i64.wrap (k : Int) = (k : Int) := wrap_i64_id (by omega) (by omega)
              have w2 : IntKind.i64.wrap ((s.q.length : Int) - 1) = (s.q.length : Int) - 1 := wrap_i64_id (by omega) (by omega)
              obtain ⟨r, hr⟩ : ∃ r, r = k % (s.q.length - 1) := ⟨_, rfl⟩
              have hr1 : r < s.q.length - 1 := by rw [hr]; exact Nat.mod_lt _ (by omega)
              have w3 : Int.tmod (k : Int) ((s.q.length : Int) - 1) = (r : Int) := by
                rw [Int.tmod_eq_emod_of_nonneg (by omega), hr, show (s.q.length : Int) - 1 = ((s.q.length - 1 : Nat) : Int) by omega]; rfl
              have w4 : IntKind.i64.wrap (r : Int) = (r : Int) := wrap_i64_id (by omega) (by omega)
              have w5 : IntKind.i64.wrap (1 + (r : Int)) = 1 + (r : Int) := wrap_i64_id (by omega) (by omega)
              have w6 : (1 + (r : Int)).toNat = 1 + r := by omega
              have hz : ((s.q.length : Int) - 1 == 0) = false := by simp; omega
              have hgk := pvints_at (l := s.q) (i := 1 + r) (by omega)
              have hkm := hb _ (getD_memI (l := s.q) (i := 1 + r) (by omega))
              obtain ⟨a, q, haq⟩ : ∃ a q, s.q = a :: q := by
                cases hsq : s.q with
                | nil => rw [hsq] at hl2; simp at hl2
                | cons a q => exact ⟨a, q, rfl⟩
              have hak : a < s.q.getD (1 + r) 0 := by
                have h1 : s.q.getD (1 + r) 0 ∈ q := by
                  rw [haq] at hr1 ⊢
                  rw [show (1 + r) = r + 1 by omega, List.getD_cons_succ]
                  exact getD_memI (by simp at hr1; omega)
                rw [haq, List.pairwise_cons] at hq
                exact hq.1 _ h1
              generalize s.q.getD (1 + r) 0 = kk at *
              obtain ⟨kn, rfl⟩ : ∃ kn : Nat, kk = (kn : Int) := ⟨kk.toNat, by omega⟩
              obtain ⟨n1, n2, n3, n4⟩ := noX_ok kn (by omega)
              have hlv : s.Live := by unfold Sb.Live; rw [hc, hd]; rfl
              have hfl := feed_late s kn (by omega) ho hlv hl hm a q haq hak
              have hpt := tellPut_fs 0 (noX kn) ⟨by simp [noX], by simp [noX], by simp [noX]⟩
              rw [tellR, n1] at hpt
              have hfe := feedM_fs s (tellS 0 (noX kn)).1 (by omega) (by rw [hm, List.nil_append]; omega)
              rw [feedR, hfl] at hfe
              have hfd := feedM_fs (failS s) [] (by show s.q.length ≤ _; omega) (by simp [failS])
              rw [feedR, feed_dead] at hfd
              generalize (tellS 0 (noX kn)).1 = bb at *
              simp only [show (failS s).mpv = s.mpv from rfl, Sb.pv, Sb.cs, failS, oL, List.map] at hfe hfd
              simp only [noX, Ot.pv, ints, List.map] at hpt
              have hpt := hpt.nils (qs := [.int .i64 0, .agg [.int .i64 2, .int .i64 12, .int .i64 kn, .sl 1 [.int .i64 1], .str [], .nilsl]]) ⟨nlV_same _, nlV_agg (by simp [nlCs, nlC]), trivial⟩
              simp -implicitDefEqProofs only [push_cast, w1, w2, w3, w4, w5, w6, hz, hgk, ints_length, seval]
              skip
              (repeat (first | refine ⟨by omega, ?_⟩ | refine ⟨by (unfold drawOk; kernel_rfl), ?_⟩))
              refine callE_pure hpt (by rfl) (by rfl) (by rfl) (by decide) (by rfl) (fun _ => by rfl) (by first | rfl | simp [gdOk, newToks]) ?_
              simp -implicitDefEqProofs only [push_cast, seval]
              refine callE_pure hfe (by rfl) (by rfl) (by first | rfl | (simp only [List.map_cons, List.map_nil, List.toList_toArray, PS.ev, PS.get, lkp_hit, lkp_miss, lkp_nil, PV.un, PV.el, mpv_weak]; rfl)) (by decide) (by first | rfl | (simp only [tokLt, tokLt2, List.all_cons, List.all_nil, mpv_tok1]; rfl)) (fun _ => by rfl) (by first | rfl | simp [gdOk, newToks]) ?_
              simp -implicitDefEqProofs only [push_cast, mpv_weak, mpv_back1, mpv_tok1, mpv_cells, mpv_one, mpv_un, mpv_cnd, seval]
              refine callE_pure hfd (by rfl) (by rfl) (by first | rfl | (simp only [List.map_cons, List.map_nil, List.toList_toArray, PS.ev, PS.get, lkp_hit, lkp_miss, lkp_nil, PV.un, PV.el, mpv_weak]; rfl)) (by decide) (by first | rfl | (simp only [tokLt, tokLt2, List.all_cons, List.all_nil, mpv_tok1]; rfl)) (fun _ => by rfl) (by first | rfl | simp [gdOk, newToks]) ?_
              simp -implicitDefEqProofs only [push_cast, mpv_weak, mpv_back1, mpv_tok1, mpv_cells, mpv_one, mpv_un, mpv_cnd, seval]
              skip
  · (refine Fsp.of (nx := 0) mixed Tryd.func9 rfl (by decide) (by first | exact Nat.le_refl _ | simp) (by simp [Tryd.f9]) ⟨by decide, by decide⟩ ?_; simp -implicitDefEqProofs only [push_cast, Tryd.f9, sdL_length, k1, seval])
    refine callE_pure backAwake_fs (by rfl) (by rfl) (by rfl) (by decide) (by rfl) (fun _ => by rfl) (by first | rfl | simp [gdOk, newToks]) ?_
    simp -implicitDefEqProofs only [push_cast, k1, sdL_length, seval]

end Go.Proofs.Sh
