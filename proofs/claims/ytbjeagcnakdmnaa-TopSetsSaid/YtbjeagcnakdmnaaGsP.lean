/- Package shape: a bitmap's region (walk). -/
import Derived.Test.YtbjeagcnakdmnaaPvYa
import Derived.Test.YtbjeagcnakdmnaaGsL
import Derived.Test.YtbjeagcnakdmnaaPvIv
set_option maxRecDepth 100000
set_option linter.unusedSimpArgs false
set_option linter.unusedVariables false
namespace Go.Proofs.Sh
open Go.Pv
open Rg
theorem YWP.cutV {P : Program} {K : Yc} (hm : P.follows .mixedOrders = true) : ∀ (k : Nat) {c : Code} {Q : YPost} {S : PS} {pe : Option Code}, VCY P K (headN k c) (yseqK (YWP P K (tailN k c)) Q) S pe → YWP P K c Q S pe
  | 0, c, Q, S, pe, h => by
    cases c with
    | seq a b => exact YWP.seq (VCY_sound hm h)
    | _ => exact h
  | k + 1, c, Q, S, pe, h => by
    cases c with
    | seq a b =>
      refine YWP.seq ((VCY_sound hm (show VCY P K a (yseqK (VCY P K (headN k b)) (yseqK (YWP P K (tailN k b)) Q)) S pe from h)).mono (fun e S' pe' h => ?_))
      cases e with
      | normal => exact YWP.cutV hm k h
      | _ => exact h
    | _ => exact h
theorem yseqK_normal {f : YPost → PS → Option Code → Prop} {Q : YPost} {S : PS} {pe : Option Code} : yseqK f Q .normal S pe = f Q S pe := rfl
theorem yseqK_exit {f : YPost → PS → Option Code → Prop} {Q : YPost} {S : PS} {pe : Option Code} {i : Nat} : yseqK f Q (.exit i) S pe = Q (.exit i) S pe := rfl
theorem ones_fs (B : List UInt8) : Fsp Try.prog 41 [] 0 [.int .i64 4, .str B] [[.int .i64 4], [.str B]] 0 (.fn 62 [.box 1 0, .box 0 0]) := by
  (refine Fsp.ofs (nx := 0) mixed Try.func41 rfl (by simp [Try.f41]) ?_; simp -implicitDefEqProofs only [push_cast, Try.f41, seval])
  exact endK_box [] [0, 4] rfl rfl (by simp [PS.lv, lkp_hit, lkp_miss, lkp_nil]) rfl rfl (by rfl) (fun i j ps h1 h2 => by (rcases i with _ | _ | i <;> simp at h1 h2 <;> (subst h1; subst h2; exact ⟨_, rfl, (by first | exact rcs_res _ _ _ | exact ics_res _ _ _ | exact (by (repeat' (first | exact wkL_nil | refine wkL_cons ?_ ?_)); all_goals (first | rfl | exact ⟨rfl, rfl⟩ | exact ⟨rfl, rfl, rfl⟩ | exact .inl rfl)))⟩))) ⟨by simp [resOk, PS.get, lkp_hit, lkp_miss, PS.ev], by simp [resPV, PS.get, lkp_hit, lkp_miss, PS.ev], by simp [resOf, resPV, one', res3, res2, res1, PS.get, lkp_hit, lkp_miss, PS.ev, PV.weak, PV.el, wkL]⟩
def oS (g : Bool) (n : Nat) : PV := match g with
  | true => .nilsl
  | false => .slg 8 n 4
def oB (g : Bool) (l : List Rt) : List (Nat × Option (List PV)) := match g with
  | true => []
  | false => [(8, some (rcs l))]
def ofO (B : List UInt8) (g : Bool) (l : List Rt) : List (Nat × Option (List PV)) := (0, some [.int .i64 28]) :: (1, some [.nilsl]) :: (2, some [.int .i64 0]) :: (3, some [oS g l.length]) :: (4, some [.int .i64 4]) :: (5, some [.str B]) :: oB g l
def ofCs (B : List UInt8) : PS := { n := 96, env := [(41, .fn 62 [.box 5 0, .box 4 0]), (9, .box 3 0), (7, .box 2 0), (6, .box 1 0), (3, .box 0 0)], objs := ofO B true [], live := [], nxt := 6 }
def ofCe (B : List UInt8) (g : Bool) (l : List Rt) : PS := { n := 96, env := [(9, .box 3 0), (7, .box 2 0), (6, .box 1 0), (3, .box 0 0)], objs := ofO B g l, live := [], nxt := 9 }
structure OnA (S : Int → Int → Bool) where
  g : Bool
  i : Nat
  l : List Rt
  hi : i ≤ 112
  I : OfI S (8 * i) l
  hg : g = true → l = []
  hn : g = false → l ≠ []
def OnA.st (B : List UInt8) {S : Int → Int → Bool} (a : OnA S) : PS := { n := 37, env := [(4, .int .i64 a.i), (2, .box 4 0), (1, .box 5 0), (0, .yld 6)], objs := ofO B a.g a.l, live := [], nxt := 9 }
structure OmA (S : Int → Int → Bool) (i : Nat) where
  g : Bool
  j : Nat
  l : List Rt
  hj : j ≤ 8
  I : OfI S (8 * i + j) l
  hg : g = true → l = []
  hn : g = false → l ≠ []
def OmA.st (B : List UInt8) {S : Int → Int → Bool} {i : Nat} (a : OmA S i) : PS := { n := 37, env := [(5, .int .i64 a.j), (4, .int .i64 i), (2, .box 4 0), (1, .box 5 0), (0, .yld 6)], objs := ofO B a.g a.l, live := [], nxt := 9 }
def soT (f : Func) : Code := tailN 6 (f.body.getD .skip)
def soE (l : List Rt) : PS := { n := 96, env := [(9, .box 3 0), (7, .box 2 0), (6, .box 1 0)], objs := [(1, some [.nilsl]), (2, some [.int .i64 0]), (3, some [.sl 4 (rts l)])], live := [], nxt := 9 }
theorem f1_int (m : Nat) (ps : List PV) (k : IntKind) (n : Int) : frz1 m ps (.int k n) = .int k n := rfl
theorem soEnd_fs (B : List UInt8) (g : Bool) (l R : List Rt) (hb : Bnd l) (hl : l.length ≤ 1000000) (hg : g = true → l = []) (hn : g = false → l ≠ []) (hR : Rg.cn (hasL (cntL l)) = R) : PWP Try.prog 0 (soT Try.f12) (retQ Try.prog 0 Try.f12.results.toList [] 0 (.tup [rgn R, .int .i64 0])) (ofCe B g l) := by
  have hO := of_fs l (fun r hr => cnt_in (hb r hr)) (by omega)
  rw [hR] at hO
  cases g with
  | true =>
    have e := hg rfl
    subst e
    have hN : Fsp Try.prog 5 [] 0 [.nilsl] [] 0 (rgn R) := hO.nils ⟨.inl (.inr ⟨rfl, 4, rfl⟩), trivial⟩
    simp only [soT, Try.f12, Option.getD_some, tailN]
    refine VC_sound mixed ?_
    simp only [ofCe, ofO, oS, oB]
    simp -implicitDefEqProofs only [push_cast, seval]
    refine callE_p hN ?_
    simp -implicitDefEqProofs only [push_cast, rgn, seval]
    all_goals (first | done | rfl | exact ⟨_, rfl, by simp [wkL, res2, res1, PV.weak, PV.el]⟩ | (simp [wkL, res2, res1, PV.weak, PV.el]; done))
  | false =>
    have h2 : l.length * 4 ≤ (rcs l).length := by rw [rcs_length]; exact Nat.le_refl _
    have h3 := frzR (hn rfl)
    refine PWP.weak (T := soE l) ?_ ?_
    · refine Wk.trans (Wk.frz (id := 8) (ps := rcs l) (by simp [ofCe, ofO, oS, oB, PS.obj, lkp_hit, lkp_miss]) (Nat.zero_le _)) ?_
      simp only [ofCe, ofO, oS, oB, PS.frz, frEnv, frObjs, List.map_cons, List.map_nil, Option.map_some, fz_int, fz_sl, fz_box _ _ _ _ (show (0 : Nat) ≠ 8 by decide), fz_box _ _ _ _ (show (1 : Nat) ≠ 8 by decide), fz_box _ _ _ _ (show (2 : Nat) ≠ 8 by decide), fz_box _ _ _ _ (show (3 : Nat) ≠ 8 by decide), f1_nilsl, f1_int, f1_slg _ _ _ _ h2, h3]
      (simp only [soE]; exact Wk.by _ _ _ [(1,1),(2,2),(3,3)] [] [] (by simp) (by simp [wkV, PV.el, PV.weak, PS.get, PS.obj, PS.lv, lkp_hit, lkp_miss, lkp_nil, lko, wkL, wkC, res1, rcs_wk, ics_wk]) (by simp [PS.get, PS.obj, PS.lv, lkp_hit, lkp_miss, lkp_nil, lko, wkL, wkC, PV.weak, wkL, wkC, res1, rcs_wk, ics_wk]) (by simp [PS.get, PS.obj, PS.lv, lkp_hit, lkp_miss, lkp_nil, lko]) (by rfl) (by rfl) (by simp [lko]) (by simp) (by simp) (by simp) (fun i hi => by rcases i with _ | _ | _ | _ | _ | _ | i <;> first | rfl | (exfalso; omega)))
    simp only [soT, Try.f12, Option.getD_some, tailN, soE]
    refine VC_sound mixed ?_
    simp -implicitDefEqProofs only [push_cast, seval]
    refine callE_p hO ?_
    simp -implicitDefEqProofs only [push_cast, rgn, seval]
    all_goals (first | done | rfl | exact ⟨_, rfl, by simp [wkL, res2, res1, PV.weak, PV.el]⟩ | (simp [wkL, res2, res1, PV.weak, PV.el]; done))
set_option maxHeartbeats 4000000 in
theorem shapeOf_fs (L : List Rt) (hL : R28 L) : Fsp Try.prog 12 [] 0 [.int .i64 28, .int .i64 28, .str (bitsL (lB L) 4 112)] [] 0 (.tup [rgn L, .int .i64 0]) := by
  have f1 := sided_fs 28 (by decide)
  have hbl := bitsL_len (lB L) 4 112
  have hbt := bitsL_bts (lB L) 4 112
  have hS := hL.s
  have hall : ∀ l, OfI (lB L) 896 l → Rg.cn (hasL (cntL l)) = L := fun l h => h.all hL
  generalize lB L = S at *
  generalize bitsL S 4 112 = B at *
  have hO := ones_fs B
  have v1 : Int.tdiv 35 8 = 4 := rfl
  have v2 : IntKind.i64.wrap 4 = 4 := by decide
  have v3 : IntKind.i64.wrap 112 = 112 := by decide
  refine Fsp.of' (nx := 0) mixed Try.func12 rfl (by decide) (by exact Nat.le_refl _) (by simp [Try.f12]) ⟨by decide, by decide⟩ ?_
  refine PWP.cutV mixed 6 ?_
  have e : ∀ c, Try.f12.body = some c → tailN 6 c = soT Try.f12 := fun c hc => by unfold soT; rw [hc]; rfl
  rw [e _ rfl]
  clear e
  show VC Try.prog 0 _ (seqK (PWP Try.prog 0 (soT Try.f12)) (retQ Try.prog 0 Try.f12.results.toList [] 0 (.tup [rgn L, .int .i64 0]))) _
  have key : ∀ g l, OfI S 896 l → (g = true → l = []) → (g = false → l ≠ []) → ∀ S', Wk 0 S' (ofCe B g l) → seqK (PWP Try.prog 0 (soT Try.f12)) (retQ Try.prog 0 Try.f12.results.toList [] 0 (.tup [rgn L, .int .i64 0])) .normal S' := fun g l h hg hn S' hw => PWP.weak hw (soEnd_fs B g l L h.bnd (by have := h.len; omega) hg hn (hall l h))
  clear hall
  generalize seqK (PWP Try.prog 0 (soT Try.f12)) (retQ Try.prog 0 Try.f12.results.toList [] 0 (.tup [rgn L, .int .i64 0])) = Q2 at *
  simp -implicitDefEqProofs only [push_cast, Try.f12, headN, seval]
  (repeat (first | refine ⟨(by omega : _ ≤ _), ?_⟩ | refine ⟨(by omega : _ < _), ?_⟩ | refine ⟨(by simp; omega), ?_⟩ | refine ⟨(by simp; done), ?_⟩ | refine ⟨(by (unfold drawOk; kernel_rfl)), ?_⟩))
  refine callE_p f1 ?_
  simp -implicitDefEqProofs only [push_cast, seval]
  refine callE_p f1 ?_
  simp -implicitDefEqProofs only [push_cast, hbl, v1, v2, v3, gt_iff_lt, seval]
  (repeat (first | refine ⟨(by omega : _ ≤ _), ?_⟩ | refine ⟨(by omega : _ < _), ?_⟩ | refine ⟨(by simp; omega), ?_⟩ | refine ⟨(by simp; done), ?_⟩ | refine ⟨(by (unfold drawOk; kernel_rfl)), ?_⟩))
  refine callE_new hO (by rfl) (by rfl) (by rfl) (by first | decide | simp) (by first | decide | simp) (by rfl) (by simp [tokLt1]) (fun _ => by rfl) (by first | rfl | simp [gdOk, newToks]) ?_
  simp -implicitDefEqProofs only [push_cast, seval]
  (repeat (first | refine ⟨(by omega : _ ≤ _), ?_⟩ | refine ⟨(by omega : _ < _), ?_⟩ | refine ⟨(by simp; omega), ?_⟩ | refine ⟨(by simp; done), ?_⟩ | refine ⟨(by (unfold drawOk; kernel_rfl)), ?_⟩))
  refine PWP.rangeY (ofCs B) ?_ 62 [.box 5 0, .box 4 0] rfl Try.func62 rfl (by decide) rfl (by decide) ?_
  · (simp only [ofCs, ofO, oS, oB, zipB, upto, List.cons_append, List.nil_append]; exact Wk.by _ _ _ [(0,0),(1,4),(2,8),(3,108),(4,120),(5,121)] [] [] (by simp) (by simp [wkV, PV.el, PV.weak, PS.get, PS.obj, PS.lv, lkp_hit, lkp_miss, lkp_nil, lko, wkL, wkC, res1, rcs_wk, ics_wk]) (by simp [PS.get, PS.obj, PS.lv, lkp_hit, lkp_miss, lkp_nil, lko, wkL, wkC, PV.weak, wkL, wkC, res1, rcs_wk, ics_wk]) (by simp [PS.get, PS.obj, PS.lv, lkp_hit, lkp_miss, lkp_nil, lko]) (by rfl) (by rfl) (by simp [lko]) (by simp) (by simp) (by simp) (fun i hi => by rcases i with _ | _ | _ | _ | _ | _ | i <;> first | rfl | (exfalso; omega)))
  refine VCY_sound mixed ?_
  have hn62 : Try.f62.ntmps = 37 := rfl
  simp -implicitDefEqProofs only [push_cast, itS, hn62, seval]
  refine YWP.loop (α := OnA S) (OnA.st B) (fun _ => none) (fun a => 112 - a.i) ⟨true, 0, [], Nat.zero_le _, OfI.zero hS, fun _ => rfl, fun h => by cases h⟩ ?_ rfl ?_
  · (simp only [OnA.st, ofCs, ycOf, ofO, oS, oB]; exact Wk.by _ _ _ [(0,0),(1,1),(2,2),(3,3),(4,4),(5,5),(6,6)] [] [] (by simp) (by simp [wkV, wkL, PV.el, PV.weak, PS.get, PS.obj, PS.lv, lkp_hit, lkp_miss, lkp_nil, lko]) (by simp [PS.get, PS.obj, PS.lv, lkp_hit, lkp_miss, lkp_nil, lko, wkL, wkC, PV.weak, rcs_wk, ics_wk]) (by simp) (by rfl) (by rfl) (by simp [lko]) (by simp) (by simp) (by simp) (fun i hi => by have hi' : i < 7 := hi; rcases i with _ | _ | _ | _ | _ | _ | _ | _ | i <;> first | rfl | (exfalso; omega)))
  rintro ⟨g, i, l, hi, hI, hg, hn⟩
  refine YWP.cutV mixed 1 ?_
  simp only [OnA.st]
  cases c1 : decide ((i : Int) < 112) with
  | false =>
    have hie : i = 112 := by simp at c1; omega
    subst hie
    simp -implicitDefEqProofs only [push_cast, headN, tailN, yseqK_normal, yseqK_exit, c1, hbl, ofO, seval]
    refine ⟨.inl rfl, key g l hI hg hn _ ?_⟩
    simp -implicitDefEqProofs only [push_cast, ofCs, seval]
    cases g with
    | true =>
      (simp only [ofCe, ofO, oS, oB]; exact Wk.by _ _ _ [(0,0),(1,1),(2,2),(3,3),(4,4),(5,5)] [] [] (by simp) (by simp [wkV, PV.el, PV.weak, PS.get, PS.obj, PS.lv, lkp_hit, lkp_miss, lkp_nil, lko, wkL, wkC, res1, rcs_wk, ics_wk]) (by simp [PS.get, PS.obj, PS.lv, lkp_hit, lkp_miss, lkp_nil, lko, wkL, wkC, PV.weak, wkL, wkC, res1, rcs_wk, ics_wk]) (by simp [PS.get, PS.obj, PS.lv, lkp_hit, lkp_miss, lkp_nil, lko]) (by rfl) (by rfl) (by simp [lko]) (by simp) (by simp) (by simp) (fun i hi => by rcases i with _ | _ | _ | _ | _ | _ | i <;> first | rfl | (exfalso; omega)))
    | false =>
      (simp only [ofCe, ofO, oS, oB]; exact Wk.by _ _ _ [(0,0),(1,1),(2,2),(3,3),(4,4),(5,5),(8,8)] [] [] (by simp) (by simp [wkV, PV.el, PV.weak, PS.get, PS.obj, PS.lv, lkp_hit, lkp_miss, lkp_nil, lko, wkL, wkC, res1, rcs_wk, ics_wk]) (by simp [PS.get, PS.obj, PS.lv, lkp_hit, lkp_miss, lkp_nil, lko, wkL, wkC, PV.weak, wkL, wkC, res1, rcs_wk, ics_wk]) (by simp [PS.get, PS.obj, PS.lv, lkp_hit, lkp_miss, lkp_nil, lko]) (by rfl) (by rfl) (by simp [lko]) (by simp) (by simp) (by simp) (fun i hi => by rcases i with _ | _ | _ | _ | _ | _ | i <;> first | rfl | (exfalso; omega)))
  | true =>
    have hlt : i < 112 := by simp at c1; omega
    have hu := wr_up (k := i) (by omega)
    simp -implicitDefEqProofs only [push_cast, headN, tailN, yseqK_normal, yseqK_exit, c1, hbl, ofO, seval]
    (repeat (first | refine ⟨(by omega : _ ≤ _), ?_⟩ | refine ⟨(by omega : _ < _), ?_⟩ | refine ⟨(by simp; omega), ?_⟩ | refine ⟨(by simp; done), ?_⟩ | refine ⟨(by (unfold drawOk; kernel_rfl)), ?_⟩))
    refine YWP.mono (Q := fun e S' pe' => e = .exit 2 ∧ pe' = none ∧ ∃ x : OmA S i, x.j = 8 ∧ Wk 7 S' (OmA.st B x)) ?_ ?_
    · refine YWP.loop (α := OmA S i) (OmA.st B) (fun _ => none) (fun a => 8 - a.j) ⟨g, 0, l, by decide, hI, hg, hn⟩ ?_ rfl ?_
      · cases g with
        | true =>
          (simp only [OmA.st, ofCs, ycOf, ofO, oS, oB]; exact Wk.by _ _ _ [(0,0),(1,1),(2,2),(3,3),(4,4),(5,5),(6,6)] [] [] (by simp) (by simp [wkV, wkL, PV.el, PV.weak, PS.get, PS.obj, PS.lv, lkp_hit, lkp_miss, lkp_nil, lko]) (by simp [PS.get, PS.obj, PS.lv, lkp_hit, lkp_miss, lkp_nil, lko, wkL, wkC, PV.weak, rcs_wk, ics_wk]) (by simp) (by rfl) (by rfl) (by simp [lko]) (by simp) (by simp) (by simp) (fun i hi => by have hi' : i < 7 := hi; rcases i with _ | _ | _ | _ | _ | _ | _ | _ | i <;> first | rfl | (exfalso; omega)))
        | false =>
          (simp only [OmA.st, ofCs, ycOf, ofO, oS, oB]; exact Wk.by _ _ _ [(0,0),(1,1),(2,2),(3,3),(4,4),(5,5),(6,6),(8,8)] [] [] (by simp) (by simp [wkV, wkL, PV.el, PV.weak, PS.get, PS.obj, PS.lv, lkp_hit, lkp_miss, lkp_nil, lko]) (by simp [PS.get, PS.obj, PS.lv, lkp_hit, lkp_miss, lkp_nil, lko, wkL, wkC, PV.weak, rcs_wk, ics_wk]) (by simp) (by rfl) (by rfl) (by simp [lko]) (by simp) (by simp) (by simp) (fun i hi => by have hi' : i < 7 := hi; rcases i with _ | _ | _ | _ | _ | _ | _ | _ | i <;> first | rfl | (exfalso; omega)))
      rintro ⟨g, j, l, hj, hI, hg, hn⟩
      refine VCY_sound mixed ?_
      simp only [OmA.st]
      cases c2 : decide ((j : Int) < 8) with
      | false =>
        have hje : j = 8 := by simp at c2; omega
        subst hje
        simp -implicitDefEqProofs only [push_cast, c2, seval]
        (repeat (first | refine ⟨(by omega : _ ≤ _), ?_⟩ | refine ⟨(by omega : _ < _), ?_⟩ | refine ⟨(by simp; omega), ?_⟩ | refine ⟨(by simp; done), ?_⟩ | refine ⟨(by (unfold drawOk; kernel_rfl)), ?_⟩))
        refine ⟨⟨g, 8, l, hj, hI, hg, hn⟩, rfl, ?_⟩
        cases g with
        | true =>
          (simp only [OmA.st, ofCs, ycOf, ofO, oS, oB]; exact Wk.by _ _ _ [(0,0),(1,1),(2,2),(3,3),(4,4),(5,5),(6,6)] [] [] (by simp) (by simp [wkV, wkL, PV.el, PV.weak, PS.get, PS.obj, PS.lv, lkp_hit, lkp_miss, lkp_nil, lko]) (by simp [PS.get, PS.obj, PS.lv, lkp_hit, lkp_miss, lkp_nil, lko, wkL, wkC, PV.weak, rcs_wk, ics_wk]) (by simp) (by rfl) (by rfl) (by simp [lko]) (by simp) (by simp) (by simp) (fun i hi => by have hi' : i < 7 := hi; rcases i with _ | _ | _ | _ | _ | _ | _ | _ | i <;> first | rfl | (exfalso; omega)))
        | false =>
          (simp only [OmA.st, ofCs, ycOf, ofO, oS, oB]; exact Wk.by _ _ _ [(0,0),(1,1),(2,2),(3,3),(4,4),(5,5),(6,6),(8,8)] [] [] (by simp) (by simp [wkV, wkL, PV.el, PV.weak, PS.get, PS.obj, PS.lv, lkp_hit, lkp_miss, lkp_nil, lko]) (by simp [PS.get, PS.obj, PS.lv, lkp_hit, lkp_miss, lkp_nil, lko, wkL, wkC, PV.weak, rcs_wk, ics_wk]) (by simp) (by rfl) (by rfl) (by simp [lko]) (by simp) (by simp) (by simp) (fun i hi => by have hi' : i < 7 := hi; rcases i with _ | _ | _ | _ | _ | _ | _ | _ | i <;> first | rfl | (exfalso; omega)))
      | true =>
        have hjt : j < 8 := by simp at c2; omega
        have hu2 := wr_up (k := j) (by omega)
        have hiB : i < B.length := by rw [hbl]; exact hlt
        have x1 : B.getD i 0 = B[i] := by rw [List.getD_eq_getElem?_getD, List.getElem?_eq_getElem hiB]; rfl
        have x0 : B[i]?.getD 0 = B[i] := by rw [List.getElem?_eq_getElem hiB]; rfl
        have hbit := hbt.2 i hiB j hjt
        have hj8 : (if j ≤ 8 then j else 8) = j := if_pos (by omega)
        have hlook : (bitsI .and .u8 ((B[i].toNat : Int).fdiv (2 ^ j)) 1 == 1) = bitB B[i] j := by have := blook B[i] hjt; rwa [Int.toNat_natCast, Nat.min_eq_left (by omega)] at this
        obtain ⟨xq, hxq⟩ : ∃ xq, xq = i % 4 := ⟨_, rfl⟩
        obtain ⟨xm, hxm⟩ : ∃ xm, xm = i % 4 * 8 + j := ⟨_, rfl⟩
        obtain ⟨ym, hym⟩ : ∃ ym, ym = i / 4 := ⟨_, rfl⟩
        have e1 : Int.tmod (i : Int) 4 = (xq : Int) := by rw [Int.tmod_eq_emod_of_nonneg (by omega)]; omega
        have e2 : IntKind.i64.wrap ((xq : Int) * 8) = (xq : Int) * 8 := wrap_i64_id (by omega) (by omega)
        have e3 : IntKind.i64.wrap ((xq : Int) * 8 + (j : Int)) = xm := by rw [show (xq : Int) * 8 + (j : Int) = (xm : Int) by omega]; exact wrap_i64_id (by omega) (by omega)
        have e4 : Int.tdiv (i : Int) 4 = (ym : Int) := by rw [Int.tdiv_eq_ediv_of_nonneg (by omega)]; omega
        have e5 : IntKind.i64.wrap (ym : Int) = ym := wrap_i64_id (by omega) (by omega)
        have hm : ((8 * i + j : Nat) : Int) = (ym : Int) * 32 + (xm : Int) := by omega
        rw [show ((8 * (i % 4 : Nat) : Int) + (j : Int)) = (xm : Int) by omega, show ((i / 4 : Nat) : Int) = (ym : Int) by omega] at hbit
        have hx32 : (0 : Int) ≤ xm ∧ (xm : Int) < 32 := by omega
        have hy28 : (0 : Int) ≤ ym ∧ (ym : Int) ≤ 27 := by omega
        rw [hbit] at hlook
        simp -implicitDefEqProofs only [push_cast, c2, seval]
        cases hb : S xm ym with
        | false =>
          rw [hb] at hlook
          have hI2 := hI.skip hS hx32 hm hb
          refine YWP.reg mixed ?_
          simp -implicitDefEqProofs only [push_cast, ofO, x1, x0, hj8, hlook, seval]
          (repeat (first | refine ⟨(by omega : _ ≤ _), ?_⟩ | refine ⟨(by omega : _ < _), ?_⟩ | refine ⟨(by simp; omega), ?_⟩ | refine ⟨(by simp; done), ?_⟩ | refine ⟨(by (unfold drawOk; kernel_rfl)), ?_⟩))
          refine callE_no ?_
          simp -implicitDefEqProofs only [push_cast, hu2, seval]
          (repeat (first | refine ⟨(by omega : _ ≤ _), ?_⟩ | refine ⟨(by omega : _ < _), ?_⟩ | refine ⟨(by simp; omega), ?_⟩ | refine ⟨(by simp; done), ?_⟩ | refine ⟨(by (unfold drawOk; kernel_rfl)), ?_⟩))
          refine ⟨⟨g, j + 1, l, hjt, hI2, hg, hn⟩, by simp only; omega, ?_, rfl⟩
          cases g with
          | true =>
            (simp only [OmA.st, ofCs, ycOf, ofO, oS, oB]; exact Wk.by _ _ _ [(0,0),(1,1),(2,2),(3,3),(4,4),(5,5),(6,6)] [] [] (by simp) (by simp [wkV, wkL, PV.el, PV.weak, PS.get, PS.obj, PS.lv, lkp_hit, lkp_miss, lkp_nil, lko, hu2]) (by simp [PS.get, PS.obj, PS.lv, lkp_hit, lkp_miss, lkp_nil, lko, wkL, wkC, PV.weak, rcs_wk, ics_wk, hu2]) (by simp) (by rfl) (by rfl) (by simp [lko]) (by simp) (by simp) (by simp) (fun i hi => by have hi' : i < 7 := hi; rcases i with _ | _ | _ | _ | _ | _ | _ | _ | i <;> first | rfl | (exfalso; omega)))
          | false =>
            (simp only [OmA.st, ofCs, ycOf, ofO, oS, oB]; exact Wk.by _ _ _ [(0,0),(1,1),(2,2),(3,3),(4,4),(5,5),(6,6),(8,8)] [] [] (by simp) (by simp [wkV, wkL, PV.el, PV.weak, PS.get, PS.obj, PS.lv, lkp_hit, lkp_miss, lkp_nil, lko, hu2]) (by simp [PS.get, PS.obj, PS.lv, lkp_hit, lkp_miss, lkp_nil, lko, wkL, wkC, PV.weak, rcs_wk, ics_wk, hu2]) (by simp) (by rfl) (by rfl) (by simp [lko]) (by simp) (by simp) (by simp) (fun i hi => by have hi' : i < 7 := hi; rcases i with _ | _ | _ | _ | _ | _ | _ | _ | i <;> first | rfl | (exfalso; omega)))
        | true =>
          rw [hb] at hlook
          have hx28 := (hS _ _ hb).2.1
          have hI2 := hI.add hS hx32 hy28 hm hb
          refine YWP.reg_ys 18 mixed ⟨by rfl, by rfl, by simp [ycOf, ofCs]⟩ ?_ ?_ ?_ ?_
          · intro S pe h
            obtain ⟨h1, _⟩ := h
            cases h1
          · decide
          · kernel_rfl
          simp -implicitDefEqProofs only [push_cast, ofO, x1, x0, hj8, hlook, e1, e2, e3, e4, e5, seval]
          (repeat (first | refine ⟨(by omega : _ ≤ _), ?_⟩ | refine ⟨(by omega : _ < _), ?_⟩ | refine ⟨(by simp; omega), ?_⟩ | refine ⟨(by simp; done), ?_⟩ | refine ⟨(by (unfold drawOk; kernel_rfl)), ?_⟩))
          refine yldE_of _ (.tmp 24) #[.tmp 30, .tmp 33] #[3, 3] 34 rfl rfl (by rfl) rfl (by rfl) (by rfl) (by rfl) (by rfl) (by simp) ?_
          refine RndP.of mixed ⟨by rfl, by rfl, by simp [ycOf, ofCs]⟩ ?_
          have cx : decide ((28 : Int) ≤ (xm : Int)) = false := by simp; omega
          cases g with
          | true =>
            have el := hg rfl
            subst el
            simp only [ycOf, ybeg, ofCs, oS, oB]
            simp -implicitDefEqProofs only [push_cast, pz, ge_iff_le, gt_iff_lt, cx, List.length_nil, seval]
            (repeat (first | refine ⟨(by omega : _ ≤ _), ?_⟩ | refine ⟨(by omega : _ < _), ?_⟩ | refine ⟨(by simp; omega), ?_⟩ | refine ⟨(by simp; done), ?_⟩ | refine ⟨(by (unfold drawOk; kernel_rfl)), ?_⟩))
            have hR : rcs [(⟨xm, ym, 1, 1⟩ : Rt)] = [.int .i64 xm, .int .i64 ym, .int .i64 1, .int .i64 1] := rfl
            have hLn : [(⟨xm, ym, 1, 1⟩ : Rt)].length = 1 := rfl
            refine ⟨⟨false, j + 1, [⟨xm, ym, 1, 1⟩], hjt, hI2, (fun h => (by cases h)), (fun _ => (by simp))⟩, by simp only; omega, ?_, rfl⟩
            (simp only [OmA.st, ofCs, ycOf, ofO, oS, oB, List.cons_append, List.nil_append]; exact Wk.by _ _ _ [(0,0),(1,1),(2,2),(3,3),(4,4),(5,5),(6,6),(8,257)] [] [] (by simp) (by simp [wkV, wkL, PV.el, PV.weak, PS.get, PS.obj, PS.lv, lkp_hit, lkp_miss, lkp_nil, lko, hu2, hR, hLn, PV.cells, List.flatMap_cons, List.flatMap_nil]) (by simp [PS.get, PS.obj, PS.lv, lkp_hit, lkp_miss, lkp_nil, lko, wkL, wkC, PV.weak, rcs_wk, ics_wk, hu2, hR, hLn, PV.cells, List.flatMap_cons, List.flatMap_nil]) (by simp) (by rfl) (by rfl) (by simp [lko]) (by simp) (by simp) (by simp) (fun i hi => by have hi' : i < 7 := hi; rcases i with _ | _ | _ | _ | _ | _ | _ | _ | i <;> first | rfl | (exfalso; omega)))
          | false =>
            obtain ⟨k, r, rfl⟩ : ∃ k r, l = k ++ [r] := ⟨l.dropLast, l.getLast (hn rfl), (List.dropLast_concat_getLast (hn rfl)).symm⟩
            have hI3 : r.y = ym → r.x + r.w = xm → OfI S (8 * i + j + 1) (k ++ [⟨r.x, r.y, r.w + 1, r.h⟩]) := fun h1 h2 => hI.wide hS hx32 hm hb h1 h2
            have hr1 := hI.one r (by simp)
            have hW := rcs_wide k r (r.w + 1)
            have hkl := hI.len
            rw [List.length_append, List.length_singleton] at hkl
            have hlen : (k ++ [r]).length = k.length + 1 := by simp
            have hlen2 : (k ++ [(⟨r.x, r.y, r.w + 1, r.h⟩ : Rt)]).length = k.length + 1 := by simp
            have hlt3 : k.length < (k ++ [r]).length := by omega
            have er : (k ++ [r])[k.length] = r := by simp
            have f0 := rcs_f0 hlt3
            have f1' := rcs_f1 hlt3
            have f2 := rcs_f2 hlt3
            rw [er] at f0 f1' f2
            have hrl := rcs_length (k ++ [r])
            rw [hlen] at hrl
            obtain ⟨n, hnk⟩ : ∃ n, n = k.length := ⟨_, rfl⟩
            rw [← hnk] at hlen hlen2 f0 f1' f2 hrl hW hkl
            have wk : IntKind.i64.wrap (n : Int) = n := wrap_i64_id (by omega) (by omega)
            have wk1 : IntKind.i64.wrap ((n : Int) + 1 - 1) = n := by rw [show (n : Int) + 1 - 1 = n by omega]; exact wk
            have cn : decide ((0 : Int) < (n : Int) + 1) = true := decide_eq_true (by omega)
            have wx : IntKind.i64.wrap (r.x + r.w) = r.x + r.w := wrap_i64_id (by omega) (by omega)
            have ww : IntKind.i64.wrap (r.w + 1) = r.w + 1 := wrap_i64_id (by omega) (by omega)
            have hne2 : k ++ [(⟨r.x, r.y, r.w + 1, r.h⟩ : Rt)] ≠ [] := by simp
            clear hlt3 er
            generalize k ++ [r] = l at *
            simp only [ycOf, ybeg, ofCs, oS, oB]
            cases hc1 : (r.y == (ym : Int)) with
            | false =>
              simp -implicitDefEqProofs only [push_cast, pz, ge_iff_le, gt_iff_lt, cx, hlen, wk, wk1, cn, f0, f1', f2, wx, ww, hc1, seval]
              (repeat (first | refine ⟨(by omega : _ ≤ _), ?_⟩ | refine ⟨(by omega : _ < _), ?_⟩ | refine ⟨(by simp; omega), ?_⟩ | refine ⟨(by simp; done), ?_⟩ | refine ⟨(by (unfold drawOk; kernel_rfl)), ?_⟩))
              have hR : List.take ((n + 1) * 4) (rcs l) ++ [.int .i64 xm, .int .i64 ym, .int .i64 1, .int .i64 1] = rcs (l ++ [(⟨xm, ym, 1, 1⟩ : Rt)]) := by rw [List.take_of_length_le (by omega), rcs_app]; rfl
              have hLn : (l ++ [(⟨xm, ym, 1, 1⟩ : Rt)]).length = n + 1 + 1 := by simp [hlen]
              have hne3 : l ++ [(⟨xm, ym, 1, 1⟩ : Rt)] ≠ [] := by simp
              generalize l ++ [(⟨xm, ym, 1, 1⟩ : Rt)] = l3 at *
              refine ⟨⟨false, j + 1, l3, hjt, hI2, (fun h => (by cases h)), (fun _ => hne3)⟩, by simp only; omega, ?_, rfl⟩
              (simp only [OmA.st, ofCs, ycOf, ofO, oS, oB, List.cons_append, List.nil_append]; exact Wk.by _ _ _ [(0,0),(1,1),(2,2),(3,3),(4,4),(5,5),(6,6),(8,257)] [] [] (by simp) (by simp [wkV, wkL, PV.el, PV.weak, PS.get, PS.obj, PS.lv, lkp_hit, lkp_miss, lkp_nil, lko, hu2, hR, hLn, PV.cells, List.flatMap_cons, List.flatMap_nil]) (by simp [PS.get, PS.obj, PS.lv, lkp_hit, lkp_miss, lkp_nil, lko, wkL, wkC, PV.weak, rcs_wk, ics_wk, hu2, hR, hLn, PV.cells, List.flatMap_cons, List.flatMap_nil]) (by simp) (by rfl) (by rfl) (by simp [lko]) (by simp) (by simp) (by simp) (fun i hi => by have hi' : i < 7 := hi; rcases i with _ | _ | _ | _ | _ | _ | _ | _ | i <;> first | rfl | (exfalso; omega)))
            | true =>
              cases hc2 : (r.x + r.w == (xm : Int)) with
              | false =>
                simp -implicitDefEqProofs only [push_cast, pz, ge_iff_le, gt_iff_lt, cx, hlen, wk, wk1, cn, f0, f1', f2, wx, ww, hc1, hc2, seval]
                (repeat (first | refine ⟨(by omega : _ ≤ _), ?_⟩ | refine ⟨(by omega : _ < _), ?_⟩ | refine ⟨(by simp; omega), ?_⟩ | refine ⟨(by simp; done), ?_⟩ | refine ⟨(by (unfold drawOk; kernel_rfl)), ?_⟩))
                have hR : List.take ((n + 1) * 4) (rcs l) ++ [.int .i64 xm, .int .i64 ym, .int .i64 1, .int .i64 1] = rcs (l ++ [(⟨xm, ym, 1, 1⟩ : Rt)]) := by rw [List.take_of_length_le (by omega), rcs_app]; rfl
                have hLn : (l ++ [(⟨xm, ym, 1, 1⟩ : Rt)]).length = n + 1 + 1 := by simp [hlen]
                have hne3 : l ++ [(⟨xm, ym, 1, 1⟩ : Rt)] ≠ [] := by simp
                generalize l ++ [(⟨xm, ym, 1, 1⟩ : Rt)] = l3 at *
                refine ⟨⟨false, j + 1, l3, hjt, hI2, (fun h => (by cases h)), (fun _ => hne3)⟩, by simp only; omega, ?_, rfl⟩
                (simp only [OmA.st, ofCs, ycOf, ofO, oS, oB, List.cons_append, List.nil_append]; exact Wk.by _ _ _ [(0,0),(1,1),(2,2),(3,3),(4,4),(5,5),(6,6),(8,257)] [] [] (by simp) (by simp [wkV, wkL, PV.el, PV.weak, PS.get, PS.obj, PS.lv, lkp_hit, lkp_miss, lkp_nil, lko, hu2, hR, hLn, PV.cells, List.flatMap_cons, List.flatMap_nil]) (by simp [PS.get, PS.obj, PS.lv, lkp_hit, lkp_miss, lkp_nil, lko, wkL, wkC, PV.weak, rcs_wk, ics_wk, hu2, hR, hLn, PV.cells, List.flatMap_cons, List.flatMap_nil]) (by simp) (by rfl) (by rfl) (by simp [lko]) (by simp) (by simp) (by simp) (fun i hi => by have hi' : i < 7 := hi; rcases i with _ | _ | _ | _ | _ | _ | _ | _ | i <;> first | rfl | (exfalso; omega)))
              | true =>
                have hI4 := hI3 (eq_of_beq hc1) (eq_of_beq hc2)
                generalize k ++ [(⟨r.x, r.y, r.w + 1, r.h⟩ : Rt)] = l2 at *
                simp -implicitDefEqProofs only [push_cast, pz, ge_iff_le, gt_iff_lt, cx, hlen, wk, wk1, cn, f0, f1', f2, wx, ww, hc1, hc2, seval]
                (repeat (first | refine ⟨(by omega : _ ≤ _), ?_⟩ | refine ⟨(by omega : _ < _), ?_⟩ | refine ⟨(by simp; omega), ?_⟩ | refine ⟨(by simp; done), ?_⟩ | refine ⟨(by (unfold drawOk; kernel_rfl)), ?_⟩))
                refine ⟨⟨false, j + 1, l2, hjt, hI4, (fun h => (by cases h)), (fun _ => hne2)⟩, by simp only; omega, ?_, rfl⟩
                (simp only [OmA.st, ofCs, ycOf, ofO, oS, oB, List.cons_append, List.nil_append]; exact Wk.by _ _ _ [(0,0),(1,1),(2,2),(3,3),(4,4),(5,5),(6,6),(8,8)] [] [] (by simp) (by simp [wkV, wkL, PV.el, PV.weak, PS.get, PS.obj, PS.lv, lkp_hit, lkp_miss, lkp_nil, lko, hu2, hW, hlen2, PV.cells, List.flatMap_cons, List.flatMap_nil]) (by simp [PS.get, PS.obj, PS.lv, lkp_hit, lkp_miss, lkp_nil, lko, wkL, wkC, PV.weak, rcs_wk, ics_wk, hu2, hW, hlen2, PV.cells, List.flatMap_cons, List.flatMap_nil]) (by simp) (by rfl) (by rfl) (by simp [lko]) (by simp) (by simp) (by simp) (fun i hi => by have hi' : i < 7 := hi; rcases i with _ | _ | _ | _ | _ | _ | _ | _ | i <;> first | rfl | (exfalso; omega)))
    · rintro e S' pe' ⟨rfl, rfl, ⟨g, j, l, hj, hI, hg, hn⟩, h8, hw⟩
      simp only at h8
      subst h8
      simp -implicitDefEqProofs only [push_cast, yseqK_normal, seval]
      refine YWP.weak hw ?_
      simp only [OmA.st]
      refine VCY_sound mixed ?_
      simp -implicitDefEqProofs only [push_cast, hu, seval]
      refine ⟨⟨g, i + 1, l, hlt, hI, hg, hn⟩, by simp only; omega, ?_, rfl⟩
      cases g with
      | true =>
        (simp only [OnA.st, ofCs, ycOf, ofO, oS, oB]; exact Wk.by _ _ _ [(0,0),(1,1),(2,2),(3,3),(4,4),(5,5),(6,6)] [] [] (by simp) (by simp [wkV, wkL, PV.el, PV.weak, PS.get, PS.obj, PS.lv, lkp_hit, lkp_miss, lkp_nil, lko]) (by simp [PS.get, PS.obj, PS.lv, lkp_hit, lkp_miss, lkp_nil, lko, wkL, wkC, PV.weak, rcs_wk, ics_wk]) (by simp) (by rfl) (by rfl) (by simp [lko]) (by simp) (by simp) (by simp) (fun i hi => by have hi' : i < 7 := hi; rcases i with _ | _ | _ | _ | _ | _ | _ | _ | i <;> first | rfl | (exfalso; omega)))
      | false =>
        (simp only [OnA.st, ofCs, ycOf, ofO, oS, oB]; exact Wk.by _ _ _ [(0,0),(1,1),(2,2),(3,3),(4,4),(5,5),(6,6),(8,8)] [] [] (by simp) (by simp [wkV, wkL, PV.el, PV.weak, PS.get, PS.obj, PS.lv, lkp_hit, lkp_miss, lkp_nil, lko]) (by simp [PS.get, PS.obj, PS.lv, lkp_hit, lkp_miss, lkp_nil, lko, wkL, wkC, PV.weak, rcs_wk, ics_wk]) (by simp) (by rfl) (by rfl) (by simp [lko]) (by simp) (by simp) (by simp) (fun i hi => by have hi' : i < 7 := hi; rcases i with _ | _ | _ | _ | _ | _ | _ | _ | i <;> first | rfl | (exfalso; omega)))
end Go.Proofs.Sh

/- TopSets: contracts at regions of the window (walk). -/
set_option maxRecDepth 100000
set_option linter.unusedSimpArgs false
set_option linter.unusedVariables false
namespace Go.Proofs.Sh
open Go.Pv
open Rg
theorem sbits_fs (k : Nat) (hk : k < 4) (A B : List UInt8) (hAB : A.length = B.length) (hl : A.length ≤ 1000000) (hp : 0 < A.length) : Fsp Try.prog 13 [] 0 [.int .i64 (k : Int), .str A, .str B] [] 0 (.str (List.zipWith (opS k) A B)) := by
  rcases (by omega : k = 0 ∨ k = 1 ∨ k = 2 ∨ k = 3) with rfl | rfl | rfl | rfl
  · exact sbits0_fs A B hAB hl hp
  · exact sbits1_fs A B hAB hl hp
  · exact sbits2_fs A B hAB hl hp
  · exact sbits3_fs A B hAB hl hp
theorem rgbox_fs (L : List Rt) (h : R28 L) : Fsp Try.prog 22 [] 0 [rgn L] [] 0 (rpv (boxL L)) := by
  have hl := h.len
  cases hm : L.length with
  | zero =>
    have e : L = [] := List.length_eq_zero_iff.1 hm
    subst e
    exact gbox0_fs
  | succ m =>
    have := gbox_fs L h.b (by omega) m hm
    rw [← box_same h.r h.b m hm] at this
    exact this
theorem bits28_fs (L : List Rt) (h : R28 L) : Fsp Try.prog 7 [] 0 [rgn L, .int .i64 28, .int .i64 28] [] 0 (.tup [.str (bitsL (lB L) 4 112), .int .i64 0]) := by
  have := bits_fs L 28 28 (by decide) (by decide) h.r h.b (by have := h.len; omega)
  rw [h.win] at this
  exact this
theorem inbox_fs (L : List Rt) (h : R28 L) : Fsp Try.prog 20 [] 0 [rgn L, rgn (on (boxL L))] [] 0 (.bool true) := by
  have := inside_fs L (on (boxL L)) h.r (of_reg _) h.b (of_bnd _) (by have := h.len; omega) (by have := on_few (boxL L); omega)
  rw [box_out h.r h.b] at this
  exact this
theorem same28_fs (L : List Rt) (h : R28 L) : Fsp Try.prog 14 [] 0 [rgn L, rgn L] [] 0 (.bool true) := by
  have := same_fs L L h.b h.b (by have := h.len; omega)
  rw [sameL_iff.2 rfl] at this
  exact this
theorem four_fs (A B : List Rt) (hA : R28 A) (hB : R28 B) : Fsp Try.prog 8 [] 0 [rgn A, rgn B] [] 0 (rgn (four 0 A B)) ∧ Fsp Try.prog 9 [] 0 [rgn A, rgn B] [] 0 (rgn (four 1 A B)) ∧ Fsp Try.prog 10 [] 0 [rgn A, rgn B] [] 0 (rgn (four 2 A B)) ∧ Fsp Try.prog 11 [] 0 [rgn A, rgn B] [] 0 (rgn (four 3 A B)) := by
  have l1 := hA.len
  have l2 := hB.len
  exact ⟨union_fs A B hA.b hB.b (by omega) (by omega), meet_fs A B hA.r hB.r hA.b hB.b (by omega) (by omega), minus_fs A B hA.r hB.r hA.b hB.b (by omega) (by omega), xor_fs A B hA.r hB.r hA.b hB.b (by omega) (by omega)⟩
theorem smalls_of_fs (X : List Sm) (hl : X.length ≤ 1000) : Fsp Try.prog 5 [] 0 [.sl 4 (rts (X.map Sm.rt))] [] 0 (rgn (smR X)) :=
  of_fs (X.map Sm.rt) (fun r hr => by obtain ⟨s, _, rfl⟩ := List.mem_map.1 hr; exact sm_in s) (by rw [List.length_map]; omega)
end Go.Proofs.Sh

/- TopSets: the law (walk). -/
set_option maxRecDepth 100000
set_option linter.unusedSimpArgs false
set_option linter.unusedVariables false
namespace Go.Proofs.Sh
open Go.Pv
open Rg
theorem topSets_far (X Y : List Sm) (h : 10 < X.length ∨ X.length ≤ 10 ∧ 10 < Y.length) : Fsp Try.prog 3 [] 0 [.sl 4 (sms X), .sl 4 (sms Y)] [] 0 (.bool true) := by
  have f0 := sawake_fs
  rcases h with h | ⟨h0, h⟩
  · have c1 : decide ((10 : Int) < (X.length : Int)) = true := decide_eq_true (by omega)
    (refine Fsp.ofs (nx := 0) mixed Try.func3 rfl (by simp [Try.f3]) ?_; simp -implicitDefEqProofs only [push_cast, Try.f3, seval])
    (repeat (first | refine ⟨(by omega : _ ≤ _), ?_⟩ | refine ⟨(by omega : _ < _), ?_⟩ | refine ⟨by (unfold drawOk; kernel_rfl), ?_⟩ | refine ⟨(by simp; done), ?_⟩ | refine ⟨(by simp; omega), ?_⟩))
    refine callE_p f0 ?_
    simp -implicitDefEqProofs only [push_cast, sms_length, gt_iff_lt, c1, seval]
    (repeat (first | refine ⟨(by omega : _ ≤ _), ?_⟩ | refine ⟨(by omega : _ < _), ?_⟩ | refine ⟨by (unfold drawOk; kernel_rfl), ?_⟩ | refine ⟨(by simp; done), ?_⟩ | refine ⟨(by simp; omega), ?_⟩))
    all_goals (first | done | rfl | exact ⟨_, rfl, by simp [wkL, res2, res1, PV.weak, PV.el]⟩ | (simp [wkL, res2, res1, PV.weak, PV.el]; done))
  · have c1 : decide ((10 : Int) < (X.length : Int)) = false := decide_eq_false (by omega)
    have c2 : decide ((10 : Int) < (Y.length : Int)) = true := decide_eq_true (by omega)
    (refine Fsp.ofs (nx := 0) mixed Try.func3 rfl (by simp [Try.f3]) ?_; simp -implicitDefEqProofs only [push_cast, Try.f3, seval])
    (repeat (first | refine ⟨(by omega : _ ≤ _), ?_⟩ | refine ⟨(by omega : _ < _), ?_⟩ | refine ⟨by (unfold drawOk; kernel_rfl), ?_⟩ | refine ⟨(by simp; done), ?_⟩ | refine ⟨(by simp; omega), ?_⟩))
    refine callE_p f0 ?_
    simp -implicitDefEqProofs only [push_cast, sms_length, gt_iff_lt, c1, c2, seval]
    (repeat (first | refine ⟨(by omega : _ ≤ _), ?_⟩ | refine ⟨(by omega : _ < _), ?_⟩ | refine ⟨by (unfold drawOk; kernel_rfl), ?_⟩ | refine ⟨(by simp; done), ?_⟩ | refine ⟨(by simp; omega), ?_⟩))
    all_goals (first | done | rfl | exact ⟨_, rfl, by simp [wkL, res2, res1, PV.weak, PV.el]⟩ | (simp [wkL, res2, res1, PV.weak, PV.el]; done))
noncomputable def rg4 (A B : List Rt) : List PV := [rgn (four 0 A B), rgn (four 1 A B), rgn (four 2 A B), rgn (four 3 A B)]
theorem rg4_at (A B : List Rt) {k : Nat} (h : k < 4) : (rg4 A B).getD k .any = rgn (four k A B) := by
  rcases (by omega : k = 0 ∨ k = 1 ∨ k = 2 ∨ k = 3) with rfl | rfl | rfl | rfl <;> rfl
theorem rg4_len (A B : List Rt) : (rg4 A B).length = 4 := rfl
def lwS (V : List PV) (P Q : List UInt8) (k : Nat) : PS := { n := 173, env := [(69, .int .i64 k), (68, .int .i64 4), (67, .sl 1 V), (9, .str Q), (7, .str P)], objs := [], live := [], nxt := 60 }
def lwI (V : List PV) (P Q : List UInt8) (k : Nat) (R : List Rt) (i : Nat) : PS := { n := 173, env := [(115, .int .i64 i), (114, .int .i64 R.length), (19, .int .i64 (areaL (R.take i))), (18, .sl 4 (rts R)), (17, .sl 4 (rts R)), (12, .box 1 0), (69, .int .i64 k), (68, .int .i64 4), (67, .sl 1 V), (9, .str Q), (7, .str P)], objs := [(1, some [.sl 4 (rts R)])], live := [], nxt := 60 }
def lwJ (V : List PV) (P Q : List UInt8) (k : Nat) (R : List Rt) (i j : Nat) : PS := { n := 173, env := [(138, .int .i64 j), (137, .int .i64 i), (136, .sl 4 ((rts R).take i)), (20, .int .i64 i), (115, .int .i64 i), (114, .int .i64 R.length), (19, .int .i64 (areaL (R.take (i + 1)))), (18, .sl 4 (rts R)), (17, .sl 4 (rts R)), (12, .box 1 0), (69, .int .i64 k), (68, .int .i64 4), (67, .sl 1 V), (9, .str Q), (7, .str P)], objs := [(1, some [.sl 4 (rts R)])], live := [], nxt := 60 }
set_option maxHeartbeats 4000000 in
theorem topSets_near (X Y : List Sm) (hX : X.length ≤ 10) (hY : Y.length ≤ 10) : Fsp Try.prog 3 [] 0 [.sl 4 (sms X), .sl 4 (sms Y)] [] 0 (.bool true) := by
  have f0 := sawake_fs
  have r1 := rects14_fs X (by omega)
  have r2 := rects14_fs Y (by omega)
  have o1 := smalls_of_fs X (by omega)
  have o2 := smalls_of_fs Y (by omega)
  have hA := smR_28 X
  have hB := smR_28 Y
  generalize smR X = A at *
  generalize smR Y = B at *
  have b1 := bits28_fs A hA
  have b2 := bits28_fs B hB
  obtain ⟨u0, u1, u2, u3⟩ := four_fs A B hA hB
  have c1 : decide ((10 : Int) < (X.length : Int)) = false := decide_eq_false (by omega)
  have c2 : decide ((10 : Int) < (Y.length : Int)) = false := decide_eq_false (by omega)
  (refine Fsp.ofs (nx := 0) mixed Try.func3 rfl (by simp [Try.f3]) ?_; simp -implicitDefEqProofs only [push_cast, Try.f3, seval])
  (repeat (first | refine ⟨(by omega : _ ≤ _), ?_⟩ | refine ⟨(by omega : _ < _), ?_⟩ | refine ⟨by (unfold drawOk; kernel_rfl), ?_⟩ | refine ⟨(by simp; done), ?_⟩ | refine ⟨(by simp; omega), ?_⟩))
  refine callE_p f0 ?_
  simp -implicitDefEqProofs only [push_cast, sms_length, gt_iff_lt, c1, c2, seval]
  (repeat (first | refine ⟨(by omega : _ ≤ _), ?_⟩ | refine ⟨(by omega : _ < _), ?_⟩ | refine ⟨by (unfold drawOk; kernel_rfl), ?_⟩ | refine ⟨(by simp; done), ?_⟩ | refine ⟨(by simp; omega), ?_⟩))
  refine callE_p r1 ?_
  simp -implicitDefEqProofs only [push_cast, seval]
  refine callE_p o1 ?_
  simp -implicitDefEqProofs only [push_cast, seval]
  refine callE_p r2 ?_
  simp -implicitDefEqProofs only [push_cast, seval]
  refine callE_p o2 ?_
  simp -implicitDefEqProofs only [push_cast, rgn, seval]
  (repeat (first | refine ⟨(by omega : _ ≤ _), ?_⟩ | refine ⟨(by omega : _ < _), ?_⟩ | refine ⟨by (unfold drawOk; kernel_rfl), ?_⟩ | refine ⟨(by simp; done), ?_⟩ | refine ⟨(by simp; omega), ?_⟩))
  refine callE_p b1 ?_
  simp -implicitDefEqProofs only [push_cast, rgn, seval]
  (repeat (first | refine ⟨(by omega : _ ≤ _), ?_⟩ | refine ⟨(by omega : _ < _), ?_⟩ | refine ⟨by (unfold drawOk; kernel_rfl), ?_⟩ | refine ⟨(by simp; done), ?_⟩ | refine ⟨(by simp; omega), ?_⟩))
  refine callE_p b2 ?_
  simp -implicitDefEqProofs only [push_cast, rgn, seval]
  (repeat (first | refine ⟨(by omega : _ ≤ _), ?_⟩ | refine ⟨(by omega : _ < _), ?_⟩ | refine ⟨(by simp; omega), ?_⟩ | refine ⟨(by simp; done), ?_⟩ | refine ⟨(by (unfold drawOk; kernel_rfl)), ?_⟩))
  refine callE_p u0 ?_
  simp -implicitDefEqProofs only [push_cast, rgn, seval]
  refine callE_p u1 ?_
  simp -implicitDefEqProofs only [push_cast, rgn, seval]
  refine callE_p u2 ?_
  simp -implicitDefEqProofs only [push_cast, rgn, seval]
  refine callE_p u3 ?_
  simp -implicitDefEqProofs only [push_cast, rgn, seval]
  (repeat (first | refine ⟨(by omega : _ ≤ _), ?_⟩ | refine ⟨(by omega : _ < _), ?_⟩ | refine ⟨(by simp; omega), ?_⟩ | refine ⟨(by simp; done), ?_⟩ | refine ⟨(by (unfold drawOk; kernel_rfl)), ?_⟩))
  have v4 := fun k (h : k < 4) => rg4_at A B (k := k) h
  have h4 := fun k => four_28 hA hB k
  have hz4 := fun k => four_bits hA hB k
  have lP := bitsL_len (lB A) 4 112
  have lQ := bitsL_len (lB B) 4 112
  have lV := rg4_len A B
  generalize bitsL (lB A) 4 112 = P at *
  generalize bitsL (lB B) 4 112 = Q at *
  refine loopC_of (α := { k : Nat // k ≤ 4 }) (fun a => lwS (rg4 A B) P Q a.1) (fun a => 4 - a.1) ⟨0, Nat.zero_le _⟩ ?_ ?_
  · (simp only [lwS]; exact Wk.by _ _ _ [] [] [] (by simp) (by simp [wkV, PV.el, PV.weak, PS.get, PS.obj, PS.lv, lkp_hit, lkp_miss, lkp_nil, lko, wkL, wkC, res1, rcs_wk, ics_wk, rg4, rgn]) (by simp [PS.get, PS.obj, PS.lv, lkp_hit, lkp_miss, lkp_nil, lko, wkL, wkC, PV.weak, wkL, wkC, res1, rcs_wk, ics_wk, rg4, rgn]) (by simp [PS.get, PS.obj, PS.lv, lkp_hit, lkp_miss, lkp_nil, lko]) (by rfl) (by rfl) (by simp [lko]) (by simp) (by simp) (by simp) (fun i hi => by rcases i with _ | _ | _ | _ | _ | _ | i <;> first | rfl | (exfalso; omega)))
  generalize rg4 A B = V at *
  rintro ⟨k, hk⟩
  simp only [lwS]
  simp -implicitDefEqProofs only [push_cast, seval]
  refine condC_split (fun g1 => ?_) (fun g1 => ?_)
  · have hlt : k < 4 := by simp at g1; omega
    have hu := wr_up (k := k) (by omega)
    have hat := v4 k hlt
    have hR := h4 k
    have hz := hz4 k
    generalize four k A B = R at *
    have bR := bits28_fs R hR
    have oR := shapeOf_fs R hR
    have sB := sbits_fs k hlt P Q (by omega) (by omega) (by omega)
    rw [hz] at sB
    have sR := same28_fs R hR
    have tR := rects_fs R (by have := hR.len; omega)
    have hRl := hR.len
    generalize bitsL (lB R) 4 112 = W at *
    simp -implicitDefEqProofs only [push_cast, hat, lV, rgn, seval]
    (repeat (first | refine ⟨(by omega : _ ≤ _), ?_⟩ | refine ⟨(by omega : _ < _), ?_⟩ | refine ⟨(by simp; omega), ?_⟩ | refine ⟨(by simp; done), ?_⟩ | refine ⟨(by (unfold drawOk; kernel_rfl)), ?_⟩))
    refine callE_p bR ?_
    simp -implicitDefEqProofs only [push_cast, rgn, seval]
    refine callE_p oR ?_
    simp -implicitDefEqProofs only [push_cast, rgn, seval]
    (repeat (first | refine ⟨(by omega : _ ≤ _), ?_⟩ | refine ⟨(by omega : _ < _), ?_⟩ | refine ⟨by (unfold drawOk; kernel_rfl), ?_⟩ | refine ⟨(by simp; done), ?_⟩ | refine ⟨(by simp; omega), ?_⟩))
    refine callE_p sB ?_
    simp -implicitDefEqProofs only [push_cast, rgn, bne_self_eq_false, seval]
    refine callE_p sR ?_
    simp -implicitDefEqProofs only [push_cast, seval]
    refine callE_p tR ?_
    simp -implicitDefEqProofs only [push_cast, rgn, seval]
    refine callE_p tR ?_
    simp -implicitDefEqProofs only [push_cast, rts_length, bne_self_eq_false, seval]
    (repeat (first | refine ⟨(by omega : _ ≤ _), ?_⟩ | refine ⟨(by omega : _ < _), ?_⟩ | refine ⟨(by simp; omega), ?_⟩ | refine ⟨(by simp; done), ?_⟩ | refine ⟨(by (unfold drawOk; kernel_rfl)), ?_⟩))
    refine loopC_of (α := { i : Nat // i ≤ R.length }) (fun a => lwI V P Q k R a.1) (fun a => R.length - a.1) ⟨0, Nat.zero_le _⟩ ?_ ?_
    · (simp only [lwI]; exact Wk.by _ _ _ [(1,76)] [] [] (by simp) (by simp [wkV, PV.el, PV.weak, PS.get, PS.obj, PS.lv, lkp_hit, lkp_miss, lkp_nil, lko, wkL, wkC, res1, rcs_wk, ics_wk, List.take_zero, areaL]) (by simp [PS.get, PS.obj, PS.lv, lkp_hit, lkp_miss, lkp_nil, lko, wkL, wkC, PV.weak, wkL, wkC, res1, rcs_wk, ics_wk, List.take_zero, areaL]) (by simp [PS.get, PS.obj, PS.lv, lkp_hit, lkp_miss, lkp_nil, lko]) (by rfl) (by rfl) (by simp [lko]) (by simp) (by simp) (by simp) (fun i hi => by rcases i with _ | _ | _ | _ | _ | _ | i <;> first | rfl | (exfalso; omega)))
    rintro ⟨i, hi⟩
    simp only [lwI]
    simp -implicitDefEqProofs only [push_cast, seval]
    refine condC_split (fun g2 => ?_) (fun g2 => ?_)
    · have hli : i < R.length := by simp at g2; omega
      have hu2 := wr_up (k := i) (by omega)
      have hai := rt_at hli
      have hbi := hR.b _ (List.getElem_mem hli)
      have har := rarea_fs R[i] hbi
      have hsn : areaL (R.take (i + 1)) = areaL (R.take i) + R[i].w * R[i].h := by rw [List.take_succ_eq_append_getElem hli, area_snoc]
      have hbd := area_le (L := R.take (i + 1)) fun r hr => hR.b r (List.mem_of_mem_take hr)
      have hlt2 : (R.take (i + 1)).length ≤ 784 := by rw [List.length_take]; omega
      have wA : IntKind.i64.wrap (areaL (R.take i) + R[i].w * R[i].h) = areaL (R.take (i + 1)) := by rw [← hsn]; exact wrap_i64_id (by omega) (by omega)
      have hq := rect_eq R[i] R[i] (cnt_in hbi) (cnt_in hbi)
      rw [decide_eq_true rfl] at hq
      simp only [rc] at hq
      have hcr : ∀ j (h : j < i), Fsp Try.prog 18 [] 0 [rpv (R[j]'(by omega)), rpv R[i]] [] 0 (rpv z4) := fun j h => cross_fs _ _ (hR.b _ (List.getElem_mem _)) hbi (hR.r.srt.dis hli h)
      have hem := rempty0_fs
      have hkt : Try.prog.keyTypeAt 12 41 = true := by kernel_rfl
      have hti : ((rts R).take i).length = i := by rw [List.length_take, rts_length]; omega
      have htj : ∀ j (h : j < i), ((rts R).take i).getD j .any = rpv (R[j]'(by omega)) := fun j h => by
        rw [List.getD_eq_getElem?_getD, List.getElem?_take, if_pos h, ← List.getD_eq_getElem?_getD]
        exact rt_at (by omega)
      generalize hri : R[i] = r at *
      clear hsn hbd
      simp -implicitDefEqProofs only [push_cast, hai, rts_length, rpv, rc, seval]
      (repeat (first | refine ⟨(by omega : _ ≤ _), ?_⟩ | refine ⟨(by omega : _ < _), ?_⟩ | refine ⟨(by simp; omega), ?_⟩ | refine ⟨(by simp; done), ?_⟩ | refine ⟨(by (unfold drawOk; kernel_rfl)), ?_⟩))
      refine callE_p har ?_
      simp -implicitDefEqProofs only [push_cast, rpv, rc, wA, hai, rts_length, hq, hkt, seval]
      (repeat (first | refine ⟨(by omega : _ ≤ _), ?_⟩ | refine ⟨(by omega : _ < _), ?_⟩ | refine ⟨(by simp; omega), ?_⟩ | refine ⟨(by simp; done), ?_⟩ | refine ⟨(by (unfold drawOk; kernel_rfl)), ?_⟩))
      refine loopC_of (α := { j : Nat // j ≤ i }) (fun a => lwJ V P Q k R i a.1) (fun a => i - a.1) ⟨0, Nat.zero_le _⟩ ?_ ?_
      · (simp only [lwJ]; exact Wk.by _ _ _ [(1,1)] [] [] (by simp) (by simp [wkV, PV.el, PV.weak, PS.get, PS.obj, PS.lv, lkp_hit, lkp_miss, lkp_nil, lko, wkL, wkC, res1, rcs_wk, ics_wk, hti]) (by simp [PS.get, PS.obj, PS.lv, lkp_hit, lkp_miss, lkp_nil, lko, wkL, wkC, PV.weak, wkL, wkC, res1, rcs_wk, ics_wk, hti]) (by simp [PS.get, PS.obj, PS.lv, lkp_hit, lkp_miss, lkp_nil, lko]) (by rfl) (by rfl) (by simp [lko]) (by simp) (by simp) (by simp) (fun i hi => by rcases i with _ | _ | _ | _ | _ | _ | i <;> first | rfl | (exfalso; omega)))
      rintro ⟨j, hj⟩
      simp only [lwJ]
      simp -implicitDefEqProofs only [push_cast, seval]
      refine condC_split (fun g3 => ?_) (fun g3 => ?_)
      · have hjl : j < i := by simp at g3; omega
        have hu3 := wr_up (k := j) (by omega)
        have haj := htj j hjl
        have hcj := hcr j hjl
        generalize R[j] = o at *
        simp only [z4] at hcj hem
        simp -implicitDefEqProofs only [push_cast, haj, hti, rpv, rc, hai, rts_length, seval]
        (repeat (first | refine ⟨(by omega : _ ≤ _), ?_⟩ | refine ⟨(by omega : _ < _), ?_⟩ | refine ⟨(by simp; omega), ?_⟩ | refine ⟨(by simp; done), ?_⟩ | refine ⟨(by (unfold drawOk; kernel_rfl)), ?_⟩))
        refine callE_p hcj ?_
        simp -implicitDefEqProofs only [push_cast, rpv, rc, hai, rts_length, seval]
        (repeat (first | refine ⟨(by omega : _ ≤ _), ?_⟩ | refine ⟨(by omega : _ < _), ?_⟩ | refine ⟨(by simp; omega), ?_⟩ | refine ⟨(by simp; done), ?_⟩ | refine ⟨(by (unfold drawOk; kernel_rfl)), ?_⟩))
        refine callE_p hem ?_
        simp -implicitDefEqProofs only [push_cast, hu3, seval]
        (repeat (first | refine ⟨(by omega : _ ≤ _), ?_⟩ | refine ⟨(by omega : _ < _), ?_⟩ | refine ⟨(by simp; omega), ?_⟩ | refine ⟨(by simp; done), ?_⟩ | refine ⟨(by (unfold drawOk; kernel_rfl)), ?_⟩))
        refine ⟨⟨j + 1, hjl⟩, by simp only; omega, ?_⟩
        (simp only [lwJ]; exact Wk.by _ _ _ [(1,1)] [] [] (by simp) (by simp [wkV, PV.el, PV.weak, PS.get, PS.obj, PS.lv, lkp_hit, lkp_miss, lkp_nil, lko, wkL, wkC, res1, rcs_wk, ics_wk, hu3]) (by simp [PS.get, PS.obj, PS.lv, lkp_hit, lkp_miss, lkp_nil, lko, wkL, wkC, PV.weak, wkL, wkC, res1, rcs_wk, ics_wk, hu3]) (by simp [PS.get, PS.obj, PS.lv, lkp_hit, lkp_miss, lkp_nil, lko]) (by rfl) (by rfl) (by simp [lko]) (by simp) (by simp) (by simp) (fun i hi => by rcases i with _ | _ | _ | _ | _ | _ | i <;> first | rfl | (exfalso; omega)))
      · have hje : j = i := by simp at g3; omega
        simp -implicitDefEqProofs only [push_cast, hu2, seval]
        (repeat (first | refine ⟨(by omega : _ ≤ _), ?_⟩ | refine ⟨(by omega : _ < _), ?_⟩ | refine ⟨(by simp; omega), ?_⟩ | refine ⟨(by simp; done), ?_⟩ | refine ⟨(by (unfold drawOk; kernel_rfl)), ?_⟩))
        refine ⟨⟨i + 1, hli⟩, by simp only; omega, ?_⟩
        (simp only [lwI]; exact Wk.by _ _ _ [(1,1)] [] [] (by simp) (by simp [wkV, PV.el, PV.weak, PS.get, PS.obj, PS.lv, lkp_hit, lkp_miss, lkp_nil, lko, wkL, wkC, res1, rcs_wk, ics_wk, hu2]) (by simp [PS.get, PS.obj, PS.lv, lkp_hit, lkp_miss, lkp_nil, lko, wkL, wkC, PV.weak, wkL, wkC, res1, rcs_wk, ics_wk, hu2]) (by simp [PS.get, PS.obj, PS.lv, lkp_hit, lkp_miss, lkp_nil, lko]) (by rfl) (by rfl) (by simp [lko]) (by simp) (by simp) (by simp) (fun i hi => by rcases i with _ | _ | _ | _ | _ | _ | i <;> first | rfl | (exfalso; omega)))
    · have hie : i = R.length := by simp at g2; omega
      subst hie
      have ar := area_fs R hR.b (by omega)
      have bx := rbox_fs R hR.b (by omega)
      have on' := of_on (boxL R) (box_in hR.b)
      have ins := inbox_fs R hR
      have gb := rgbox_fs R hR
      have hq := rect_eq (boxL R) (boxL R) (box_in hR.b) (box_in hR.b)
      rw [decide_eq_true rfl] at hq
      simp only [rc] at hq
      have hkt : Try.prog.keyTypeAt 12 41 = true := by kernel_rfl
      have htl : R.take R.length = R := List.take_length
      generalize on (boxL R) = ob at *
      generalize boxL R = b at *
      simp -implicitDefEqProofs only [push_cast, htl, seval]
      refine callE_p ar ?_
      simp -implicitDefEqProofs only [push_cast, rgn, bne_self_eq_false, seval]
      refine callE_p bx ?_
      simp -implicitDefEqProofs only [push_cast, rpv, rc, seval]
      refine callE_p on' ?_
      simp -implicitDefEqProofs only [push_cast, rgn, seval]
      refine callE_p ins ?_
      simp -implicitDefEqProofs only [push_cast, seval]
      refine callE_p bx ?_
      simp -implicitDefEqProofs only [push_cast, rpv, rc, rgn, seval]
      refine callE_p gb ?_
      simp -implicitDefEqProofs only [push_cast, rpv, rc, hq, hkt, hu, seval]
      (repeat (first | refine ⟨(by omega : _ ≤ _), ?_⟩ | refine ⟨(by omega : _ < _), ?_⟩ | refine ⟨(by simp; omega), ?_⟩ | refine ⟨(by simp; done), ?_⟩ | refine ⟨(by (unfold drawOk; kernel_rfl)), ?_⟩))
      refine ⟨⟨k + 1, hlt⟩, by simp only; omega, ?_⟩
      (simp only [lwS]; exact Wk.by _ _ _ [] [] [] (by simp) (by simp [wkV, PV.el, PV.weak, PS.get, PS.obj, PS.lv, lkp_hit, lkp_miss, lkp_nil, lko, wkL, wkC, res1, rcs_wk, ics_wk, hu]) (by simp [PS.get, PS.obj, PS.lv, lkp_hit, lkp_miss, lkp_nil, lko, wkL, wkC, PV.weak, wkL, wkC, res1, rcs_wk, ics_wk, hu]) (by simp [PS.get, PS.obj, PS.lv, lkp_hit, lkp_miss, lkp_nil, lko]) (by rfl) (by rfl) (by simp [lko]) (by simp) (by simp) (by simp) (fun i hi => by rcases i with _ | _ | _ | _ | _ | _ | i <;> first | rfl | (exfalso; omega)))
  · simp -implicitDefEqProofs only [push_cast, seval]
    all_goals (first | done | rfl | exact ⟨_, rfl, by simp [wkL, res2, res1, PV.weak, PV.el]⟩ | (simp [wkL, res2, res1, PV.weak, PV.el]; done))
theorem topSets_fs (X Y : List Sm) : Fsp Try.prog 3 [] 0 [.sl 4 (sms X), .sl 4 (sms Y)] [] 0 (.bool true) := by
  by_cases h1 : 10 < X.length
  · exact topSets_far X Y (.inl h1)
  by_cases h2 : 10 < Y.length
  · exact topSets_far X Y (.inr ⟨by omega, h2⟩)
  exact topSets_near X Y (by omega) (by omega)
end Go.Proofs.Sh
