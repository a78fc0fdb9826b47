/- What a stub's bytes are, request by request, some of them taken ahead of others. Plain. -/
import Derived.Test.YtplaaagcbleflaaDoorTwU
import Derived.Test.YtplaaagcbleflaaDoorSbC
import Derived.Test.YtplaaagcbleflaaDoorSxFeed
import Derived.Test.YtplaaagcbleflaaDoorPvXe
import Derived.Test.YtplaaagcbleflaaDoorSxIt
set_option maxRecDepth 100000
set_option linter.unusedSimpArgs false
set_option linter.unusedVariables false
namespace Go.Proofs.Sh
open Go.Pv
theorem fmt_len {o : Int} (ho : isOrder o) (f : Fm) (h : f.Ok) (x : Fd) (hE : (fitsE f x != 0) = false) : (fmt o f x).length ≤ 17 + 4 * x.N.length + x.B.length + 4 * x.L.length := by
  have hn := fitsE_n hE
  have r1 := row_length o h x.N x.N.length (by omega)
  have q1 := p1_length (row o f.F x.N x.N.length)
  have h1 : (fmt1 o f x).length ≤ 4 * x.N.length + 3 := by unfold fmt1; omega
  have p4 := putS_length (o := o) (s := 4) (by unfold isSize; omega) x.B.length
  have h2 : (fmt2 o f x).length ≤ 4 * x.N.length + 10 + x.B.length := by
    unfold fmt2
    split
    · have := p1_length (fmt1 o f x ++ putS o 4 x.B.length ++ x.B)
      simp only [List.length_append] at this
      omega
    · omega
  have p5 := putS_length (o := o) (s := 4) (by unfold isSize; omega) x.L.length
  unfold fmt
  split
  · rename_i hL
    have hLs : isSize f.L := by
      rcases h.l with e | e
      · rw [e] at hL; exact absurd hL (by decide)
      · exact e
    have r2 := row1_length o hLs x.L x.L.length
    have := p1_length (fmt2 o f x ++ putS o 4 x.L.length ++ row1 o f.L x.L x.L.length)
    simp only [List.length_append] at this
    omega
  · omega
/-- A small request's bytes are few. -/
def small (x : Rq) : Prop := x.N.length ≤ 300 ∧ x.B.length ≤ 300 ∧ x.L.length ≤ 300
theorem packS_small {o : Int} {r : Rq} (h : small r) : (packS o r).1.length ≤ 2721 := by
  unfold packS
  split
  · rename_i ho
    split
    · simp
    · rename_i f hf
      split
      · simp
      · rename_i hE
        split
        · simp
        · obtain ⟨hok, -, -⟩ := formOf_some hf
          have := fmt_len (isOrd_of ho) f hok r.fd (by simpa using hE)
          obtain ⟨h1, h2, h3⟩ := h
          rw [List.length_append, hd_len]
          simp only [Rq.fd] at *
          omega
  · simp
/-- A stub, and what was taken of it. -/
structure Ws where
  s : Sb
  b : List UInt8
def wstep (tk : Int) (i : Nat) (a : Ws) (x : Rq) : Ws :=
  if (i : Int) % 5 = tk then ⟨{ (askS a.s [x]).1 with out := [] }, a.b ++ (askS a.s [x]).1.out⟩ else ⟨(askS a.s [x]).1, a.b⟩
/-- What holds of it behind requests. -/
structure WI (o' c' : Int) (X : List Rq) (a : Ws) : Prop where
  o : a.s.o = o'
  c : a.s.c = c'
  d : a.s.c ≠ 0
  n : a.s.n = (gdR o' X).length
  b : a.b ++ a.s.out = bgn o' ++ catR o' (gdR o' X)
  q : a.s.q.length ≤ X.length
  l : (a.b ++ a.s.out).length ≤ 4 + 2721 * X.length
theorem askS_one {s : Sb} {x : Rq} (hc : s.c ≠ 0) (hl : s.out.length + (packS s.o x).1.length ≤ 65536) :
    (askS s [x]).2 = (packS s.o x).2 ∧ ((packS s.o x).2 ≠ 0 → (askS s [x]).1 = s) ∧ ((packS s.o x).2 = 0 → (askS s [x]).1 = asked s [x] ∧ (asked s [x]).out = s.out ++ (packS s.o x).1) := by
  have hp : putAll s.o s.out [x] = if (packS s.o x).2 = 0 then (s.out ++ (packS s.o x).1, 0) else (s.out, (packS s.o x).2) := by
    show putI s.o (s.out, 0) x = _
    rw [putI, if_pos rfl]
    split
    · rw [if_neg (by simp only; omega)]
    · rfl
  have he : askE s [x] = (packS s.o x).2 := by
    rw [askE, if_neg hc, hp]
    split
    · rename_i h; exact h.symm
    · rfl
  refine ⟨?_, fun h => ?_, fun h => ⟨?_, ?_⟩⟩
  · rw [askS]
    split
    · rename_i h; rw [← he, h]
    · exact he
  · rw [askS, if_neg (by rw [he]; exact h)]
  · rw [askS, if_pos (by rw [he]; exact h)]
  · show (putAll s.o s.out [x]).1 = _
    rw [hp, if_pos h]
theorem wi_step {o c tk : Int} {X : List Rq} {a : Ws} (h : WI o c X a) (x : Rq) (hx : small x) (hn : X.length ≤ 20) : WI o c (X ++ [x]) (wstep tk X.length a x) := by
  have hb := packS_small (o := o) hx
  have hl0 := h.l
  have hol : a.s.out.length ≤ 4 + 2721 * X.length := by rw [List.length_append] at hl0; omega
  obtain ⟨h1, h2, h3⟩ := askS_one (s := a.s) (x := x) h.d (by rw [h.o]; omega)
  rw [h.o] at h1 h2 h3
  have core : WI o c (X ++ [x]) ⟨(askS a.s [x]).1, a.b⟩ := by
    by_cases hz : (packS o x).2 = 0
    · obtain ⟨e1, e2⟩ := h3 hz
      have hg := gdR_ok (o := o) (X := X) (x := x) (by simpa using hz)
      have hbb : a.b ++ (asked a.s [x]).out = bgn o ++ catR o (gdR o (X ++ [x])) := by rw [e2, ← List.append_assoc, h.b, hg, catR_sn, List.append_assoc]
      refine ⟨by simp only; rw [e1]; exact h.o, by simp only; rw [e1]; exact h.c, by simp only; rw [e1]; exact h.d, ?_, by simp only; rw [e1]; exact hbb, ?_, ?_⟩
      · simp only
        rw [e1, hg, List.length_append]
        show (a.s.add [x]).1 = _
        rw [Sb.add, addAll_n, h.n]
        simp
      · simp only
        rw [e1, List.length_append]
        show (a.s.add [x]).2.1.length ≤ _
        have := addAll_q (a.s.n, a.s.q, a.s.mm) [x]
        have hq := h.q
        rw [Sb.add]
        simp only [List.length_cons, List.length_nil] at this ⊢
        omega
      · simp only
        have hXl : (X ++ [x]).length = X.length + 1 := by simp
        rw [e1, e2, ← List.append_assoc, List.length_append, hXl]
        omega
    · have e1 := h2 hz
      have hg := gdR_bad (o := o) (X := X) (x := x) (by simpa using hz)
      refine ⟨by simp only; rw [e1]; exact h.o, by simp only; rw [e1]; exact h.c, by simp only; rw [e1]; exact h.d, by simp only; rw [e1, hg]; exact h.n, by simp only; rw [e1, hg]; exact h.b, ?_, ?_⟩
      · simp only
        have := h.q
        rw [e1, List.length_append]; omega
      · simp only
        have hXl : (X ++ [x]).length = X.length + 1 := by simp
        rw [e1, hXl]
        omega
  unfold wstep
  split
  · refine ⟨core.o, core.c, core.d, core.n, ?_, core.q, ?_⟩
    · have := core.b
      simp only [List.append_nil] at this ⊢
      exact this
    · have := core.l
      simp only [List.append_nil] at this ⊢
      exact this
  · exact core
end Go.Proofs.Sh

/- The law's function wireParts: bytes that come in parts. -/
set_option maxRecDepth 100000
set_option linter.unusedSimpArgs false
set_option linter.unusedVariables false
namespace Go.Proofs.Sh
open Go.Pv
structure WpS (cuts : List Nat) (b : List UInt8) where
  p : Nat
  i : Nat
  hp : p ≤ b.length
  hi : i ≤ cuts.length ∨ p = b.length
def WpS.me {cuts : List Nat} {b : List UInt8} (x : WpS cuts b) : Nat := if x.p = b.length then 0 else (cuts.length - x.i) + 1
def WpS.st {cuts : List Nat} {b : List UInt8} (x : WpS cuts b) : PS := { n := 47, env := [(8, .int .i64 x.i), (7, .slt 6 (itL (itO (b.take x.p))) 50), (6, .box 6 0), (5, .box 5 0), (4, .nilsl), (1, .sl 1 (u8s cuts)), (0, .str (b.drop x.p))], objs := [(5, some [.bool false, .bool false, .int .i64 0, .str []]), (6, some [.bool (stO (b.take x.p)).b, .bool (stO (b.take x.p)).d, .int .i64 (stO (b.take x.p)).o, .str (stO (b.take x.p)).r])], live := [(50, true)], nxt := 60 }
theorem wp_min (c z : Nat) (hc : c < 256) : Int.tmod (c : Int) 50 = (c : Int) % 50 ∧ IntKind.i64.wrap ((c : Int) % 50) = (c : Int) % 50 ∧ ∃ n : Nat, n ≤ z ∧ (if (c : Int) % 50 < (z : Int) then (c : Int) % 50 else (z : Int)) = (n : Int) := by
  refine ⟨Int.tmod_eq_emod_of_nonneg (by omega), wrap_i64_id (by omega) (by omega), if c % 50 < z then c % 50 else z, ?_, ?_⟩
  · split <;> omega
  · split <;> split <;> omega
theorem wp_next (b : List UInt8) (p n : Nat) (hb : b.length ≤ 100000) (hn : p + n ≤ b.length) : Fsp Tryd.prog 13 [] 0 [.agg [.bool (stO (b.take p)).b, .bool (stO (b.take p)).d, .int .i64 (stO (b.take p)).o, .str (stO (b.take p)).r], .str ((b.drop p).take n)] [] 0
      (.tup [.agg [.bool (stO (b.take (p + n))).b, .bool (stO (b.take (p + n))).d, .int .i64 (stO (b.take (p + n))).o, .str (stO (b.take (p + n))).r], .sl 6 (itL (feedS (stO (b.take p)) ((b.drop p).take n)).2)]) ∧
    itL (itO (b.take (p + n))) = itL (itO (b.take p)) ++ itL (feedS (stO (b.take p)) ((b.drop p).take n)).2 ∧ (itL (itO (b.take p))).length ≤ 100000 ∧ (itL (feedS (stO (b.take p)) ((b.drop p).take n)).2).length ≤ 100000 := by
  have hjn : b.take p ++ (b.drop p).take n = b.take (p + n) := by rw [List.take_add]
  have hsl := stO_len (b.take p)
  have htl : (b.take p).length = p := by rw [List.length_take]; omega
  have htl2 : ((b.drop p).take n).length = n := by rw [List.length_take, List.length_drop]; omega
  have hN := feed_fs (stO (b.take p)) ((b.drop p).take n) (by rw [List.length_append, htl2]; omega)
  obtain ⟨hn1, hn2⟩ := feed_next (b.take p) ((b.drop p).take n)
  have hfl := feed_len (b.take p) ((b.drop p).take n)
  have hil := itO_len (b.take p)
  rw [hjn] at hn1 hn2
  rw [feedR, hn1] at hN
  simp only [sm_pv] at hN
  rw [List.length_append, htl, htl2] at hfl
  refine ⟨hN, by rw [hn2, itL_app], ?_, ?_⟩
  · rw [itL_length]; omega
  · rw [itL_length]; omega
set_option maxHeartbeats 8000000 in
theorem wireT_fs (b : List UInt8) (cuts : List Nat) (hb : b.length ≤ 100000) (hcu : ∀ c ∈ cuts, c < 256) (hcl : cuts.length ≤ 300) : Fsp Tryd.prog 24 [] 0 [.str b, .sl 1 (u8s cuts)] [] 1 (.tup [.slt 6 (itL (itO b)) 0, (stO b).pv]) := by
  (refine Fsp.ofs (nx := 0) mixed Tryd.func24 rfl (by simp [Tryd.f24]) ?_; simp -implicitDefEqProofs only [push_cast, Tryd.f24, seval])
  refine loopC_of (α := WpS cuts b) WpS.st WpS.me ⟨0, 0, Nat.zero_le _, .inl (Nat.zero_le _)⟩ ?_ ?_
  · (simp only [WpS.st, List.take_zero, stO_nil, itO_nil, List.drop_zero]; exact Wk.at _ _ _ [(5, 4), (6, 8)] [] [50] (by simp) (by simp [wkV, PV.el, PV.weak, PS.get, PS.obj, PS.lv, lkp_hit, lkp_miss, lkp_nil, lko, wkL, wkC, res1, itL]) (by simp [PS.get, PS.obj, PS.lv, lkp_hit, lkp_miss, lkp_nil, lko, wkL, wkC, PV.weak, wkL, wkC, res1, itL]))
  · rintro ⟨p, i, hp, hi⟩
    simp only [WpS.st]
    simp -implicitDefEqProofs only [push_cast, seval]
    refine condC_split (fun g1 => ?_) (fun g1 => ?_)
    · have hlt : p < b.length := by
        rcases Nat.lt_or_ge p b.length with h | h
        · exact h
        · rw [List.drop_eq_nil_of_le h] at g1; cases g1
      have hi' : i ≤ cuts.length := by
        rcases hi with h | h
        · exact h
        · omega
      obtain ⟨z, hz⟩ : ∃ z, z = b.length - p := ⟨_, rfl⟩
      have hBl : (b.drop p).length = z := by rw [List.length_drop, hz]
      have hwi : IntKind.i64.wrap ((i : Int) + 1) = ((i + 1 : Nat) : Int) := by (rw [wrap_i64_id (by omega) (by omega)]; rfl)
      simp -implicitDefEqProofs only [push_cast, u8s_length, hBl, seval]
      refine condC_split (fun g2 => ?_) (fun g2 => ?_)
      · have hic : i < cuts.length := by simp at g2; omega
        have hg := u8s_at hic
        have hc : cuts.getD i 0 < 256 := hcu _ (by rw [List.getD_eq_getElem?_getD, List.getElem?_eq_getElem hic]; exact List.getElem_mem hic)
        generalize cuts.getD i 0 = c at *
        obtain ⟨m1, m2, n, hnz, m3⟩ := wp_min c z hc
        have hnb : p + n ≤ b.length := by omega
        have hgo : i + 1 ≤ cuts.length ∨ p + n = b.length := .inl hic
        simp -implicitDefEqProofs only [push_cast, hg, u8s_length, m1, m2, m3, hBl, seval]
        (repeat (first | refine ⟨(by omega : _ ≤ _), ?_⟩ | refine ⟨(by omega : _ < _), ?_⟩ | refine ⟨by (unfold drawOk; kernel_rfl), ?_⟩ | refine ⟨(by simp; done), ?_⟩ | refine ⟨(by simp; omega), ?_⟩))
        obtain ⟨hN, hia, hl1, hl2⟩ := wp_next b p n hb hnb
        have hdd : (b.drop p).drop n = b.drop (p + n) := by rw [List.drop_drop]
        generalize (feedS (stO (b.take p)) ((b.drop p).take n)).2 = Y at *
        refine callE_p hN ?_
        simp -implicitDefEqProofs only [push_cast, hwi, hdd, hBl, seval]
        (repeat (first | refine ⟨(by omega : _ ≤ _), ?_⟩ | refine ⟨(by omega : _ < _), ?_⟩ | refine ⟨by (unfold drawOk; kernel_rfl), ?_⟩ | refine ⟨(by simp; done), ?_⟩ | refine ⟨(by simp; omega), ?_⟩))
        refine ⟨⟨p + n, i + 1, hnb, hgo⟩, ?_, ?_⟩
        · unfold WpS.me
          simp only
          rw [if_neg (show ¬ p = b.length by omega)]
          split <;> omega
        · have hdt : List.take (z - n) (List.drop (p + n) b) = List.drop (p + n) b := List.take_of_length_le (by rw [List.length_drop]; omega)
          (simp only [WpS.st, hia]; exact Wk.at _ _ _ [(5, 5), (6, 6)] [(50, 208)] [] (by simp) (by simp [wkV, PV.el, PV.weak, PS.get, PS.obj, PS.lv, lkp_hit, lkp_miss, lkp_nil, lko, wkL, wkC, res1, hdt]) (by simp [PS.get, PS.obj, PS.lv, lkp_hit, lkp_miss, lkp_nil, lko, wkL, wkC, PV.weak, wkL, wkC, res1, hdt]))
      · have hnb : p + z ≤ b.length := by omega
        have hgo : i + 1 ≤ cuts.length ∨ p + z = b.length := .inr (by omega)
        simp -implicitDefEqProofs only [push_cast, hBl, seval]
        (repeat (first | refine ⟨(by omega : _ ≤ _), ?_⟩ | refine ⟨(by omega : _ < _), ?_⟩ | refine ⟨by (unfold drawOk; kernel_rfl), ?_⟩ | refine ⟨(by simp; done), ?_⟩ | refine ⟨(by simp; omega), ?_⟩))
        obtain ⟨hN, hia, hl1, hl2⟩ := wp_next b p z hb hnb
        have hdd : (b.drop p).drop z = b.drop (p + z) := by rw [List.drop_drop]
        generalize (feedS (stO (b.take p)) ((b.drop p).take z)).2 = Y at *
        refine callE_p hN ?_
        simp -implicitDefEqProofs only [push_cast, hwi, hdd, hBl, seval]
        (repeat (first | refine ⟨(by omega : _ ≤ _), ?_⟩ | refine ⟨(by omega : _ < _), ?_⟩ | refine ⟨by (unfold drawOk; kernel_rfl), ?_⟩ | refine ⟨(by simp; done), ?_⟩ | refine ⟨(by simp; omega), ?_⟩))
        refine ⟨⟨p + z, i + 1, hnb, hgo⟩, ?_, ?_⟩
        · unfold WpS.me
          simp only
          rw [if_neg (show ¬ p = b.length by omega)]
          split <;> omega
        · have hge : b.length ≤ p + z := by omega
          (simp only [WpS.st, hia]; exact Wk.at _ _ _ [(5, 5), (6, 6)] [(50, 172)] [] (by simp) (by simp [wkV, PV.el, PV.weak, PS.get, PS.obj, PS.lv, lkp_hit, lkp_miss, lkp_nil, lko, wkL, wkC, res1, hge]) (by simp [PS.get, PS.obj, PS.lv, lkp_hit, lkp_miss, lkp_nil, lko, wkL, wkC, PV.weak, wkL, wkC, res1, hge]))
    · have he : p = b.length := by
        rcases Nat.lt_or_ge p b.length with h | h
        · exfalso
          have hl : (b.drop p).length ≠ 0 := by rw [List.length_drop]; omega
          cases hd : b.drop p with
          | nil => rw [hd] at hl; exact hl rfl
          | cons x y => rw [hd] at g1; cases g1
        · omega
      subst he
      rw [List.take_length]
      simp -implicitDefEqProofs only [push_cast, seval]
      refine ⟨by (unfold drawOk; kernel_rfl), ?_⟩
      exact endK_toks [50] rfl rfl (by simp [PS.lv, lkp_hit, lkp_miss, lkp_nil]) ⟨by simp [resOk, PS.get, PS.obj, lkp_hit, lkp_miss, lkp_nil, PS.ev, ldPV, ldOk, ofC, ofC1, TK.isAgg, PV.cnd, sm_pv, tk_25, tsz_25], by simp [resPV, PS.get, PS.obj, lkp_hit, lkp_miss, lkp_nil, PS.ev, ldPV, ldOk, ofC, ofC1, TK.isAgg, PV.cnd, sm_pv, tk_25, tsz_25], by simp [resOf, resPV, one', res3, res2, res1, PV.weak, PV.el, wkL, idx, PV.un, PS.get, PS.obj, lkp_hit, lkp_miss, lkp_nil, PS.ev, ldPV, ldOk, ofC, ofC1, TK.isAgg, PV.cnd, sm_pv, tk_25, tsz_25]⟩
end Go.Proofs.Sh

/- The law TopWire. -/
set_option maxRecDepth 100000
set_option linter.unusedSimpArgs false
set_option linter.unusedVariables false
namespace Go.Proofs.Sh
open Go.Pv
theorem mpv_weak (s : Sb) : s.mpv.weak = s.mpv := by unfold Sb.mpv; cases s.m <;> rfl
theorem mpv_out (s : Sb) : Sb.mpv ⟨s.o, s.c, s.d, s.n, s.l, s.t, [], s.came, s.q, s.m⟩ = s.mpv := rfl
theorem mpv_cells (s : Sb) : s.mpv.cells = [s.mpv] := by unfold Sb.mpv; cases s.m <;> rfl
theorem mpv_one (s : Sb) : s.mpv.one = true := by unfold Sb.mpv; cases s.m <;> rfl
theorem mpv_un (s : Sb) : s.mpv.un = s.mpv := by unfold Sb.mpv; cases s.m <;> rfl
theorem mpv_cnd (s : Sb) : s.mpv.cnd = true := by unfold Sb.mpv; cases s.m <;> rfl
theorem mpv_back1 (s : Sb) (β : List Nat) (n m : Nat) : PV.back1 β n m s.mpv = s.mpv := by unfold Sb.mpv; cases s.m <;> rfl
theorem mpv_tok1 (s : Sb) (a b c : Nat) : tokLt1 a b c s.mpv = true := by unfold Sb.mpv; cases s.m <;> rfl
theorem mpv_wkC (s : Sb) (β τ : List (Nat × Nat)) (em : List Nat) : wkC β τ em s.mpv s.mpv = True := by
  unfold Sb.mpv
  cases s.m <;> simp [wkC, PV.weak]
theorem wkC_int (β τ : List (Nat × Nat)) (em : List Nat) (q : PV) (k : IntKind) (n : Int) : wkC β τ em q (.int k n) = (q.weak = .int k n) := rfl
theorem wkC_str (β τ : List (Nat × Nat)) (em : List Nat) (q : PV) (s : List UInt8) : wkC β τ em q (.str s) = (q.weak = .str s) := rfl
theorem wkC_bool (β τ : List (Nat × Nat)) (em : List Nat) (q : PV) (b : Bool) : wkC β τ em q (.bool b) = (q.weak = .bool b) := rfl
theorem wkC_sl (β τ : List (Nat × Nat)) (em : List Nat) (q : PV) (z : Nat) (l : List PV) : wkC β τ em q (.sl z l) = (q.weak = .sl z l) := rfl
theorem wkC_any (β τ : List (Nat × Nat)) (em : List Nat) (q : PV) : wkC β τ em q .any = True := rfl
theorem wkC_nilm (β τ : List (Nat × Nat)) (em : List Nat) (q : PV) : wkC β τ em q .nilm = (q.weak = .nilm) := rfl
theorem pcheck_fs (r : Rq) (hr : r.Few) : Fsp Tryd.prog 23 [] 0 [r.pv] [] 0 (.int .i64 (packS 0 r).2) := by
  have hp := packPut_fs 0 r hr
  rw [packR] at hp
  rw [Rq.pv] at *
  (refine Fsp.ofs (nx := 0) mixed Tryd.func23 rfl (by simp [Tryd.f23]) ?_; simp -implicitDefEqProofs only [push_cast, Tryd.f23, seval])
  refine callE_p hp ?_
  simp -implicitDefEqProofs only [push_cast, seval]
  all_goals (first | done | rfl | exact ⟨_, rfl, by simp [wkL, res2, res1, PV.weak, PV.el]⟩ | (simp [wkL, res2, res1, PV.weak, PV.el]; done))
def wgo (tk : Int) (a : Ws) (l : List Rq) : Nat × Ws := l.foldl (fun p x => (p.1 + 1, wstep tk p.1 p.2 x)) (0, a)
theorem wgo_sn (tk : Int) (a : Ws) (l : List Rq) (x : Rq) : wgo tk a (l ++ [x]) = ((wgo tk a l).1 + 1, wstep tk (wgo tk a l).1 (wgo tk a l).2 x) := by simp [wgo]
theorem wgo_len (tk : Int) (a : Ws) (l : List Rq) : (wgo tk a l).1 = l.length := by
  have : ∀ (l : List Rq) (p : Nat × Ws), (l.foldl (fun p x => (p.1 + 1, wstep tk p.1 p.2 x)) p).1 = p.1 + l.length := by
    intro l
    induction l with
    | nil => intro p; rfl
    | cons x l ih => intro p; rw [List.foldl_cons, ih, List.length_cons]; simp only; omega
  have h := this l (0, a)
  rw [Nat.zero_add] at h
  exact h
def wAll (tk : Int) (a : Ws) (l : List Rq) : Ws := (wgo tk a l).2
theorem wAll_sn (tk : Int) (a : Ws) (l : List Rq) (x : Rq) : wAll tk a (l ++ [x]) = wstep tk l.length (wAll tk a l) x := by
  rw [wAll, wgo_sn, wgo_len]; rfl
theorem wAll_0 (tk : Int) (a : Ws) : wAll tk a [] = a := rfl
def ws0 (o c : Int) : Ws := ⟨{ sb0 with o := o, c := c }, bgn o⟩
theorem wi_0 {o c : Int} (hc : c ≠ 0) (ho : (bgn o).length ≤ 4) : WI o c [] (ws0 o c) := ⟨rfl, rfl, hc, rfl, by simp [ws0, sb0, catR, gdR], by simp [ws0, sb0], by simp [ws0, sb0]; exact ho⟩
theorem wi_all {o c tk : Int} (hc : c ≠ 0) (ho : (bgn o).length ≤ 4) : ∀ (n : Nat) (X : List Rq), X.length = n → n ≤ 21 → (∀ x ∈ X, small x) → WI o c X (wAll tk (ws0 o c) X)
  | 0, X, h, _, _ => by rw [List.length_eq_zero_iff.1 h]; exact wi_0 hc ho
  | n + 1, X, h, hn, hs => by
    obtain ⟨X', x, rfl⟩ : ∃ X' x, X = X' ++ [x] := ⟨X.dropLast, X.getLast (by intro e; rw [e] at h; cases h), (List.dropLast_concat_getLast _).symm⟩
    have hl : X'.length = n := by simpa using h
    rw [wAll_sn]
    exact wi_step (wi_all hc ho n X' hl (by omega) (fun y hy => hs y (List.mem_append_left _ hy))) x (hs x (by simp)) (by omega)
theorem sameR_self (x : Rq) : sameR x x = true := by simp [sameR]
theorem rqL_sn (X : List Rq) (x : Rq) : rqL (X ++ [x]) = rqL X ++ [.agg [.int .i64 x.C, .sl 1 (ints x.N), .str x.B, .sl 1 (ints x.L)]] := by simp [rqL, Rq.pv]
theorem gdR_nil (o : Int) : gdR o [] = [] := rfl
structure W2 (G : List Rq) where
  i : Nat
  h : i ≤ G.length
def W2.st (G : List Rq) (o : Int) (a : W2 G) : PS := { n := 201, env := [(154, .int .i64 a.i), (153, .int .i64 G.length), (22, .box 22 0), (21, .sl 6 (itL (itR G))), (13, .sl 4 (rqL G)), (9, .int .i64 o), (8, .bool false)], objs := [(22, some [.bool true, .bool false, .int .i64 o, .str []])], live := [], nxt := 60 }
theorem itr_at {X : List Rq} {i : Nat} (h : i < X.length) : (itL (itR X)).getD i PV.any = .agg [.int .i64 (X.getD i rq0).C, .sl 1 (ints (X.getD i rq0).N), .str (X.getD i rq0).B, .sl 1 (ints (X.getD i rq0).L), .int .i64 0, .int .i64 (X.getD i rq0).C] := by
  rw [itL, itR, List.getD_eq_getElem?_getD, List.getElem?_map, List.getElem?_map, List.getElem?_eq_getElem h, List.getD_eq_getElem?_getD, List.getElem?_eq_getElem h]; rfl
theorem rq_in {X : List Rq} {i : Nat} (h : i < X.length) : X.getD i rq0 ∈ X := by
  rw [List.getD_eq_getElem?_getD, List.getElem?_eq_getElem h]; exact List.getElem_mem h
structure WiA (l : List Rq) where
  i : Nat
  h : i ≤ l.length
  s : ∀ x ∈ l.take i, small x
def WiA.st (l : List Rq) (cuts : List Nat) (o c tk : Int) (take : Nat) (a : WiA l) : PS := { n := 201, env := [(61, .int .i64 a.i), (60, .int .i64 l.length), (59, .sl 4 (rqL l)), (13, .slt 4 (rqL (gdR o (l.take a.i))) 50), (12, .str (wAll tk (ws0 o c) (l.take a.i)).b), (10, .box 10 0), (9, .int .i64 o), (8, .bool false), (3, .int .u8 take), (2, .sl 1 (u8s cuts))], objs := [(10, some ((wAll tk (ws0 o c) (l.take a.i)).s.cs (.sl 1 (ints (wAll tk (ws0 o c) (l.take a.i)).s.q)) (wAll tk (ws0 o c) (l.take a.i)).s.mpv))], live := [(50, true)], nxt := 60 }
theorem tk_facts (n : Nat) (hn : n < 256) : Int.tmod (n : Int) 8 = (n : Int) % 8 ∧ IntKind.i64.wrap ((n : Int) % 8) = (n : Int) % 8 ∧ IntKind.i64.wrap (1 + (n : Int) % 8) = 1 + (n : Int) % 8 ∧ Int.tmod (n : Int) 5 = (n : Int) % 5 ∧ IntKind.i64.wrap ((n : Int) % 5) = (n : Int) % 5 := by
  refine ⟨Int.tmod_eq_emod_of_nonneg (by omega), wrap_i64_id (by omega) (by omega), wrap_i64_id (by omega) (by omega), Int.tmod_eq_emod_of_nonneg (by omega), wrap_i64_id (by omega) (by omega)⟩
set_option maxHeartbeats 8000000 in
theorem topWire_fs (big : Bool) (l : List Rq) (cuts : List Nat) (take : Nat) (hcu : ∀ c ∈ cuts, c < 256) (ht : take < 256) : Fsp Tryd.prog 5 [] 0 [.bool big, .sl 4 (rqL l), .sl 1 (u8s cuts), .int .u8 take] [] 0 (.bool true) := by
  cases k1 : decide ((20 : Int) < (l.length : Int))
  · cases k2 : decide ((300 : Int) < (cuts.length : Int))
    · have hl : l.length ≤ 20 := by simp at k1; omega
      have hcl : cuts.length ≤ 300 := by simp at k2; omega
      obtain ⟨a0, a1, a2, a3, a4⟩ := tk_facts take ht
      have hc : 1 ≤ 1 + (take : Int) % 8 ∧ 1 + (take : Int) % 8 ≤ 8 := by omega
      cases big
      · have hnew := new_fs 0 (1 + (take : Int) % 8)
        have e1 : newR 0 (1 + (take : Int) % 8) = .tup [({ sb0 with o := 0, c := 1 + (take : Int) % 8, out := bgn 0 } : Sb).pv, .int .i64 0] := by
          rw [newR, newS, if_neg (by decide), if_pos (by simp [isCl]; omega)]
        rw [e1] at hnew
        have htk := take_fs { sb0 with o := 0, c := 1 + (take : Int) % 8, out := bgn 0 }
        have hbg := bgn_fs 0
        have hbe : (bgn 0 == ([] : List UInt8)) = false := by decide
        generalize hcg : 1 + (take : Int) % 8 = c at *
        have hcz : c ≠ 0 := by omega
        have hb4 : (bgn 0).length ≤ 4 := by decide
        simp only [Sb.pv, Sb.cs, Sb.mpv, sb0] at hnew htk
        (refine Fsp.ofs (nx := 0) mixed Tryd.func5 rfl (by simp [Tryd.f5]) ?_; simp -implicitDefEqProofs only [push_cast, Tryd.f5, k1, k2, rqL_length, u8s_length, a0, a1, a2, hcg, seval])
        refine callE_p hnew ?_
        simp -implicitDefEqProofs only [push_cast, seval]
        refine callE_p htk ?_
        simp -implicitDefEqProofs only [push_cast, seval]
        refine callE_p hbg ?_
        simp -implicitDefEqProofs only [push_cast, bne_self_eq_false, hbe, rqL_length, seval]
        refine loopC_of (α := WiA l) (WiA.st l cuts 0 c ((take : Int) % 5) take) (fun a => l.length - a.i) ⟨0, Nat.zero_le _, fun x hx => by simp at hx⟩ ?_ ?_
        · (simp only [WiA.st, List.take_zero, wAll_0, ws0, sb0, Sb.cs, Sb.mpv, gdR_nil]; exact Wk.at _ _ _ [(10, 80)] [] [50] (by simp) (by simp [wkV, PV.el, PV.weak, PS.get, PS.obj, PS.lv, lkp_hit, lkp_miss, lkp_nil, lko, wkL, wkC, res1, ints, rqL]) (by simp [PS.get, PS.obj, PS.lv, lkp_hit, lkp_miss, lkp_nil, lko, wkL, wkC, PV.weak, wkL, wkC, res1, ints, rqL]))
        · rintro ⟨i, hi, hs⟩
          have hw := wi_all (o := 0) (c := c) (tk := (take : Int) % 5) hcz hb4 (l.take i).length (l.take i) rfl (by rw [List.length_take]; omega) hs
          simp only [WiA.st]
          simp -implicitDefEqProofs only [push_cast, rqL_length, seval]
          refine condC_split (fun g1 => ?_) (fun g1 => ?_)
          · have hlt : i < l.length := by simp at g1; omega
            have hwi : IntKind.i64.wrap ((i : Int) + 1) = ((i + 1 : Nat) : Int) := by (rw [wrap_i64_id (by omega) (by omega)]; rfl)
            have hg := rq_at hlt
            have htk' := rtake_sn hlt
            have hm := wAll_sn ((take : Int) % 5) (ws0 0 c) (l.take i) (l.getD i rq0)
            rw [← htk'] at hm
            generalize l.getD i rq0 = x at *
            have hti : (l.take i).length = i := by rw [List.length_take]; omega
            rw [hti, wstep] at hm
            have hxp : x.pv = .agg [.int .i64 x.C, .sl 1 (ints x.N), .str x.B, .sl 1 (ints x.L)] := rfl
            rw [hxp] at hg
            cases c3 : decide ((300 : Int) < (x.N.length : Int))
            · cases c1 : decide ((300 : Int) < (x.B.length : Int))
              · cases c2 : decide ((300 : Int) < (x.L.length : Int))
                · have hx : small x := ⟨by simp at c3; omega, by simp at c1; omega, by simp at c2; omega⟩
                  have hxF : x.Few := ⟨by have := hx.1; omega, by have := hx.2.1; omega, by have := hx.2.2; omega⟩
                  have hs' : ∀ y ∈ l.take (i + 1), small y := by
                    rw [htk']
                    intro y hy
                    rcases List.mem_append.1 hy with hy | hy
                    · exact hs y hy
                    · rw [List.mem_singleton.1 hy]; exact hx
                  have hgd0 := @gdR_bad 0 (l.take i) x
                  have hgd1 := @gdR_ok 0 (l.take i) x
                  rw [← htk'] at hgd0 hgd1
                  generalize wAll ((take : Int) % 5) (ws0 0 c) (l.take i) = a at *
                  obtain ⟨s, b⟩ := a
                  have hpl := packS_small (o := 0) hx
                  have hol := hw.l
                  rw [hti, List.length_append] at hol
                  have hq := hw.q
                  rw [hti] at hq
                  have hn := hw.n
                  have hgl := gdR_len 0 (l.take i)
                  rw [hti] at hgl
                  have hso : s.o = 0 := hw.o
                  have hsd : s.c ≠ 0 := hw.d
                  simp only at hol hq hn
                  have hok : SbOk s := ⟨by omega, by omega, by omega, by omega⟩
                  have hask := ask_fs s [x] hok (by simp) (fun y hy => by rw [List.mem_singleton.1 hy]; exact hxF)
                  obtain ⟨q1, q2, q3⟩ := askS_one (s := s) (x := x) hsd (by rw [hso]; omega)
                  have hck := pcheck_fs x hxF
                  rw [(packS_orders (o := 0) (o' := 0) rfl rfl x).1] at hck
                  rw [hso] at q1 q2 q3
                  rw [askR] at hask
                  simp only at hm
                  generalize askS s [x] = se at *
                  obtain ⟨s1, er⟩ := se
                  simp only at q1 q2 q3 hask hm
                  rw [← q1] at q2 q3 hck hgd0 hgd1
                  have htk2 := take_fs s1
                  simp only [Sb.pv, Sb.cs, rqL, List.map_cons, List.map_nil, hxp, mpv_out] at hask htk2
                  rw [hxp] at hck
                  have hi5 : Int.tmod (i : Int) 5 = (i : Int) % 5 := Int.tmod_eq_emod_of_nonneg (by omega)
                  have hgn : (rqL (gdR 0 (l.take i))).length = (gdR 0 (l.take i)).length := rqL_length _
                  simp -implicitDefEqProofs only [push_cast, hg, rqL_length, ints_length, c1, c2, c3, Sb.cs, mpv_weak, mpv_back1, mpv_tok1, mpv_cells, mpv_one, mpv_un, mpv_cnd, seval]
                  refine ⟨Int.ofNat_lt.2 hlt, ?_⟩
                  refine callE_pure hask (by rfl) (by rfl) (by first | rfl | simp -implicitDefEqProofs only [push_cast, mpv_weak, mpv_back1, mpv_tok1, mpv_cells, mpv_one, mpv_un, mpv_cnd, seval]) (by decide) (by first | rfl | simp -implicitDefEqProofs only [push_cast, mpv_weak, mpv_back1, mpv_tok1, mpv_cells, mpv_one, mpv_un, mpv_cnd, seval]) (fun _ => by first | rfl | simp -implicitDefEqProofs only [push_cast, mpv_weak, mpv_back1, mpv_tok1, mpv_cells, mpv_one, mpv_un, mpv_cnd, seval]) (by first | rfl | simp [gdOk, newToks]) ?_
                  simp -implicitDefEqProofs only [push_cast, mpv_weak, mpv_back1, mpv_tok1, mpv_cells, mpv_one, mpv_un, mpv_cnd, seval]
                  refine callE_p hck ?_
                  simp -implicitDefEqProofs only [push_cast, bne_self_eq_false, mpv_weak, mpv_back1, mpv_tok1, mpv_cells, mpv_one, mpv_un, mpv_cnd, seval]
                  cases k4 : (er == 0)
                  · have e4 : s1 = s := q2 (by simpa using k4)
                    have hgd := hgd0 k4
                    subst e4
                    simp -implicitDefEqProofs only [push_cast, mpv_weak, mpv_back1, mpv_tok1, mpv_cells, mpv_one, mpv_un, mpv_cnd, hi5, a3, a4, seval]
                    cases k5 : ((i : Int) % 5 == (take : Int) % 5)
                    · rw [if_neg (by simpa using k5)] at hm
                      simp -implicitDefEqProofs only [push_cast, mpv_weak, mpv_back1, mpv_tok1, mpv_cells, mpv_one, mpv_un, mpv_cnd, hwi, seval]
                      refine ⟨⟨i + 1, hlt, hs'⟩, Nat.sub_lt_sub_left hlt (Nat.lt_succ_self i), ?_⟩
                      (simp only [WiA.st, hm, hgd, Sb.cs, mpv_out, rqL_sn]; exact Wk.at _ _ _ [(10, 10)] [(50, 50)] [] (by simp) (by simp [wkV, PV.el, PV.weak, PS.get, PS.obj, PS.lv, lkp_hit, lkp_miss, lkp_nil, lko, wkL, res1, mpv_wkC, mpv_weak, wkC_str, mpv_out]) (by simp [PS.get, PS.obj, PS.lv, lkp_hit, lkp_miss, lkp_nil, lko, wkL, wkC_int, wkC_bool, wkC_sl, wkC_any, wkC_nilm, PV.weak, wkL, res1, mpv_wkC, mpv_weak, wkC_str, mpv_out]))
                    · rw [if_pos (by simpa using k5)] at hm
                      simp -implicitDefEqProofs only [push_cast, mpv_weak, mpv_back1, mpv_tok1, mpv_cells, mpv_one, mpv_un, mpv_cnd, hwi, seval]
                      refine callE_pure htk2 (by rfl) (by rfl) (by first | rfl | simp -implicitDefEqProofs only [push_cast, mpv_weak, mpv_back1, mpv_tok1, mpv_cells, mpv_one, mpv_un, mpv_cnd, seval]) (by decide) (by first | rfl | simp -implicitDefEqProofs only [push_cast, mpv_weak, mpv_back1, mpv_tok1, mpv_cells, mpv_one, mpv_un, mpv_cnd, seval]) (fun _ => by first | rfl | simp -implicitDefEqProofs only [push_cast, mpv_weak, mpv_back1, mpv_tok1, mpv_cells, mpv_one, mpv_un, mpv_cnd, seval]) (by first | rfl | simp [gdOk, newToks]) ?_
                      simp -implicitDefEqProofs only [push_cast, mpv_weak, mpv_back1, mpv_tok1, mpv_cells, mpv_one, mpv_un, mpv_cnd, hwi, seval]
                      refine ⟨by omega, ?_⟩
                      refine ⟨⟨i + 1, hlt, hs'⟩, Nat.sub_lt_sub_left hlt (Nat.lt_succ_self i), ?_⟩
                      (simp only [WiA.st, hm, hgd, Sb.cs, mpv_out, rqL_sn]; exact Wk.at _ _ _ [(10, 10)] [(50, 50)] [] (by simp) (by simp [wkV, PV.el, PV.weak, PS.get, PS.obj, PS.lv, lkp_hit, lkp_miss, lkp_nil, lko, wkL, res1, mpv_wkC, mpv_weak, wkC_str, mpv_out]) (by simp [PS.get, PS.obj, PS.lv, lkp_hit, lkp_miss, lkp_nil, lko, wkL, wkC_int, wkC_bool, wkC_sl, wkC_any, wkC_nilm, PV.weak, wkL, res1, mpv_wkC, mpv_weak, wkC_str, mpv_out]))
                  · have hgd := hgd1 k4
                    have hs1l : s1.out.length ≤ s.out.length + 2721 := by
                      obtain ⟨q31, q32⟩ := q3 (by simpa using k4)
                      rw [q31, q32, List.length_append]; omega
                    simp -implicitDefEqProofs only [push_cast, mpv_weak, mpv_back1, mpv_tok1, mpv_cells, mpv_one, mpv_un, mpv_cnd, hi5, a3, a4, rqL_length, seval]
                    refine ⟨by omega, by omega, ?_⟩
                    refine ⟨by (unfold drawOk; kernel_rfl), ?_⟩
                    cases k5 : ((i : Int) % 5 == (take : Int) % 5)
                    · rw [if_neg (by simpa using k5)] at hm
                      simp -implicitDefEqProofs only [push_cast, mpv_weak, mpv_back1, mpv_tok1, mpv_cells, mpv_one, mpv_un, mpv_cnd, hwi, hi5, a3, a4, seval]
                      refine ⟨⟨i + 1, hlt, hs'⟩, Nat.sub_lt_sub_left hlt (Nat.lt_succ_self i), ?_⟩
                      (simp only [WiA.st, hm, hgd, Sb.cs, mpv_out, rqL_sn]; exact Wk.at _ _ _ [(10, 10)] [(50, 240)] [] (by simp) (by simp [wkV, PV.el, PV.weak, PS.get, PS.obj, PS.lv, lkp_hit, lkp_miss, lkp_nil, lko, wkL, res1, mpv_wkC, mpv_weak, wkC_str, mpv_out]) (by simp [PS.get, PS.obj, PS.lv, lkp_hit, lkp_miss, lkp_nil, lko, wkL, wkC_int, wkC_bool, wkC_sl, wkC_any, wkC_nilm, PV.weak, wkL, res1, mpv_wkC, mpv_weak, wkC_str, mpv_out]))
                    · rw [if_pos (by simpa using k5)] at hm
                      simp -implicitDefEqProofs only [push_cast, mpv_weak, mpv_back1, mpv_tok1, mpv_cells, mpv_one, mpv_un, mpv_cnd, hi5, a3, a4, seval]
                      refine callE_pure htk2 (by rfl) (by rfl) (by first | rfl | simp -implicitDefEqProofs only [push_cast, mpv_weak, mpv_back1, mpv_tok1, mpv_cells, mpv_one, mpv_un, mpv_cnd, seval]) (by decide) (by first | rfl | simp -implicitDefEqProofs only [push_cast, mpv_weak, mpv_back1, mpv_tok1, mpv_cells, mpv_one, mpv_un, mpv_cnd, seval]) (fun _ => by first | rfl | simp -implicitDefEqProofs only [push_cast, mpv_weak, mpv_back1, mpv_tok1, mpv_cells, mpv_one, mpv_un, mpv_cnd, seval]) (by first | rfl | simp [gdOk, newToks]) ?_
                      simp -implicitDefEqProofs only [push_cast, mpv_weak, mpv_back1, mpv_tok1, mpv_cells, mpv_one, mpv_un, mpv_cnd, hwi, seval]
                      refine ⟨by omega, ?_⟩
                      refine ⟨⟨i + 1, hlt, hs'⟩, Nat.sub_lt_sub_left hlt (Nat.lt_succ_self i), ?_⟩
                      (simp only [WiA.st, hm, hgd, Sb.cs, mpv_out, rqL_sn]; exact Wk.at _ _ _ [(10, 10)] [(50, 240)] [] (by simp) (by simp [wkV, PV.el, PV.weak, PS.get, PS.obj, PS.lv, lkp_hit, lkp_miss, lkp_nil, lko, wkL, res1, mpv_wkC, mpv_weak, wkC_str, mpv_out]) (by simp [PS.get, PS.obj, PS.lv, lkp_hit, lkp_miss, lkp_nil, lko, wkL, wkC_int, wkC_bool, wkC_sl, wkC_any, wkC_nilm, PV.weak, wkL, res1, mpv_wkC, mpv_weak, wkC_str, mpv_out]))
                · simp -implicitDefEqProofs only [push_cast, hg, rqL_length, ints_length, c1, c2, c3, seval]
                  exact Int.ofNat_lt.2 hlt
              · simp -implicitDefEqProofs only [push_cast, hg, rqL_length, ints_length, c1, c3, seval]
                exact Int.ofNat_lt.2 hlt
            · simp -implicitDefEqProofs only [push_cast, hg, rqL_length, ints_length, c3, seval]
              exact Int.ofNat_lt.2 hlt
          · have hie : i = l.length := by simp at g1; omega
            subst hie
            rw [List.take_length] at hw hs ⊢
            generalize wAll ((take : Int) % 5) (ws0 0 c) l = a at *
            obtain ⟨s, b⟩ := a
            have hol := hw.l
            have hbb := hw.b
            have hn := hw.n
            have hgl := gdR_len 0 l
            simp only at hol hbb hn
            rw [List.length_append] at hol
            have htk3 := take_fs s
            have hse := sent_fs { s with out := [] }
            have hA := ask_st (o := 0) (by decide) (R := gdR 0 l) (fun x hx => gdR_mem hx)
            have hwr := wireT_fs (b ++ s.out) cuts (by rw [List.length_append]; omega) hcu hcl
            rw [hbb, hA.1, hA.2] at hwr
            have hde := dead_fs ⟨true, false, 0, []⟩
            have hre := rest_fs ⟨true, false, 0, []⟩ (by decide)
            have hor := order_fs ⟨true, false, 0, []⟩
            simp only [sm_pv, Sb.pv, Sb.cs, mpv_out] at hwr hde hre hor htk3 hse
            have hsm : ∀ x ∈ gdR 0 l, small x := fun x hx => hs x (List.mem_filter.1 hx).1
            generalize hG : gdR 0 l = G at *
            simp -implicitDefEqProofs only [push_cast, mpv_weak, mpv_back1, mpv_tok1, mpv_cells, mpv_one, mpv_un, mpv_cnd, Sb.cs, seval]
            refine callE_pure htk3 (by rfl) (by rfl) (by first | rfl | simp -implicitDefEqProofs only [push_cast, mpv_weak, mpv_back1, mpv_tok1, mpv_cells, mpv_one, mpv_un, mpv_cnd, seval]) (by decide) (by first | rfl | simp -implicitDefEqProofs only [push_cast, mpv_weak, mpv_back1, mpv_tok1, mpv_cells, mpv_one, mpv_un, mpv_cnd, seval]) (fun _ => by first | rfl | simp -implicitDefEqProofs only [push_cast, mpv_weak, mpv_back1, mpv_tok1, mpv_cells, mpv_one, mpv_un, mpv_cnd, seval]) (by first | rfl | simp [gdOk, newToks]) ?_
            simp -implicitDefEqProofs only [push_cast, mpv_weak, mpv_back1, mpv_tok1, mpv_cells, mpv_one, mpv_un, mpv_cnd, seval]
            refine ⟨by omega, ?_⟩
            rw [hbb]
            refine callE_p hwr ?_
            simp -implicitDefEqProofs only [push_cast, mpv_weak, mpv_back1, mpv_tok1, mpv_cells, mpv_one, mpv_un, mpv_cnd, itL_length, itR_len, rqL_length, bne_self_eq_false, seval]
            refine callE_pure hse (by rfl) (by rfl) (by first | rfl | simp -implicitDefEqProofs only [push_cast, mpv_weak, mpv_back1, mpv_tok1, mpv_cells, mpv_one, mpv_un, mpv_cnd, seval]) (by decide) (by first | rfl | simp -implicitDefEqProofs only [push_cast, mpv_weak, mpv_back1, mpv_tok1, mpv_cells, mpv_one, mpv_un, mpv_cnd, seval]) (fun _ => by first | rfl | simp -implicitDefEqProofs only [push_cast, mpv_weak, mpv_back1, mpv_tok1, mpv_cells, mpv_one, mpv_un, mpv_cnd, seval]) (by first | rfl | simp [gdOk, newToks]) ?_
            simp -implicitDefEqProofs only [push_cast, mpv_weak, mpv_back1, mpv_tok1, mpv_cells, mpv_one, mpv_un, mpv_cnd, itL_length, itR_len, rqL_length, hn, bne_self_eq_false, seval]
            refine callE_p hde ?_
            simp -implicitDefEqProofs only [push_cast, seval]
            refine callE_p hre ?_
            simp -implicitDefEqProofs only [push_cast, itL_length, itR_len, seval]
            refine loopC_of (α := W2 G) (W2.st G 0) (fun a => G.length - a.i) ⟨0, Nat.zero_le _⟩ ?_ ?_
            · (simp only [W2.st]; exact Wk.at _ _ _ [(22, 124)] [] [] (by simp) (by simp [wkV, PV.el, PV.weak, PS.get, PS.obj, PS.lv, lkp_hit, lkp_miss, lkp_nil, lko, wkL, wkC, res1]) (by simp [PS.get, PS.obj, PS.lv, lkp_hit, lkp_miss, lkp_nil, lko, wkL, wkC, PV.weak, wkL, wkC, res1]))
            · rintro ⟨i, hi⟩
              simp only [W2.st]
              simp -implicitDefEqProofs only [push_cast, itL_length, itR_len, seval]
              refine condC_split (fun g1 => ?_) (fun g1 => ?_)
              · have hlt : i < G.length := by simp at g1; omega
                have hwi : IntKind.i64.wrap ((i : Int) + 1) = ((i + 1 : Nat) : Int) := by (rw [wrap_i64_id (by omega) (by omega)]; rfl)
                have hg1 := rq_at hlt
                have hg2 := itr_at hlt
                have hx := hsm _ (rq_in hlt)
                generalize G.getD i rq0 = x at *
                have hxF : x.Few := ⟨by have := hx.1; omega, by have := hx.2.1; omega, by have := hx.2.2; omega⟩
                have hps := packSame_fs x x hxF hxF
                rw [sameR_self] at hps
                rw [Rq.pv] at hg1 hps
                simp -implicitDefEqProofs only [push_cast, hg1, hg2, itL_length, itR_len, rqL_length, bne_self_eq_false, seval]
                (repeat (first | refine ⟨(by omega : _ ≤ _), ?_⟩ | refine ⟨(by omega : _ < _), ?_⟩ | refine ⟨by (unfold drawOk; kernel_rfl), ?_⟩ | refine ⟨(by simp; done), ?_⟩ | refine ⟨(by simp; omega), ?_⟩))
                refine callE_p hps ?_
                simp -implicitDefEqProofs only [push_cast, hwi, seval]
                try (refine ⟨by (unfold drawOk; kernel_rfl), ?_⟩)
                refine ⟨⟨i + 1, hlt⟩, Nat.sub_lt_sub_left hlt (Nat.lt_succ_self i), ?_⟩
                (simp only [W2.st]; exact Wk.at _ _ _ [(22, 22)] [] [] (by simp) (by simp [wkV, PV.el, PV.weak, PS.get, PS.obj, PS.lv, lkp_hit, lkp_miss, lkp_nil, lko, wkL, wkC, res1]) (by simp [PS.get, PS.obj, PS.lv, lkp_hit, lkp_miss, lkp_nil, lko, wkL, wkC, PV.weak, wkL, wkC, res1]))
              · have hie : i = G.length := by simp at g1; omega
                subst hie
                simp -implicitDefEqProofs only [push_cast, seval]
                refine callE_p hor ?_
                simp -implicitDefEqProofs only [push_cast, seval]
                all_goals (first | done | rfl | exact ⟨_, rfl, by simp [wkL, res2, res1, PV.weak, PV.el]⟩ | (simp [wkL, res2, res1, PV.weak, PV.el]; done))
      · have hnew := new_fs 1 (1 + (take : Int) % 8)
        have e1 : newR 1 (1 + (take : Int) % 8) = .tup [({ sb0 with o := 1, c := 1 + (take : Int) % 8, out := bgn 1 } : Sb).pv, .int .i64 0] := by
          rw [newR, newS, if_neg (by decide), if_pos (by simp [isCl]; omega)]
        rw [e1] at hnew
        have htk := take_fs { sb0 with o := 1, c := 1 + (take : Int) % 8, out := bgn 1 }
        have hbg := bgn_fs 1
        have hbe : (bgn 1 == ([] : List UInt8)) = false := by decide
        generalize hcg : 1 + (take : Int) % 8 = c at *
        have hcz : c ≠ 0 := by omega
        have hb4 : (bgn 1).length ≤ 4 := by decide
        simp only [Sb.pv, Sb.cs, Sb.mpv, sb0] at hnew htk
        (refine Fsp.ofs (nx := 0) mixed Tryd.func5 rfl (by simp [Tryd.f5]) ?_; simp -implicitDefEqProofs only [push_cast, Tryd.f5, k1, k2, rqL_length, u8s_length, a0, a1, a2, hcg, seval])
        refine callE_p hnew ?_
        simp -implicitDefEqProofs only [push_cast, seval]
        refine callE_p htk ?_
        simp -implicitDefEqProofs only [push_cast, seval]
        refine callE_p hbg ?_
        simp -implicitDefEqProofs only [push_cast, bne_self_eq_false, hbe, rqL_length, seval]
        refine loopC_of (α := WiA l) (WiA.st l cuts 1 c ((take : Int) % 5) take) (fun a => l.length - a.i) ⟨0, Nat.zero_le _, fun x hx => by simp at hx⟩ ?_ ?_
        · (simp only [WiA.st, List.take_zero, wAll_0, ws0, sb0, Sb.cs, Sb.mpv, gdR_nil]; exact Wk.at _ _ _ [(10, 84)] [] [50] (by simp) (by simp [wkV, PV.el, PV.weak, PS.get, PS.obj, PS.lv, lkp_hit, lkp_miss, lkp_nil, lko, wkL, wkC, res1, ints, rqL]) (by simp [PS.get, PS.obj, PS.lv, lkp_hit, lkp_miss, lkp_nil, lko, wkL, wkC, PV.weak, wkL, wkC, res1, ints, rqL]))
        · rintro ⟨i, hi, hs⟩
          have hw := wi_all (o := 1) (c := c) (tk := (take : Int) % 5) hcz hb4 (l.take i).length (l.take i) rfl (by rw [List.length_take]; omega) hs
          simp only [WiA.st]
          simp -implicitDefEqProofs only [push_cast, rqL_length, seval]
          refine condC_split (fun g1 => ?_) (fun g1 => ?_)
          · have hlt : i < l.length := by simp at g1; omega
            have hwi : IntKind.i64.wrap ((i : Int) + 1) = ((i + 1 : Nat) : Int) := by (rw [wrap_i64_id (by omega) (by omega)]; rfl)
            have hg := rq_at hlt
            have htk' := rtake_sn hlt
            have hm := wAll_sn ((take : Int) % 5) (ws0 1 c) (l.take i) (l.getD i rq0)
            rw [← htk'] at hm
            generalize l.getD i rq0 = x at *
            have hti : (l.take i).length = i := by rw [List.length_take]; omega
            rw [hti, wstep] at hm
            have hxp : x.pv = .agg [.int .i64 x.C, .sl 1 (ints x.N), .str x.B, .sl 1 (ints x.L)] := rfl
            rw [hxp] at hg
            cases c3 : decide ((300 : Int) < (x.N.length : Int))
            · cases c1 : decide ((300 : Int) < (x.B.length : Int))
              · cases c2 : decide ((300 : Int) < (x.L.length : Int))
                · have hx : small x := ⟨by simp at c3; omega, by simp at c1; omega, by simp at c2; omega⟩
                  have hxF : x.Few := ⟨by have := hx.1; omega, by have := hx.2.1; omega, by have := hx.2.2; omega⟩
                  have hs' : ∀ y ∈ l.take (i + 1), small y := by
                    rw [htk']
                    intro y hy
                    rcases List.mem_append.1 hy with hy | hy
                    · exact hs y hy
                    · rw [List.mem_singleton.1 hy]; exact hx
                  have hgd0 := @gdR_bad 1 (l.take i) x
                  have hgd1 := @gdR_ok 1 (l.take i) x
                  rw [← htk'] at hgd0 hgd1
                  generalize wAll ((take : Int) % 5) (ws0 1 c) (l.take i) = a at *
                  obtain ⟨s, b⟩ := a
                  have hpl := packS_small (o := 1) hx
                  have hol := hw.l
                  rw [hti, List.length_append] at hol
                  have hq := hw.q
                  rw [hti] at hq
                  have hn := hw.n
                  have hgl := gdR_len 1 (l.take i)
                  rw [hti] at hgl
                  have hso : s.o = 1 := hw.o
                  have hsd : s.c ≠ 0 := hw.d
                  simp only at hol hq hn
                  have hok : SbOk s := ⟨by omega, by omega, by omega, by omega⟩
                  have hask := ask_fs s [x] hok (by simp) (fun y hy => by rw [List.mem_singleton.1 hy]; exact hxF)
                  obtain ⟨q1, q2, q3⟩ := askS_one (s := s) (x := x) hsd (by rw [hso]; omega)
                  have hck := pcheck_fs x hxF
                  rw [(packS_orders (o := 0) (o' := 1) rfl rfl x).1] at hck
                  rw [hso] at q1 q2 q3
                  rw [askR] at hask
                  simp only at hm
                  generalize askS s [x] = se at *
                  obtain ⟨s1, er⟩ := se
                  simp only at q1 q2 q3 hask hm
                  rw [← q1] at q2 q3 hck hgd0 hgd1
                  have htk2 := take_fs s1
                  simp only [Sb.pv, Sb.cs, rqL, List.map_cons, List.map_nil, hxp, mpv_out] at hask htk2
                  rw [hxp] at hck
                  have hi5 : Int.tmod (i : Int) 5 = (i : Int) % 5 := Int.tmod_eq_emod_of_nonneg (by omega)
                  have hgn : (rqL (gdR 1 (l.take i))).length = (gdR 1 (l.take i)).length := rqL_length _
                  simp -implicitDefEqProofs only [push_cast, hg, rqL_length, ints_length, c1, c2, c3, Sb.cs, mpv_weak, mpv_back1, mpv_tok1, mpv_cells, mpv_one, mpv_un, mpv_cnd, seval]
                  refine ⟨Int.ofNat_lt.2 hlt, ?_⟩
                  refine callE_pure hask (by rfl) (by rfl) (by first | rfl | simp -implicitDefEqProofs only [push_cast, mpv_weak, mpv_back1, mpv_tok1, mpv_cells, mpv_one, mpv_un, mpv_cnd, seval]) (by decide) (by first | rfl | simp -implicitDefEqProofs only [push_cast, mpv_weak, mpv_back1, mpv_tok1, mpv_cells, mpv_one, mpv_un, mpv_cnd, seval]) (fun _ => by first | rfl | simp -implicitDefEqProofs only [push_cast, mpv_weak, mpv_back1, mpv_tok1, mpv_cells, mpv_one, mpv_un, mpv_cnd, seval]) (by first | rfl | simp [gdOk, newToks]) ?_
                  simp -implicitDefEqProofs only [push_cast, mpv_weak, mpv_back1, mpv_tok1, mpv_cells, mpv_one, mpv_un, mpv_cnd, seval]
                  refine callE_p hck ?_
                  simp -implicitDefEqProofs only [push_cast, bne_self_eq_false, mpv_weak, mpv_back1, mpv_tok1, mpv_cells, mpv_one, mpv_un, mpv_cnd, seval]
                  cases k4 : (er == 0)
                  · have e4 : s1 = s := q2 (by simpa using k4)
                    have hgd := hgd0 k4
                    subst e4
                    simp -implicitDefEqProofs only [push_cast, mpv_weak, mpv_back1, mpv_tok1, mpv_cells, mpv_one, mpv_un, mpv_cnd, hi5, a3, a4, seval]
                    cases k5 : ((i : Int) % 5 == (take : Int) % 5)
                    · rw [if_neg (by simpa using k5)] at hm
                      simp -implicitDefEqProofs only [push_cast, mpv_weak, mpv_back1, mpv_tok1, mpv_cells, mpv_one, mpv_un, mpv_cnd, hwi, seval]
                      refine ⟨⟨i + 1, hlt, hs'⟩, Nat.sub_lt_sub_left hlt (Nat.lt_succ_self i), ?_⟩
                      (simp only [WiA.st, hm, hgd, Sb.cs, mpv_out, rqL_sn]; exact Wk.at _ _ _ [(10, 10)] [(50, 50)] [] (by simp) (by simp [wkV, PV.el, PV.weak, PS.get, PS.obj, PS.lv, lkp_hit, lkp_miss, lkp_nil, lko, wkL, res1, mpv_wkC, mpv_weak, wkC_str, mpv_out]) (by simp [PS.get, PS.obj, PS.lv, lkp_hit, lkp_miss, lkp_nil, lko, wkL, wkC_int, wkC_bool, wkC_sl, wkC_any, wkC_nilm, PV.weak, wkL, res1, mpv_wkC, mpv_weak, wkC_str, mpv_out]))
                    · rw [if_pos (by simpa using k5)] at hm
                      simp -implicitDefEqProofs only [push_cast, mpv_weak, mpv_back1, mpv_tok1, mpv_cells, mpv_one, mpv_un, mpv_cnd, hwi, seval]
                      refine callE_pure htk2 (by rfl) (by rfl) (by first | rfl | simp -implicitDefEqProofs only [push_cast, mpv_weak, mpv_back1, mpv_tok1, mpv_cells, mpv_one, mpv_un, mpv_cnd, seval]) (by decide) (by first | rfl | simp -implicitDefEqProofs only [push_cast, mpv_weak, mpv_back1, mpv_tok1, mpv_cells, mpv_one, mpv_un, mpv_cnd, seval]) (fun _ => by first | rfl | simp -implicitDefEqProofs only [push_cast, mpv_weak, mpv_back1, mpv_tok1, mpv_cells, mpv_one, mpv_un, mpv_cnd, seval]) (by first | rfl | simp [gdOk, newToks]) ?_
                      simp -implicitDefEqProofs only [push_cast, mpv_weak, mpv_back1, mpv_tok1, mpv_cells, mpv_one, mpv_un, mpv_cnd, hwi, seval]
                      refine ⟨by omega, ?_⟩
                      refine ⟨⟨i + 1, hlt, hs'⟩, Nat.sub_lt_sub_left hlt (Nat.lt_succ_self i), ?_⟩
                      (simp only [WiA.st, hm, hgd, Sb.cs, mpv_out, rqL_sn]; exact Wk.at _ _ _ [(10, 10)] [(50, 50)] [] (by simp) (by simp [wkV, PV.el, PV.weak, PS.get, PS.obj, PS.lv, lkp_hit, lkp_miss, lkp_nil, lko, wkL, res1, mpv_wkC, mpv_weak, wkC_str, mpv_out]) (by simp [PS.get, PS.obj, PS.lv, lkp_hit, lkp_miss, lkp_nil, lko, wkL, wkC_int, wkC_bool, wkC_sl, wkC_any, wkC_nilm, PV.weak, wkL, res1, mpv_wkC, mpv_weak, wkC_str, mpv_out]))
                  · have hgd := hgd1 k4
                    have hs1l : s1.out.length ≤ s.out.length + 2721 := by
                      obtain ⟨q31, q32⟩ := q3 (by simpa using k4)
                      rw [q31, q32, List.length_append]; omega
                    simp -implicitDefEqProofs only [push_cast, mpv_weak, mpv_back1, mpv_tok1, mpv_cells, mpv_one, mpv_un, mpv_cnd, hi5, a3, a4, rqL_length, seval]
                    refine ⟨by omega, by omega, ?_⟩
                    refine ⟨by (unfold drawOk; kernel_rfl), ?_⟩
                    cases k5 : ((i : Int) % 5 == (take : Int) % 5)
                    · rw [if_neg (by simpa using k5)] at hm
                      simp -implicitDefEqProofs only [push_cast, mpv_weak, mpv_back1, mpv_tok1, mpv_cells, mpv_one, mpv_un, mpv_cnd, hwi, hi5, a3, a4, seval]
                      refine ⟨⟨i + 1, hlt, hs'⟩, Nat.sub_lt_sub_left hlt (Nat.lt_succ_self i), ?_⟩
                      (simp only [WiA.st, hm, hgd, Sb.cs, mpv_out, rqL_sn]; exact Wk.at _ _ _ [(10, 10)] [(50, 240)] [] (by simp) (by simp [wkV, PV.el, PV.weak, PS.get, PS.obj, PS.lv, lkp_hit, lkp_miss, lkp_nil, lko, wkL, res1, mpv_wkC, mpv_weak, wkC_str, mpv_out]) (by simp [PS.get, PS.obj, PS.lv, lkp_hit, lkp_miss, lkp_nil, lko, wkL, wkC_int, wkC_bool, wkC_sl, wkC_any, wkC_nilm, PV.weak, wkL, res1, mpv_wkC, mpv_weak, wkC_str, mpv_out]))
                    · rw [if_pos (by simpa using k5)] at hm
                      simp -implicitDefEqProofs only [push_cast, mpv_weak, mpv_back1, mpv_tok1, mpv_cells, mpv_one, mpv_un, mpv_cnd, hi5, a3, a4, seval]
                      refine callE_pure htk2 (by rfl) (by rfl) (by first | rfl | simp -implicitDefEqProofs only [push_cast, mpv_weak, mpv_back1, mpv_tok1, mpv_cells, mpv_one, mpv_un, mpv_cnd, seval]) (by decide) (by first | rfl | simp -implicitDefEqProofs only [push_cast, mpv_weak, mpv_back1, mpv_tok1, mpv_cells, mpv_one, mpv_un, mpv_cnd, seval]) (fun _ => by first | rfl | simp -implicitDefEqProofs only [push_cast, mpv_weak, mpv_back1, mpv_tok1, mpv_cells, mpv_one, mpv_un, mpv_cnd, seval]) (by first | rfl | simp [gdOk, newToks]) ?_
                      simp -implicitDefEqProofs only [push_cast, mpv_weak, mpv_back1, mpv_tok1, mpv_cells, mpv_one, mpv_un, mpv_cnd, hwi, seval]
                      refine ⟨by omega, ?_⟩
                      refine ⟨⟨i + 1, hlt, hs'⟩, Nat.sub_lt_sub_left hlt (Nat.lt_succ_self i), ?_⟩
                      (simp only [WiA.st, hm, hgd, Sb.cs, mpv_out, rqL_sn]; exact Wk.at _ _ _ [(10, 10)] [(50, 240)] [] (by simp) (by simp [wkV, PV.el, PV.weak, PS.get, PS.obj, PS.lv, lkp_hit, lkp_miss, lkp_nil, lko, wkL, res1, mpv_wkC, mpv_weak, wkC_str, mpv_out]) (by simp [PS.get, PS.obj, PS.lv, lkp_hit, lkp_miss, lkp_nil, lko, wkL, wkC_int, wkC_bool, wkC_sl, wkC_any, wkC_nilm, PV.weak, wkL, res1, mpv_wkC, mpv_weak, wkC_str, mpv_out]))
                · simp -implicitDefEqProofs only [push_cast, hg, rqL_length, ints_length, c1, c2, c3, seval]
                  exact Int.ofNat_lt.2 hlt
              · simp -implicitDefEqProofs only [push_cast, hg, rqL_length, ints_length, c1, c3, seval]
                exact Int.ofNat_lt.2 hlt
            · simp -implicitDefEqProofs only [push_cast, hg, rqL_length, ints_length, c3, seval]
              exact Int.ofNat_lt.2 hlt
          · have hie : i = l.length := by simp at g1; omega
            subst hie
            rw [List.take_length] at hw hs ⊢
            generalize wAll ((take : Int) % 5) (ws0 1 c) l = a at *
            obtain ⟨s, b⟩ := a
            have hol := hw.l
            have hbb := hw.b
            have hn := hw.n
            have hgl := gdR_len 1 l
            simp only at hol hbb hn
            rw [List.length_append] at hol
            have htk3 := take_fs s
            have hse := sent_fs { s with out := [] }
            have hA := ask_st (o := 1) (by decide) (R := gdR 1 l) (fun x hx => gdR_mem hx)
            have hwr := wireT_fs (b ++ s.out) cuts (by rw [List.length_append]; omega) hcu hcl
            rw [hbb, hA.1, hA.2] at hwr
            have hde := dead_fs ⟨true, false, 1, []⟩
            have hre := rest_fs ⟨true, false, 1, []⟩ (by decide)
            have hor := order_fs ⟨true, false, 1, []⟩
            simp only [sm_pv, Sb.pv, Sb.cs, mpv_out] at hwr hde hre hor htk3 hse
            have hsm : ∀ x ∈ gdR 1 l, small x := fun x hx => hs x (List.mem_filter.1 hx).1
            generalize hG : gdR 1 l = G at *
            simp -implicitDefEqProofs only [push_cast, mpv_weak, mpv_back1, mpv_tok1, mpv_cells, mpv_one, mpv_un, mpv_cnd, Sb.cs, seval]
            refine callE_pure htk3 (by rfl) (by rfl) (by first | rfl | simp -implicitDefEqProofs only [push_cast, mpv_weak, mpv_back1, mpv_tok1, mpv_cells, mpv_one, mpv_un, mpv_cnd, seval]) (by decide) (by first | rfl | simp -implicitDefEqProofs only [push_cast, mpv_weak, mpv_back1, mpv_tok1, mpv_cells, mpv_one, mpv_un, mpv_cnd, seval]) (fun _ => by first | rfl | simp -implicitDefEqProofs only [push_cast, mpv_weak, mpv_back1, mpv_tok1, mpv_cells, mpv_one, mpv_un, mpv_cnd, seval]) (by first | rfl | simp [gdOk, newToks]) ?_
            simp -implicitDefEqProofs only [push_cast, mpv_weak, mpv_back1, mpv_tok1, mpv_cells, mpv_one, mpv_un, mpv_cnd, seval]
            refine ⟨by omega, ?_⟩
            rw [hbb]
            refine callE_p hwr ?_
            simp -implicitDefEqProofs only [push_cast, mpv_weak, mpv_back1, mpv_tok1, mpv_cells, mpv_one, mpv_un, mpv_cnd, itL_length, itR_len, rqL_length, bne_self_eq_false, seval]
            refine callE_pure hse (by rfl) (by rfl) (by first | rfl | simp -implicitDefEqProofs only [push_cast, mpv_weak, mpv_back1, mpv_tok1, mpv_cells, mpv_one, mpv_un, mpv_cnd, seval]) (by decide) (by first | rfl | simp -implicitDefEqProofs only [push_cast, mpv_weak, mpv_back1, mpv_tok1, mpv_cells, mpv_one, mpv_un, mpv_cnd, seval]) (fun _ => by first | rfl | simp -implicitDefEqProofs only [push_cast, mpv_weak, mpv_back1, mpv_tok1, mpv_cells, mpv_one, mpv_un, mpv_cnd, seval]) (by first | rfl | simp [gdOk, newToks]) ?_
            simp -implicitDefEqProofs only [push_cast, mpv_weak, mpv_back1, mpv_tok1, mpv_cells, mpv_one, mpv_un, mpv_cnd, itL_length, itR_len, rqL_length, hn, bne_self_eq_false, seval]
            refine callE_p hde ?_
            simp -implicitDefEqProofs only [push_cast, seval]
            refine callE_p hre ?_
            simp -implicitDefEqProofs only [push_cast, itL_length, itR_len, seval]
            refine loopC_of (α := W2 G) (W2.st G 1) (fun a => G.length - a.i) ⟨0, Nat.zero_le _⟩ ?_ ?_
            · (simp only [W2.st]; exact Wk.at _ _ _ [(22, 124)] [] [] (by simp) (by simp [wkV, PV.el, PV.weak, PS.get, PS.obj, PS.lv, lkp_hit, lkp_miss, lkp_nil, lko, wkL, wkC, res1]) (by simp [PS.get, PS.obj, PS.lv, lkp_hit, lkp_miss, lkp_nil, lko, wkL, wkC, PV.weak, wkL, wkC, res1]))
            · rintro ⟨i, hi⟩
              simp only [W2.st]
              simp -implicitDefEqProofs only [push_cast, itL_length, itR_len, seval]
              refine condC_split (fun g1 => ?_) (fun g1 => ?_)
              · have hlt : i < G.length := by simp at g1; omega
                have hwi : IntKind.i64.wrap ((i : Int) + 1) = ((i + 1 : Nat) : Int) := by (rw [wrap_i64_id (by omega) (by omega)]; rfl)
                have hg1 := rq_at hlt
                have hg2 := itr_at hlt
                have hx := hsm _ (rq_in hlt)
                generalize G.getD i rq0 = x at *
                have hxF : x.Few := ⟨by have := hx.1; omega, by have := hx.2.1; omega, by have := hx.2.2; omega⟩
                have hps := packSame_fs x x hxF hxF
                rw [sameR_self] at hps
                rw [Rq.pv] at hg1 hps
                simp -implicitDefEqProofs only [push_cast, hg1, hg2, itL_length, itR_len, rqL_length, bne_self_eq_false, seval]
                (repeat (first | refine ⟨(by omega : _ ≤ _), ?_⟩ | refine ⟨(by omega : _ < _), ?_⟩ | refine ⟨by (unfold drawOk; kernel_rfl), ?_⟩ | refine ⟨(by simp; done), ?_⟩ | refine ⟨(by simp; omega), ?_⟩))
                refine callE_p hps ?_
                simp -implicitDefEqProofs only [push_cast, hwi, seval]
                try (refine ⟨by (unfold drawOk; kernel_rfl), ?_⟩)
                refine ⟨⟨i + 1, hlt⟩, Nat.sub_lt_sub_left hlt (Nat.lt_succ_self i), ?_⟩
                (simp only [W2.st]; exact Wk.at _ _ _ [(22, 22)] [] [] (by simp) (by simp [wkV, PV.el, PV.weak, PS.get, PS.obj, PS.lv, lkp_hit, lkp_miss, lkp_nil, lko, wkL, wkC, res1]) (by simp [PS.get, PS.obj, PS.lv, lkp_hit, lkp_miss, lkp_nil, lko, wkL, wkC, PV.weak, wkL, wkC, res1]))
              · have hie : i = G.length := by simp at g1; omega
                subst hie
                simp -implicitDefEqProofs only [push_cast, seval]
                refine callE_p hor ?_
                simp -implicitDefEqProofs only [push_cast, seval]
                all_goals (first | done | rfl | exact ⟨_, rfl, by simp [wkL, res2, res1, PV.weak, PV.el]⟩ | (simp [wkL, res2, res1, PV.weak, PV.el]; done))
    · (refine Fsp.ofs (nx := 0) mixed Tryd.func5 rfl (by simp [Tryd.f5]) ?_; simp -implicitDefEqProofs only [push_cast, Tryd.f5, k1, k2, rqL_length, u8s_length, seval])
      all_goals (first | done | rfl | exact ⟨_, rfl, by simp [wkL, res2, res1, PV.weak, PV.el]⟩ | (simp [wkL, res2, res1, PV.weak, PV.el]; done))
  · (refine Fsp.ofs (nx := 0) mixed Tryd.func5 rfl (by simp [Tryd.f5]) ?_; simp -implicitDefEqProofs only [push_cast, Tryd.f5, k1, rqL_length, u8s_length, seval])
    all_goals (first | done | rfl | exact ⟨_, rfl, by simp [wkL, res2, res1, PV.weak, PV.el]⟩ | (simp [wkL, res2, res1, PV.weak, PV.el]; done))
end Go.Proofs.Sh

/- TopWire, as its arguments are read. -/
set_option linter.unusedVariables false
namespace Go.Proofs.Sh
open Go.Pv
theorem topWireX_fs (big : Bool) (l : List Rq) (cuts : List Nat) (take : Nat) (hcu : ∀ c ∈ cuts, c < 256) (hl : cuts.length ≤ maxLen) (ht : take < 256) : Fsp Tryd.prog 5 [] 0 [.bool big, .sl 4 (rqL l), .sl 1 (u8s cuts), .int .u8 take] [] 0 (.bool true) := topWire_fs big l cuts take hcu ht
end Go.Proofs.Sh
