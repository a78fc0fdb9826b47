/- StubGets. -/
import Derived.Test.YtbpjoeopnaggoaaDoorSbCorr2
import Derived.Test.YtbpjoeopnaggoaaDoorSbGoW
import Derived.Test.YtbpjoeopnaggoaaDoorSbWide
set_option maxRecDepth 100000
set_option linter.unusedSimpArgs false
set_option linter.unusedVariables false
namespace Go.Proofs.Sh
open Go.Pv

theorem wkC_slt (β τ : List (Nat × Nat)) (em : List Nat) (q : PV) (sz : Nat) (es : List PV) (k' : Nat) : wkC β τ em q (.slt sz es k') = (match q with | .slt sz' es' k => sz' = sz ∧ es' = es ∧ lko τ k' = some k | .nilsl => es = [] ∧ k' ∈ em | _ => False) := rfl
theorem wkC_nilsl (β τ : List (Nat × Nat)) (em : List Nat) (q : PV) : wkC β τ em q .nilsl = (q.weak = .nilsl) := rfl
theorem feed_dead (s : Sb) : feedS (failS s) [] = (failS s, [], 20) := by
  rw [feedS, if_pos (by simp [failS])]
def md0 : Md := ⟨[], [], [], 0⟩
theorem corr0 (s : Sb) (hn : s.n = 0) (hq : s.q = []) (hl : s.l = 0) : Corr s md0 := ⟨rfl, rfl, hn, hq, hl, Int.le_refl 0, Int.le_refl 0, by simp [md0], fun k hk _ => by simp [md0] at hk⟩
def cA (a : Ac) : Nat := a.A.length
theorem frs_len (X : List Rq) : X.length ≤ psum fr X X.length := by
  rw [psum, List.take_length]
  induction X with
  | nil => simp
  | cons x X ih =>
    rw [List.length_cons, List.map_cons, List.sum_cons]
    have : 1 ≤ fr x := by unfold fr; omega
    omega
theorem fos_len (X : List Ot) : X.length ≤ psum fo X X.length := by
  rw [psum, List.take_length]
  induction X with
  | nil => simp
  | cons x X ih =>
    rw [List.length_cons, List.map_cons, List.sum_cons]
    have : 1 ≤ fo x := by unfold fo; omega
    omega
theorem bL_back (β : List Nat) (n m : Nat) (l : List Bool) : (bL l).map (PV.back1 β n m) = bL l := by
  unfold bL
  rw [List.map_map]
  rfl
theorem frz1_mpv (m : Nat) (ps : List PV) (s : Sb) : frz1 m ps s.mpv = s.mpv := by unfold Sb.mpv; cases s.m <;> rfl
theorem frz1_int (m : Nat) (ps : List PV) (k : IntKind) (n : Int) : frz1 m ps (.int k n) = .int k n := rfl
theorem frz1_str (m : Nat) (ps : List PV) (s : List UInt8) : frz1 m ps (.str s) = .str s := rfl
theorem frz1_bool (m : Nat) (ps : List PV) (b : Bool) : frz1 m ps (.bool b) = .bool b := rfl
theorem frz1_sl (m : Nat) (ps : List PV) (z : Nat) (l : List PV) : frz1 m ps (.sl z l) = .sl z l := rfl
theorem frz1_nilsl (m : Nat) (ps : List PV) : frz1 m ps .nilsl = .nilsl := rfl
theorem frz1_nilm (m : Nat) (ps : List PV) : frz1 m ps .nilm = .nilm := rfl
theorem frz1_box (m i off : Nat) (ps : List PV) (h : i ≠ m) : frz1 m ps (.box i off) = .box i off := by rw [frz1, if_neg h]
theorem frz1_slb (m n sz : Nat) (ps : List PV) (h : 0 + n * sz ≤ ps.length) : frz1 m ps (.slb m 0 n sz) = slOr sz (chunk sz n (ps.drop 0)) := by rw [frz1, if_pos rfl, if_pos h]
theorem dp_int (f : PV → PV) (k : IntKind) (n : Int) : deep3 f (.int k n) = f (.int k n) := rfl
theorem dp_bool (f : PV → PV) (b : Bool) : deep3 f (.bool b) = f (.bool b) := rfl
theorem dp_box (f : PV → PV) (i off : Nat) : deep3 f (.box i off) = f (.box i off) := rfl
theorem dp_slb (f : PV → PV) (i off n sz : Nat) : deep3 f (.slb i off n sz) = f (.slb i off n sz) := rfl
theorem dp_nilsl (f : PV → PV) : deep3 f .nilsl = f .nilsl := rfl
theorem dp_sl (f : PV → PV) (z : Nat) (l : List PV) : deep3 f (.sl z l) = f (.sl z l) := rfl
theorem dp_slt (f : PV → PV) (z : Nat) (l : List PV) (k : Nat) : deep3 f (.slt z l k) = f (.slt z l k) := rfl
theorem frz1_slt (m : Nat) (ps : List PV) (z : Nat) (l : List PV) (k : Nat) : frz1 m ps (.slt z l k) = .slt z l k := rfl
theorem bL_chunk (l : List Bool) : chunk 1 l.length (bL l) = bL l := by
  induction l with
  | nil => rfl
  | cons b l ih =>
    show chunk 1 (l.length + 1) (.bool b :: bL l) = _
    rw [chunk, if_pos rfl] <;> first | exact congrArg _ ih | skip
theorem come_C (m : Md) (K n : Int) : (m.come K n).C = m.C := rfl
theorem come_R (m : Md) (K n : Int) : (m.come K n).R = m.R := rfl
theorem come_l (m : Md) (K n : Int) : (m.come K n).l = n := rfl
theorem up1 (n : Nat) : upto n 1 = [n] := rfl
theorem tell_kind {o : Int} {x : Ot} (h : (tellS o x).2 = 0) : x.K = 0 ∨ x.K = 1 ∨ x.K = 2 := by
  unfold tellS at h
  split at h
  · unfold tellP at h
    split at h
    · exact absurd h (by unfold mErr; split <;> decide)
    · rename_i f hf
      unfold mForm at hf
      split at hf
      · rename_i e; exact .inl e
      · split at hf
        · rename_i e; exact .inr (.inl e)
        · split at hf
          · rename_i e; exact .inr (.inr e)
          · cases hf
  · simp at h
theorem thd_len (o K C Q : Int) (n : Nat) : (thd o K C Q n).length = 8 := by
  simp [thd, encB_length]
theorem tell_bd {o : Int} {r : Ot} (h : (tellS o r).2 = 0) : (tellS o r).1.length ≤ 25 * fo r := by
  unfold tellS at h ⊢
  split
  · rename_i ho
    rw [if_pos ho] at h
    unfold tellP at h ⊢
    split
    · simp
    · rename_i f hf
      rw [hf] at h
      simp only at h
      unfold tellQ at h ⊢
      split
      · simp
      · split
        · simp
        · rename_i hE
          split
          · simp
          · obtain ⟨hok, -⟩ := mForm_some hf
            have := fmt_len (isOrd_of ho) f hok r.fd (by simpa using hE)
            simp only [Ot.fd] at this
            rw [List.length_append, thd_len, fo]
            simp only [Ot.fd] at *
            omega
  · simp
theorem tell_q {o : Int} {x : Ot} (h : (tellS o x).2 = 0) : 0 ≤ x.Q := by
  unfold tellS at h
  split at h
  · unfold tellP at h
    split at h
    · exact absurd h (by unfold mErr; split <;> decide)
    · unfold tellQ at h
      split at h
      · exact absurd h (by decide)
      · omega
  · exact absurd h (by decide)
theorem cat_bd {o : Int} : ∀ (M : List Ot), M.all (fun m => (tellS o m).2 == 0) = true → (cat o M).length ≤ 25 * psum fo M M.length
  | [], _ => by simp [cat]
  | m :: M, h => by
    rw [List.all_cons, Bool.and_eq_true] at h
    have h1 := tell_bd (beq_iff_eq.1 h.1)
    have h2 := cat_bd M h.2
    have e : cat o (m :: M) = (tellS o m).1 ++ cat o M := rfl
    have h3 : psum fo (m :: M) (m :: M).length = fo m + psum fo M M.length := by simp [psum]
    rw [e, List.length_append, h3]; omega
theorem cA_le (l : List Ac) (i : Nat) : psum cA l i ≤ psum fA l i := by
  unfold psum
  induction l.take i with
  | nil => simp
  | cons a l ih =>
    rw [List.map_cons, List.map_cons, List.sum_cons, List.sum_cons]
    have := frs_len a.A
    have : cA a ≤ fA a := by unfold cA fA; omega
    omega
/-- Behind so many acts. -/
structure Ga (o : Int) (l : List Ac) where
  i : Nat
  s : Sb
  m : Md
  hi : i ≤ l.length
  ho : s.o = o
  hc : s.c = 1
  hd : s.d = false
  hm : s.came = []
  hu : s.out.length ≤ 4
  co : Corr s m
  hn : m.C.length ≤ psum cA l i
def Ga.st {o : Int} {l : List Ac} (a : Ga o l) : PS := { n := 222, env := [(50, .int .i64 a.i), (49, .int .i64 l.length), (48, .sl 2 (acL l)), (8, .box 1 0), (6, .box 0 0), (5, .int .i64 o)], objs := [(0, some (a.s.cs (.sl 1 (ints a.s.q)) a.s.mpv)), (1, some a.m.cs)], live := [], nxt := 60 }
/-- Behind so many messages of an act. -/
structure Gb (I : List Ot) (m1 : Md) where
  j : Nat
  m : Md
  N : List Int
  T : Sb
  h : j ≤ I.length
  co : Corr T m
  hC : m.C.length = m1.C.length
  hN : N.length = j
  e : mplay m1 I = ((mplay m (I.drop j)).1, N ++ (mplay m (I.drop j)).2.1, (mplay m (I.drop j)).2.2)
def Gb.st (o : Int) (i : Nat) (l : List Ac) (s : Sb) (R : Sb × List Ot × Int) (X : List Rq) {I : List Ot} {m1 : Md} (a : Gb I m1) : PS := { n := 222, env := [(95, .int .i64 a.j), (94, .int .i64 I.length), (93, .sl 6 (oL I)), (21, .slt 1 (ints a.N) 50), (20, .bool false), (19, .int .i64 R.2.2), (18, .sl 6 (oL R.2.1)), (17, .box 3 0), (10, .box 2 0), (50, .int .i64 i), (49, .int .i64 l.length), (48, .sl 2 (acL l)), (8, .box 1 0), (6, .box 0 0), (5, .int .i64 o)], objs := [(0, some (s.cs (.sl 1 (ints s.q)) s.mpv)), (1, some a.m.cs), (2, some [.sl 4 (rqL X), .sl 6 (oL I)]), (3, some (R.1.cs (.sl 1 (ints R.1.q)) R.1.mpv))], live := [(50, true)], nxt := 60 }
structure Tc (M : List Ot) where
  j : Nat
  h : j ≤ M.length
def Gd.st (o : Int) (i : Nat) (l : List Ac) (s s2 : Sb) (m : Md) (X : List Rq) (I : List Ot) (N : List Int) {L : List Ot} (a : Tc L) : PS := { n := 222, env := [(160, .int .i64 a.j), (159, .int .i64 L.length), (158, .sl 6 (oL L)), (21, .sl 1 (ints N)), (17, .box 3 0), (10, .box 2 0), (50, .int .i64 i), (49, .int .i64 l.length), (48, .sl 2 (acL l)), (8, .box 1 0), (6, .box 0 0), (5, .int .i64 o)], objs := [(0, some (s.cs (.sl 1 (ints s.q)) s.mpv)), (1, some m.cs), (2, some [.sl 4 (rqL X), .sl 6 (oL I)]), (3, some (s2.cs (.sl 1 (ints s2.q)) s2.mpv))], live := [], nxt := 60 }
structure Te (q : List Int) where
  j : Nat
  h : j ≤ q.length
def Te.st (o : Int) (i : Nat) (l : List Ac) (s2 : Sb) (m : Md) {q : List Int} (a : Te q) : PS := { n := 222, env := [(207, .int .i64 a.j), (206, .int .i64 q.length), (31, .sl 1 (ints q)), (32, .sl 1 (ints q)), (50, .int .i64 i), (49, .int .i64 l.length), (48, .sl 2 (acL l)), (8, .box 1 0), (6, .box 0 0), (5, .int .i64 o)], objs := [(0, some (s2.cs (.sl 1 (ints s2.q)) s2.mpv)), (1, some m.cs)], live := [], nxt := 60 }
theorem zip_at {L I : List Ot} {N : List Int} {j : Nat} (h : L = List.zipWith (fun (x : Ot) (q : Int) => ({ x with Q := q } : Ot)) I N) (hN : N.length = I.length) (hj : j < I.length) : L.getD j ot0' = { I.getD j ot0' with Q := N.getD j 0 } := by
  rw [h]
  simp only [List.getD_eq_getElem?_getD]
  rw [List.getElem?_zipWith, List.getElem?_eq_getElem hj, List.getElem?_eq_getElem (by omega : j < N.length)]
  rfl
set_option maxHeartbeats 16000000 in
theorem stubGets_fs (k : Nat) (hk : k < 256) (l : List Ac) (hf0 : fewN l ≤ 1000000000000000) (hl : l.length ≤ 1000000000000000) (hQ : ∀ a ∈ l, ∀ x ∈ a.I, x.Wf) : Fsp Tryd.prog 8 [] 0 [.int .u8 k, .sl 2 (acL l)] [] 0 (.bool true) := by
  have hf := few_fs l hf0 hl
  cases k1 : decide (((fewN l : Nat) : Int) ≤ 2000)
  · rw [k1] at hf
    (refine Fsp.ofs (nx := 0) mixed Tryd.func8 rfl (by simp [Tryd.f8]) ?_; simp -implicitDefEqProofs only [push_cast, Tryd.f8, seval])
    refine callE_p hf ?_
    simp -implicitDefEqProofs only [push_cast, seval]
    refine callE_p awake_fs ?_
    simp -implicitDefEqProofs only [push_cast, seval]
  · rw [k1] at hf
    have hfw : fewN l ≤ 2000 := by simp at k1; omega
    obtain ⟨o, ho⟩ : ∃ o, o = k % 2 := ⟨_, rfl⟩
    have a1 : Int.tmod (k : Int) 2 = (o : Int) := by rw [Int.tmod_eq_emod_of_nonneg (by omega)]; omega
    have a3 : IntKind.u8.wrap (o : Int) = (o : Int) := wrap_u8_id (by omega) (by omega)
    have a5 : IntKind.i64.wrap (o : Int) = (o : Int) := wrap_i64_id (by omega) (by omega)
    have hN := new_fs (o : Int) 1
    have hS : newS (o : Int) 1 = ({ sb0 with o := (o : Int), c := 1, out := bgn (o : Int) }, 0) ∧ (bgn (o : Int)).length ≤ 4 := by
      have : o = 0 ∨ o = 1 := by omega
      rcases this with rfl | rfl <;> exact ⟨by rfl, by decide⟩
    rw [newR, hS.1] at hN
    have hbl := hS.2
    generalize bgn (o : Int) = B0 at *
    simp only [Sb.pv, Sb.cs, Sb.mpv, sb0, ints, List.map] at hN
    (refine Fsp.ofs (nx := 0) mixed Tryd.func8 rfl (by simp [Tryd.f8]) ?_; simp -implicitDefEqProofs only [push_cast, Tryd.f8, a1, a3, a5, seval])
    refine callE_p hf ?_
    simp -implicitDefEqProofs only [push_cast, a1, a3, a5, seval]
    refine callE_p hN ?_
    simp -implicitDefEqProofs only [push_cast, acL_length, seval]
    refine loopC_of (α := Ga o l) Ga.st (fun a => l.length - a.i) ⟨0, { sb0 with o := (o : Int), c := 1, out := B0 }, md0, Nat.zero_le _, rfl, rfl, rfl, rfl, hbl, corr0 _ rfl rfl rfl, Nat.zero_le _⟩ (Wk.trans (Wk.nlB (id := 72) (ps := [.nilsl, .nilsl, .nilsl, .int .i64 0]) (qs := md0.cs) (by simp [PS.obj, lkp_hit, lkp_miss]) (by simp [nlCs, nlC, md0, Md.cs, ints, bL])) ?_) ?_
    · skip
      (simp only [Ga.st, Sb.cs, sb0, Md.cs, md0]; exact Wk.at _ _ _ [(0, 52), (1, 72)] [] [] (by simp) (by simp [wkV, PV.el, PV.weak, PS.get, PS.obj, PS.lv, lkp_hit, lkp_miss, lkp_nil, lko, wkL, res1, ints, bL, Sb.mpv, wkC, acL_length]) (by simp [PS.get, PS.obj, PS.lv, lkp_hit, lkp_miss, lkp_nil, lko, wkL, mpv_wkC, wkC_int, wkC_str, wkC_bool, wkC_sl, wkC_mpure, wkC_any, PV.weak, wkL, res1, ints, bL, Sb.mpv, wkC, acL_length]))
    · rintro ⟨i, s, m, hi, hso, hc, hd, hm, hu, co, hn⟩
      simp -implicitDefEqProofs only [push_cast, Ga.st, Sb.cs, Md.cs, acL_length, seval]
      refine condC_split (fun g1 => ?_) (fun g1 => ?_)
      · have hlt : i < l.length := by simp at g1; omega
        have hg := ac_at hlt
        have hal := getD_mem ac0 hlt
        have hps := psum_sn cA ac0 hlt
        have hfa := psum_mem fA hal
        have hgI0 := hQ _ hal
        have hpl := Nat.le_trans (cA_le l (i + 1)) (psum_le fA l (i + 1))
        have hfe : psum fA l l.length ≤ 2000 := hfw
        generalize l.getD i ac0 = a at *
        obtain ⟨X, I⟩ := a
        simp only [Ac.pv] at hg
        have hcX : cA ⟨X, I⟩ = X.length := rfl
        have hfX : fA ⟨X, I⟩ = 1 + psum fr X X.length + psum fo I I.length := rfl
        have hXl := frs_len X
        have hIl := fos_len I
        have hXF : ∀ x ∈ X, x.Few := fun x hx => by
          have := psum_mem fr hx
          have e : fr x = 1 + x.N.length + x.L.length + x.B.length := rfl
          exact ⟨by omega, by omega, by omega⟩
        have hql : s.q.length ≤ 2000 := by rw [co.q]; exact Nat.le_trans (wl_length _ _) (by omega)
        have hgI : ∀ x ∈ I, x.Good := fun x hx => by
          have := psum_mem fo hx
          have e : fo x = 1 + x.N.length + x.L.length + x.B.length := rfl
          exact ⟨by omega, by omega, by omega, hgI0 x hx⟩
        have hak := askM_fs s X ⟨by omega, by omega, by rw [co.n]; omega, by rw [co.n]; omega⟩ (by omega) hXF
        have has := asks_fs o m co.r co.d X (by omega) hXF
        have wi : IntKind.i64.wrap ((i : Int) + 1) = (i : Int) + 1 := wrap_i64_id (by omega) (by omega)
        have hput := asks_put o X m s.out (by omega)
        cases hok : (asksM o m X).2
        · have hE : ¬ askE s X = 0 := by
            rw [askE, if_neg (by rw [hc]; decide), hso]
            intro h
            have := hput.2 h
            rw [hok] at this
            cases this
          have hA : askS s X = (s, askE s X) := by rw [askS, if_neg hE]
          rw [hok] at has
          rw [askR, hA] at hak
          have hm1 : m.C.length ≤ psum cA l (i + 1) := by omega
          generalize askE s X = ee at *
          generalize (asksM o m X).1 = mx at *
          have ht1 := takeM_fs s
          simp only [Sb.pv, Sb.cs, Md.pv, Md.cs, show ({ s with out := [] } : Sb).mpv = s.mpv from rfl] at ht1 hak has
          simp -implicitDefEqProofs only [push_cast, hg, acL_length, seval]
          (repeat (first | refine ⟨(by omega : _ ≤ _), ?_⟩ | refine ⟨(by omega : _ < _), ?_⟩ | refine ⟨by (unfold drawOk; kernel_rfl), ?_⟩))
          refine callE_pure hak (by rfl) (by rfl) (by first | rfl | (simp only [List.map_cons, List.map_nil, List.toList_toArray, PS.ev, PS.get, lkp_hit, lkp_miss, lkp_nil, PV.un, PV.el, mpv_weak]; rfl)) (by decide) (by first | rfl | (simp only [tokLt, tokLt2, List.all_cons, List.all_nil, mpv_tok1]; rfl)) (fun _ => by rfl) (by first | rfl | simp [gdOk, newToks]) ?_
          simp -implicitDefEqProofs only [push_cast, mpv_weak, mpv_back1, mpv_tok1, mpv_cells, mpv_one, mpv_un, mpv_cnd, seval]
          refine callE_pure has (by rfl) (by rfl) (by first | rfl | (simp only [List.map_cons, List.map_nil, List.toList_toArray, PS.ev, PS.get, lkp_hit, lkp_miss, lkp_nil, PV.un, PV.el, mpv_weak]; rfl)) (by decide) (by first | rfl | (simp only [tokLt, tokLt2, List.all_cons, List.all_nil, mpv_tok1]; rfl)) (fun _ => by rfl) (by first | rfl | simp [gdOk, newToks]) ?_
          simp -implicitDefEqProofs only [push_cast, mpv_weak, mpv_back1, mpv_tok1, mpv_cells, mpv_one, mpv_un, mpv_cnd, seval]
          refine callE_pure ht1 (by rfl) (by rfl) (by first | rfl | (simp only [List.map_cons, List.map_nil, List.toList_toArray, PS.ev, PS.get, lkp_hit, lkp_miss, lkp_nil, PV.un, PV.el, mpv_weak]; rfl)) (by decide) (by first | rfl | (simp only [tokLt, tokLt2, List.all_cons, List.all_nil, mpv_tok1]; rfl)) (fun _ => by rfl) (by first | rfl | simp [gdOk, newToks]) ?_
          simp -implicitDefEqProofs only [push_cast, mpv_weak, mpv_back1, mpv_tok1, mpv_cells, mpv_one, mpv_un, mpv_cnd, seval]
          have so := hso
          have sc := hc
          have sd := hd
          have sm := hm
          have co2 := co
          generalize s = s' at *
          generalize m = m1 at *
          have hm1 : m1.C.length ≤ psum cA l (i + 1) := by omega
          have hpu := lawPut_fs (o : Int) I (by omega) (fun x hx => (hgI x hx).few)
          cases hpo : (putM o I).2
          · have hp0 : putM o I = ([], false) := by
              unfold putM at hpo ⊢
              split at hpo
              · cases hpo
              · rename_i h; rw [if_neg h]
            rw [hp0] at hpu
            refine callE_p hpu ?_
            simp -implicitDefEqProofs only [push_cast, wi, mpv_weak, mpv_back1, mpv_tok1, mpv_cells, mpv_one, mpv_un, mpv_cnd, seval]
            skip
            refine ⟨⟨i + 1, { s' with out := [] }, m1, hlt, so, sc, sd, sm, by simp, ⟨co2.r, co2.d, co2.n, co2.q, co2.l, co2.l0, co2.l1, co2.sz, co2.mm⟩, hm1⟩, Nat.sub_lt_sub_left hlt (Nat.lt_succ_self _), ?_⟩
            (simp only [Ga.st, Sb.cs, Md.cs]; exact Wk.at _ _ _ [(0, 0), (1, 1)] [] [] (by simp) (by simp [wkV, PV.el, PV.weak, PS.get, PS.obj, PS.lv, lkp_hit, lkp_miss, lkp_nil, lko, wkL, res1, show ({ s' with out := [] } : Sb).mpv = s'.mpv from rfl]) (by simp [PS.get, PS.obj, PS.lv, lkp_hit, lkp_miss, lkp_nil, lko, wkL, mpv_wkC, wkC_int, wkC_str, wkC_bool, wkC_sl, wkC_mpure, wkC_any, PV.weak, wkL, res1, show ({ s' with out := [] } : Sb).mpv = s'.mpv from rfl]))
          · have hall : I.all (fun m => (tellS (o : Int) m).2 == 0) = true := by
              unfold putM at hpo
              split at hpo
              · assumption
              · cases hpo
            have hp1 : putM o I = (cat o I, true) := by rw [putM, if_pos hall]
            rw [hp1] at hpu
            have hto : ∀ x ∈ I, (tellS (o : Int) x).2 = 0 := fun x hx => beq_iff_eq.1 (List.all_eq_true.1 hall x hx)
            have hcl := cat_bd I hall
            have lv1 : ({ s' with out := [] } : Sb).Live := by unfold Sb.Live; show (s'.c == 0 || s'.d) = false; rw [sc, sd]; rfl
            have hqs : s'.q.length ≤ 2000 := by rw [co2.q]; exact Nat.le_trans (wl_length _ _) (by omega)
            have hfe := feedM_fs ({ s' with out := [] } : Sb) (cat o I) (by show s'.q.length ≤ _; omega) (by show (s'.came ++ _).length ≤ _; rw [sm, List.nil_append]; omega)
            have hfc := feed_cat lv1 sm I (by show ∀ m ∈ I, (tellS s'.o m).2 = 0; rw [so]; exact hto)
            have hcat : cat ({ s' with out := [] } : Sb).o I = cat o I := by show cat s'.o I = _; rw [so]
            rw [hcat] at hfc
            rw [feedR] at hfe
            generalize feedS ({ s' with out := [] } : Sb) (cat o I) = R at *
            generalize hbb : cat o I = bb at *
            simp only [Sb.pv, Sb.cs, show ({ s' with out := [] } : Sb).mpv = s'.mpv from rfl] at hfe
            refine callE_p hpu ?_
            simp -implicitDefEqProofs only [push_cast, mpv_weak, mpv_back1, mpv_tok1, mpv_cells, mpv_one, mpv_un, mpv_cnd, seval]
            refine callE_pure hfe (by rfl) (by rfl) (by first | rfl | (simp only [List.map_cons, List.map_nil, List.toList_toArray, PS.ev, PS.get, lkp_hit, lkp_miss, lkp_nil, PV.un, PV.el, mpv_weak]; rfl)) (by decide) (by first | rfl | (simp only [tokLt, tokLt2, List.all_cons, List.all_nil, mpv_tok1]; rfl)) (fun _ => by rfl) (by first | rfl | simp [gdOk, newToks]) ?_
            simp -implicitDefEqProofs only [push_cast, oL_length, mpv_weak, mpv_back1, mpv_tok1, mpv_cells, mpv_one, mpv_un, mpv_cnd, seval]
            skip
            refine loopC_of (α := Gb I m1) (Gb.st o i l { s' with out := [] } R X) (fun a => I.length - a.j) ⟨0, m1, [], s', Nat.zero_le _, co2, rfl, rfl, by simp⟩ ?_ ?_
            · (simp only [Gb.st, Sb.cs, Md.cs]; exact Wk.at _ _ _ [(0, 0), (1, 1), (2, 72), (3, 264)] [] [50] (by simp) (by simp [wkV, PV.el, PV.weak, PS.get, PS.obj, PS.lv, lkp_hit, lkp_miss, lkp_nil, lko, wkL, res1, ints, oL_length, wkC_slt, wkC_nilsl, show ({ s' with out := [] } : Sb).mpv = s'.mpv from rfl]) (by simp [PS.get, PS.obj, PS.lv, lkp_hit, lkp_miss, lkp_nil, lko, wkL, mpv_wkC, wkC_int, wkC_str, wkC_bool, wkC_sl, wkC_mpure, wkC_any, PV.weak, wkL, res1, ints, oL_length, wkC_slt, wkC_nilsl, show ({ s' with out := [] } : Sb).mpv = s'.mpv from rfl]))
            · rintro ⟨j, m, N, T, hj, co, hCl, hNl, he⟩
              simp -implicitDefEqProofs only [push_cast, Gb.st, Sb.cs, Md.cs, oL_length, seval]
              refine condC_split (fun g2 => ?_) (fun g2 => ?_)
              · have hlt2 : j < I.length := by simp at g2; omega
                have hg2 := ot_at hlt2
                have hym := getD_mem ot0' hlt2
                have hdr : I.drop j = I.getD j ot0' :: I.drop (j + 1) := by
                  rw [List.drop_eq_getElem_cons hlt2, List.getD_eq_getElem?_getD, List.getElem?_eq_getElem hlt2]; rfl
                have hyk := tell_kind (hto _ hym)
                have hyq : 0 ≤ (I.getD j ot0').Q := tell_q (hto _ hym)
                obtain ⟨cs1, cs2⟩ := corr_step co hyk
                rw [hdr, mplay] at he
                generalize I.getD j ot0' = y at *
                have hmay := refMay_fs m ⟨co.r, co.d, co.sz⟩ y.K y.C (y.Q % 65536)
                have wj : IntKind.i64.wrap ((j : Int) + 1) = (j : Int) + 1 := wrap_i64_id (by omega) (by omega)
                have wq : Int.tmod y.Q 65536 = y.Q % 65536 := Int.tmod_eq_emod_of_nonneg hyq
                have ww : IntKind.i64.wrap (y.Q % 65536) = y.Q % 65536 := wrap_i64_id (by omega) (by omega)
                generalize hmr : m.may y.K y.C (y.Q % 65536) = r at *
                obtain ⟨q, ok⟩ := r
                simp only at he hmay cs1 cs2
                obtain ⟨yK, yC, yQ, yN, yB, yL⟩ := y
                simp only [Ot.pv, Md.pv, Md.cs] at hmay hg2 wq ww
                simp -implicitDefEqProofs only [push_cast, hg2, oL_length, wq, ww, seval]
                (repeat (first | refine ⟨(by omega : _ ≤ _), ?_⟩ | refine ⟨(by omega : _ < _), ?_⟩ | refine ⟨by (unfold drawOk; kernel_rfl), ?_⟩))
                refine callE_p hmay ?_
                simp -implicitDefEqProofs only [push_cast, seval]
                cases ok
                · rw [if_neg Bool.false_ne_true] at he
                  have hpm := (play_mplay I ({ s' with out := [] } : Sb).own m1 ⟨co2.r, co2.d, co2.n, co2.q, co2.l, co2.l0, co2.l1, co2.sz, co2.mm⟩ (fun x hx => tell_kind (hto x hx))).1 (by rw [he])
                  rw [hpm, if_neg (by decide)] at hfc
                  subst hfc
                  have hfd := feedM_fs (failS ({ s' with out := [] } : Sb)) [] (by show s'.q.length ≤ _; omega) (by simp [failS])
                  rw [feedR, feed_dead] at hfd
                  simp only [Sb.pv, Sb.cs, show (failS ({ s' with out := [] } : Sb)).mpv = s'.mpv from rfl, failS] at hfd
                  simp -implicitDefEqProofs only [push_cast, feedF, failS, seval]
                  skip
                  refine callE_pure hfd (by rfl) (by rfl) (by first | rfl | (simp only [List.map_cons, List.map_nil, List.toList_toArray, PS.ev, PS.get, lkp_hit, lkp_miss, lkp_nil, PV.un, PV.el, mpv_weak]; rfl)) (by decide) (by first | rfl | (simp only [tokLt, tokLt2, List.all_cons, List.all_nil, mpv_tok1]; rfl)) (fun _ => by rfl) (by first | rfl | simp [gdOk, newToks]) ?_
                  simp -implicitDefEqProofs only [push_cast, mpv_weak, mpv_back1, mpv_tok1, mpv_cells, mpv_one, mpv_un, mpv_cnd, seval]
                  refine callE_p awake_fs ?_
                  simp -implicitDefEqProofs only [push_cast, mpv_weak, mpv_back1, mpv_tok1, mpv_cells, mpv_one, mpv_un, mpv_cnd, seval]
                  rfl
                · obtain ⟨s3, s4, s5⟩ := cs2 (by rw [cs1])
                  have hde : decide (m.D = []) = true ∨ m.D ≠ [] := by
                    cases hD : m.D with
                    | nil => exact .inl (by simp)
                    | cons a b => exact .inr (by simp)
                  rcases hde with hD | hD
                  · have hD : m.D = [] := by simpa using hD
                    have hK2 : yK = 2 := by
                      rcases s5 with h | ⟨h1, h2⟩
                      · exact h
                      · have := co.d
                        rw [hD] at this
                        simp only [List.length_nil] at this
                        omega
                    subst hK2
                    have hcm := refCome_nil m hD q
                    simp only [Md.pv, Md.cs] at hcm
                    simp -implicitDefEqProofs only [push_cast, seval]
                    refine callE_p hcm ?_
                    rw [if_pos rfl] at he
                    simp only at he
                    have hN8 : (ints N).length ≤ 2000 := by rw [ints_length]; omega
                    simp -implicitDefEqProofs only [push_cast, wj, ints_length, ints_sn, seval]
                    (repeat (first | refine ⟨(by omega : _ ≤ _), ?_⟩ | refine ⟨(by omega : _ < _), ?_⟩ | refine ⟨by (unfold drawOk; kernel_rfl), ?_⟩))
                    refine ⟨⟨j + 1, m.come 2 q, N ++ [q], mayS T _, hlt2, s4, hCl, by rw [List.length_append, hNl]; rfl, by rw [he]; simp [List.append_assoc]⟩, Nat.sub_lt_sub_left hlt2 (Nat.lt_succ_self _), ?_⟩
                    skip
                    (simp only [Gb.st, Sb.cs, Md.cs]; exact Wk.at _ _ _ [(0, 0), (1, 1), (2, 2), (3, 3)] [(50, 180)] [] (by simp) (by simp [wkV, PV.el, PV.weak, PS.get, PS.obj, PS.lv, lkp_hit, lkp_miss, lkp_nil, lko, wkL, res1, wkC_slt, wkC_nilsl, Md.pv, Md.cs]) (by simp [PS.get, PS.obj, PS.lv, lkp_hit, lkp_miss, lkp_nil, lko, wkL, mpv_wkC, wkC_int, wkC_str, wkC_bool, wkC_sl, wkC_mpure, wkC_any, PV.weak, wkL, res1, wkC_slt, wkC_nilsl, Md.pv, Md.cs]))
                  · have hcm := refCome_fs m ⟨co.r, co.d, co.sz⟩ hD yK q s5
                    simp only [Md.pv, Md.cs] at hcm
                    simp -implicitDefEqProofs only [push_cast, seval]
                    refine callE_new hcm (by rfl) (by rfl) (by rfl) (by first | decide | simp) (by first | decide | simp) (by rfl) (fun cs h1 p h2 => by obtain rfl := List.mem_singleton.1 h1; obtain ⟨b, -, rfl⟩ := List.mem_map.1 h2; rfl) (fun _ => by rfl) (by first | rfl | simp [gdOk, newToks]) ?_
                    rw [if_pos rfl] at he
                    simp only at he
                    have hN8 : (ints N).length ≤ 2000 := by rw [ints_length]; omega
                    simp -implicitDefEqProofs only [push_cast, bL_back, up1, wj, ints_length, ints_sn, seval]
                    (repeat (first | refine ⟨(by omega : _ ≤ _), ?_⟩ | refine ⟨(by omega : _ < _), ?_⟩ | refine ⟨by (unfold drawOk; kernel_rfl), ?_⟩))
                    refine ⟨⟨j + 1, m.come yK q, N ++ [q], mayS T _, hlt2, s4, hCl, by rw [List.length_append, hNl]; rfl, by rw [he]; simp [List.append_assoc]⟩, Nat.sub_lt_sub_left hlt2 (Nat.lt_succ_self _), ?_⟩
                    skip
                    have hDl : (m.come yK q).D.length = m.D.length := by rw [s4.d, co.d]; rfl
                    have hfz : frz1 160 (bL (m.come yK q).D) (.slb 160 0 m.D.length 1) = .sl 1 (bL (m.come yK q).D) := by
                      rw [frz1, if_pos rfl, if_pos (by rw [bL_length, hDl]; omega), List.drop_zero, ← hDl, bL_chunk]
                      cases hd' : (m.come yK q).D with
                      | nil => rw [hd'] at hDl; exact absurd (List.eq_nil_of_length_eq_zero hDl.symm) hD
                      | cons b l => rfl
                    refine Wk.trans (Wk.frz (id := 160) (ps := bL (m.come yK q).D) (by simp [PS.obj, lkp_hit, lkp_miss]) (Nat.zero_le _)) ?_
                    simp only [PS.frz, frEnv, frObjs, List.map_cons, List.map_nil, Option.map_some, Option.map_none]
                    skip
                    (simp only [Gb.st, Sb.cs, Md.cs]; exact Wk.at _ _ _ [(0, 0), (1, 1), (2, 2), (3, 3)] [(50, 180)] [] (by simp) (by simp [wkV, PV.el, PV.weak, PS.get, PS.obj, PS.lv, lkp_hit, lkp_miss, lkp_nil, lko, wkL, res1, wkC_slt, wkC_nilsl, Md.pv, Md.cs, dp_int, dp_bool, dp_box, dp_slb, dp_nilsl, dp_sl, dp_slt, frz1_slt, frz1_mpv, frz1_int, frz1_str, frz1_bool, frz1_sl, frz1_nilsl, frz1_nilm, frz1_box, hfz, come_C, come_R, come_l]) (by simp [PS.get, PS.obj, PS.lv, lkp_hit, lkp_miss, lkp_nil, lko, wkL, mpv_wkC, wkC_int, wkC_str, wkC_bool, wkC_sl, wkC_mpure, wkC_any, PV.weak, wkL, res1, wkC_slt, wkC_nilsl, Md.pv, Md.cs, dp_int, dp_bool, dp_box, dp_slb, dp_nilsl, dp_sl, dp_slt, frz1_slt, frz1_mpv, frz1_int, frz1_str, frz1_bool, frz1_sl, frz1_nilsl, frz1_nilm, frz1_box, hfz, come_C, come_R, come_l]))
              · have hje : j = I.length := by simp at g2; omega
                subst hje
                rw [List.drop_length, mplay] at he
                simp only [List.append_nil] at he
                obtain ⟨q1, q2, q3, q4⟩ := (play_mplay I ({ s' with out := [] } : Sb).own m1 ⟨co2.r, co2.d, co2.n, co2.q, co2.l, co2.l0, co2.l1, co2.sz, co2.mm⟩ (fun x hx => tell_kind (hto x hx))).2 (by rw [he])
                rw [he] at q2 q3 q4
                obtain ⟨u1, u2, u3, u4, u5⟩ := play_keep I ({ s' with out := [] } : Sb).own
                have u6 := u5 q1
                rw [if_pos q1] at hfc
                have hLl : (play I ({ s' with out := [] } : Sb).own).2.1.length = I.length := by
                  have q5 : N.length = I.length := q3
                  rw [q4, List.length_zipWith]
                  show min I.length N.length = I.length
                  omega
                generalize (play I ({ s' with out := [] } : Sb).own).1 = s2 at *
                generalize (play I ({ s' with out := [] } : Sb).own).2.1 = L at *
                subst hfc
                have hne : ((L.length : Int) != (N.length : Int)) = false := by simp; omega
                simp -implicitDefEqProofs only [push_cast, oL_length, ints_length, hne, bne_self_eq_false, seval]
                refine loopC_of (α := Tc L) (Gd.st o i l { s' with out := [] } s2 m X I N) (fun a => L.length - a.j) ⟨0, Nat.zero_le _⟩ ?_ ?_
                · (simp only [Gd.st, Sb.cs, Md.cs]; exact Wk.at _ _ _ [(0, 0), (1, 1), (2, 2), (3, 3)] [] [] (by simp) (by simp [wkV, PV.el, PV.weak, PS.get, PS.obj, PS.lv, lkp_hit, lkp_miss, lkp_nil, lko, wkL, res1, oL_length, wkC_nilsl]) (by simp [PS.get, PS.obj, PS.lv, lkp_hit, lkp_miss, lkp_nil, lko, wkL, mpv_wkC, wkC_int, wkC_str, wkC_bool, wkC_sl, wkC_mpure, wkC_any, PV.weak, wkL, res1, oL_length, wkC_nilsl]))
                · rintro ⟨j4, hj4⟩
                  simp -implicitDefEqProofs only [push_cast, Gd.st, Sb.cs, Md.cs, oL_length, seval]
                  refine condC_split (fun g4 => ?_) (fun g4 => ?_)
                  · have hlt4 : j4 < L.length := by simp at g4; omega
                    have hgL := ot_at hlt4
                    have hgI4 := ot_at (X := I) (i := j4) (by omega)
                    have hgN := ii_at (l := N) (i := j4) (by have q5 : N.length = I.length := q3; omega)
                    have hz := zip_at q4 q3 (by omega : j4 < I.length)
                    rw [hz] at hgL
                    generalize I.getD j4 ot0' = y at *
                    generalize N.getD j4 0 = qn at *
                    obtain ⟨yK, yC, yQ, yN, yB, yL⟩ := y
                    simp only [Ot.pv] at hgL hgI4
                    have w4 : IntKind.i64.wrap ((j4 : Int) + 1) = (j4 : Int) + 1 := wrap_i64_id (by omega) (by omega)
                    have q5 : N.length = I.length := q3
                    simp -implicitDefEqProofs only [push_cast, hgL, hgI4, hgN, w4, oL_length, ints_length, bne_self_eq_false, seval]
                    (repeat (first | refine ⟨(by omega : _ ≤ _), ?_⟩ | refine ⟨(by omega : _ < _), ?_⟩ | refine ⟨by (unfold drawOk; kernel_rfl), ?_⟩))
                    refine ⟨⟨j4 + 1, hlt4⟩, Nat.sub_lt_sub_left hlt4 (Nat.lt_succ_self _), ?_⟩
                    (simp only [Gd.st, Sb.cs, Md.cs]; exact Wk.at _ _ _ [(0, 0), (1, 1), (2, 2), (3, 3)] [] [] (by simp) (by simp [wkV, PV.el, PV.weak, PS.get, PS.obj, PS.lv, lkp_hit, lkp_miss, lkp_nil, lko, wkL, res1, wkC_nilsl]) (by simp [PS.get, PS.obj, PS.lv, lkp_hit, lkp_miss, lkp_nil, lko, wkL, mpv_wkC, wkC_int, wkC_str, wkC_bool, wkC_sl, wkC_mpure, wkC_any, PV.weak, wkL, res1, wkC_nilsl]))
                  · have q2q := q2.q
                    simp only at q2q
                    have hlw : (m.wl m.C.length).length ≤ 1000000 := Nat.le_trans (wl_length _ _) (by omega)
                    have hw1 := waitingM_fs s2 (by rw [q2q]; exact hlw)
                    have hw2 := refWaiting_fs m ⟨co.r, co.d, co.sz⟩
                    rw [← q2q] at hw2 hlw
                    simp only [Sb.cs, Md.pv, Md.cs] at hw1 hw2
                    simp -implicitDefEqProofs only [push_cast, seval]
                    refine callE_pure hw1 (by rfl) (by rfl) (by first | rfl | (simp only [List.map_cons, List.map_nil, List.toList_toArray, PS.ev, PS.get, lkp_hit, lkp_miss, lkp_nil, PV.un, PV.el, mpv_weak]; rfl)) (by decide) (by first | rfl | (simp only [tokLt, tokLt2, List.all_cons, List.all_nil, mpv_tok1]; rfl)) (fun _ => by rfl) (by first | rfl | simp [gdOk, newToks]) ?_
                    simp -implicitDefEqProofs only [push_cast, mpv_weak, mpv_back1, mpv_tok1, mpv_cells, mpv_one, mpv_un, mpv_cnd, seval]
                    refine callE_pure hw2 (by rfl) (by rfl) (by first | rfl | (simp only [List.map_cons, List.map_nil, List.toList_toArray, PS.ev, PS.get, lkp_hit, lkp_miss, lkp_nil, PV.un, PV.el, mpv_weak]; rfl)) (by decide) (by first | rfl | (simp only [tokLt, tokLt2, List.all_cons, List.all_nil, mpv_tok1]; rfl)) (fun _ => by rfl) (by first | rfl | simp [gdOk, newToks]) ?_
                    simp -implicitDefEqProofs only [push_cast, ints_length, bne_self_eq_false, mpv_weak, mpv_back1, mpv_tok1, mpv_cells, mpv_one, mpv_un, mpv_cnd, seval]
                    (repeat (first | refine ⟨(by omega : _ ≤ _), ?_⟩ | refine ⟨(by omega : _ < _), ?_⟩ | refine ⟨by (unfold drawOk; kernel_rfl), ?_⟩))
                    refine loopC_of (α := Te s2.q) (Te.st o i l s2 m) (fun a => s2.q.length - a.j) ⟨0, Nat.zero_le _⟩ ?_ ?_
                    · (simp only [Te.st, Sb.cs, Md.cs]; exact Wk.at _ _ _ [(0, 0), (1, 1)] [] [] (by simp) (by simp [wkV, PV.el, PV.weak, PS.get, PS.obj, PS.lv, lkp_hit, lkp_miss, lkp_nil, lko, wkL, res1, ints_length, wkC_nilsl]) (by simp [PS.get, PS.obj, PS.lv, lkp_hit, lkp_miss, lkp_nil, lko, wkL, mpv_wkC, wkC_int, wkC_str, wkC_bool, wkC_sl, wkC_mpure, wkC_any, PV.weak, wkL, res1, ints_length, wkC_nilsl]))
                    · rintro ⟨j6, hj6⟩
                      simp -implicitDefEqProofs only [push_cast, Te.st, Sb.cs, Md.cs, ints_length, seval]
                      refine condC_split (fun g6 => ?_) (fun g6 => ?_)
                      · have hlt6 : j6 < s2.q.length := by simp at g6; omega
                        have hg6 := ii_at hlt6
                        have w6 : IntKind.i64.wrap ((j6 : Int) + 1) = (j6 : Int) + 1 := wrap_i64_id (by omega) (by omega)
                        simp -implicitDefEqProofs only [push_cast, hg6, w6, ints_length, bne_self_eq_false, seval]
                        (repeat (first | refine ⟨(by omega : _ ≤ _), ?_⟩ | refine ⟨(by omega : _ < _), ?_⟩ | refine ⟨by (unfold drawOk; kernel_rfl), ?_⟩))
                        refine ⟨⟨j6 + 1, hlt6⟩, Nat.sub_lt_sub_left hlt6 (Nat.lt_succ_self _), ?_⟩
                        (simp only [Te.st, Sb.cs, Md.cs]; exact Wk.at _ _ _ [(0, 0), (1, 1)] [] [] (by simp) (by simp [wkV, PV.el, PV.weak, PS.get, PS.obj, PS.lv, lkp_hit, lkp_miss, lkp_nil, lko, wkL, res1, wkC_nilsl]) (by simp [PS.get, PS.obj, PS.lv, lkp_hit, lkp_miss, lkp_nil, lko, wkL, mpv_wkC, wkC_int, wkC_str, wkC_bool, wkC_sl, wkC_mpure, wkC_any, PV.weak, wkL, res1, wkC_nilsl]))
                      · simp -implicitDefEqProofs only [push_cast, wi, seval]
                        refine ⟨⟨i + 1, s2, m, hlt, u1.trans so, u2.trans sc, u3.trans sd, u6, by rw [u4]; simp [Sb.own], q2, by omega⟩, Nat.sub_lt_sub_left hlt (Nat.lt_succ_self _), ?_⟩
                        (simp only [Ga.st, Sb.cs, Md.cs]; exact Wk.at _ _ _ [(0, 0), (1, 1)] [] [] (by simp) (by simp [wkV, PV.el, PV.weak, PS.get, PS.obj, PS.lv, lkp_hit, lkp_miss, lkp_nil, lko, wkL, res1, wkC_nilsl]) (by simp [PS.get, PS.obj, PS.lv, lkp_hit, lkp_miss, lkp_nil, lko, wkL, mpv_wkC, wkC_int, wkC_str, wkC_bool, wkC_sl, wkC_mpure, wkC_any, PV.weak, wkL, res1, wkC_nilsl]))
        · obtain ⟨co1, cl1⟩ := corr_ask o X s m co (by omega) hok
          have hE : askE s X = 0 := by rw [askE, if_neg (by rw [hc]; decide), hso]; exact hput.1 hok
          have hA : askS s X = (asked s X, 0) := by rw [askS, if_pos hE]
          have hmE : (asksM o m X) = ((asksM o m X).1, true) := by rw [← hok]
          have co2 : Corr (asked s X) (asksM o m X).1 := ⟨co1.r, co1.d, co1.n, co1.q, co1.l, co1.l0, co1.l1, co1.sz, co1.mm⟩
          rw [hok] at has
          rw [askR, hA] at hak
          have so : (asked s X).o = o := hso
          have sc : (asked s X).c = 1 := hc
          have sd : (asked s X).d = false := hd
          have sm : (asked s X).came = [] := hm
          generalize asked s X = s' at *
          generalize (asksM o m X).1 = m1 at *
          have ht1 := takeM_fs s'
          simp only [Sb.pv, Sb.cs, Md.pv, Md.cs, show ({ s' with out := [] } : Sb).mpv = s'.mpv from rfl] at ht1 hak has
          simp -implicitDefEqProofs only [push_cast, hg, acL_length, seval]
          (repeat (first | refine ⟨(by omega : _ ≤ _), ?_⟩ | refine ⟨(by omega : _ < _), ?_⟩ | refine ⟨by (unfold drawOk; kernel_rfl), ?_⟩))
          refine callE_pure hak (by rfl) (by rfl) (by first | rfl | (simp only [List.map_cons, List.map_nil, List.toList_toArray, PS.ev, PS.get, lkp_hit, lkp_miss, lkp_nil, PV.un, PV.el, mpv_weak]; rfl)) (by decide) (by first | rfl | (simp only [tokLt, tokLt2, List.all_cons, List.all_nil, mpv_tok1]; rfl)) (fun _ => by rfl) (by first | rfl | simp [gdOk, newToks]) ?_
          simp -implicitDefEqProofs only [push_cast, mpv_weak, mpv_back1, mpv_tok1, mpv_cells, mpv_one, mpv_un, mpv_cnd, seval]
          refine callE_pure has (by rfl) (by rfl) (by first | rfl | (simp only [List.map_cons, List.map_nil, List.toList_toArray, PS.ev, PS.get, lkp_hit, lkp_miss, lkp_nil, PV.un, PV.el, mpv_weak]; rfl)) (by decide) (by first | rfl | (simp only [tokLt, tokLt2, List.all_cons, List.all_nil, mpv_tok1]; rfl)) (fun _ => by rfl) (by first | rfl | simp [gdOk, newToks]) ?_
          simp -implicitDefEqProofs only [push_cast, mpv_weak, mpv_back1, mpv_tok1, mpv_cells, mpv_one, mpv_un, mpv_cnd, seval]
          skip
          refine callE_pure ht1 (by rfl) (by rfl) (by first | rfl | (simp only [List.map_cons, List.map_nil, List.toList_toArray, PS.ev, PS.get, lkp_hit, lkp_miss, lkp_nil, PV.un, PV.el, mpv_weak]; rfl)) (by decide) (by first | rfl | (simp only [tokLt, tokLt2, List.all_cons, List.all_nil, mpv_tok1]; rfl)) (fun _ => by rfl) (by first | rfl | simp [gdOk, newToks]) ?_
          simp -implicitDefEqProofs only [push_cast, mpv_weak, mpv_back1, mpv_tok1, mpv_cells, mpv_one, mpv_un, mpv_cnd, seval]
          have hm1 : m1.C.length ≤ psum cA l (i + 1) := by omega
          have hpu := lawPut_fs (o : Int) I (by omega) (fun x hx => (hgI x hx).few)
          cases hpo : (putM o I).2
          · have hp0 : putM o I = ([], false) := by
              unfold putM at hpo ⊢
              split at hpo
              · cases hpo
              · rename_i h; rw [if_neg h]
            rw [hp0] at hpu
            refine callE_p hpu ?_
            simp -implicitDefEqProofs only [push_cast, wi, mpv_weak, mpv_back1, mpv_tok1, mpv_cells, mpv_one, mpv_un, mpv_cnd, seval]
            skip
            refine ⟨⟨i + 1, { s' with out := [] }, m1, hlt, so, sc, sd, sm, by simp, ⟨co2.r, co2.d, co2.n, co2.q, co2.l, co2.l0, co2.l1, co2.sz, co2.mm⟩, hm1⟩, Nat.sub_lt_sub_left hlt (Nat.lt_succ_self _), ?_⟩
            (simp only [Ga.st, Sb.cs, Md.cs]; exact Wk.at _ _ _ [(0, 0), (1, 1)] [] [] (by simp) (by simp [wkV, PV.el, PV.weak, PS.get, PS.obj, PS.lv, lkp_hit, lkp_miss, lkp_nil, lko, wkL, res1, show ({ s' with out := [] } : Sb).mpv = s'.mpv from rfl]) (by simp [PS.get, PS.obj, PS.lv, lkp_hit, lkp_miss, lkp_nil, lko, wkL, mpv_wkC, wkC_int, wkC_str, wkC_bool, wkC_sl, wkC_mpure, wkC_any, PV.weak, wkL, res1, show ({ s' with out := [] } : Sb).mpv = s'.mpv from rfl]))
          · have hall : I.all (fun m => (tellS (o : Int) m).2 == 0) = true := by
              unfold putM at hpo
              split at hpo
              · assumption
              · cases hpo
            have hp1 : putM o I = (cat o I, true) := by rw [putM, if_pos hall]
            rw [hp1] at hpu
            have hto : ∀ x ∈ I, (tellS (o : Int) x).2 = 0 := fun x hx => beq_iff_eq.1 (List.all_eq_true.1 hall x hx)
            have hcl := cat_bd I hall
            have lv1 : ({ s' with out := [] } : Sb).Live := by unfold Sb.Live; show (s'.c == 0 || s'.d) = false; rw [sc, sd]; rfl
            have hqs : s'.q.length ≤ 2000 := by rw [co2.q]; exact Nat.le_trans (wl_length _ _) (by omega)
            have hfe := feedM_fs ({ s' with out := [] } : Sb) (cat o I) (by show s'.q.length ≤ _; omega) (by show (s'.came ++ _).length ≤ _; rw [sm, List.nil_append]; omega)
            have hfc := feed_cat lv1 sm I (by show ∀ m ∈ I, (tellS s'.o m).2 = 0; rw [so]; exact hto)
            have hcat : cat ({ s' with out := [] } : Sb).o I = cat o I := by show cat s'.o I = _; rw [so]
            rw [hcat] at hfc
            rw [feedR] at hfe
            generalize feedS ({ s' with out := [] } : Sb) (cat o I) = R at *
            generalize hbb : cat o I = bb at *
            simp only [Sb.pv, Sb.cs, show ({ s' with out := [] } : Sb).mpv = s'.mpv from rfl] at hfe
            refine callE_p hpu ?_
            simp -implicitDefEqProofs only [push_cast, mpv_weak, mpv_back1, mpv_tok1, mpv_cells, mpv_one, mpv_un, mpv_cnd, seval]
            refine callE_pure hfe (by rfl) (by rfl) (by first | rfl | (simp only [List.map_cons, List.map_nil, List.toList_toArray, PS.ev, PS.get, lkp_hit, lkp_miss, lkp_nil, PV.un, PV.el, mpv_weak]; rfl)) (by decide) (by first | rfl | (simp only [tokLt, tokLt2, List.all_cons, List.all_nil, mpv_tok1]; rfl)) (fun _ => by rfl) (by first | rfl | simp [gdOk, newToks]) ?_
            simp -implicitDefEqProofs only [push_cast, oL_length, mpv_weak, mpv_back1, mpv_tok1, mpv_cells, mpv_one, mpv_un, mpv_cnd, seval]
            skip
            refine loopC_of (α := Gb I m1) (Gb.st o i l { s' with out := [] } R X) (fun a => I.length - a.j) ⟨0, m1, [], s', Nat.zero_le _, co2, rfl, rfl, by simp⟩ ?_ ?_
            · (simp only [Gb.st, Sb.cs, Md.cs]; exact Wk.at _ _ _ [(0, 0), (1, 1), (2, 72), (3, 272)] [] [50] (by simp) (by simp [wkV, PV.el, PV.weak, PS.get, PS.obj, PS.lv, lkp_hit, lkp_miss, lkp_nil, lko, wkL, res1, ints, oL_length, wkC_slt, wkC_nilsl, show ({ s' with out := [] } : Sb).mpv = s'.mpv from rfl]) (by simp [PS.get, PS.obj, PS.lv, lkp_hit, lkp_miss, lkp_nil, lko, wkL, mpv_wkC, wkC_int, wkC_str, wkC_bool, wkC_sl, wkC_mpure, wkC_any, PV.weak, wkL, res1, ints, oL_length, wkC_slt, wkC_nilsl, show ({ s' with out := [] } : Sb).mpv = s'.mpv from rfl]))
            · rintro ⟨j, m, N, T, hj, co, hCl, hNl, he⟩
              simp -implicitDefEqProofs only [push_cast, Gb.st, Sb.cs, Md.cs, oL_length, seval]
              refine condC_split (fun g2 => ?_) (fun g2 => ?_)
              · have hlt2 : j < I.length := by simp at g2; omega
                have hg2 := ot_at hlt2
                have hym := getD_mem ot0' hlt2
                have hdr : I.drop j = I.getD j ot0' :: I.drop (j + 1) := by
                  rw [List.drop_eq_getElem_cons hlt2, List.getD_eq_getElem?_getD, List.getElem?_eq_getElem hlt2]; rfl
                have hyk := tell_kind (hto _ hym)
                have hyq : 0 ≤ (I.getD j ot0').Q := tell_q (hto _ hym)
                obtain ⟨cs1, cs2⟩ := corr_step co hyk
                rw [hdr, mplay] at he
                generalize I.getD j ot0' = y at *
                have hmay := refMay_fs m ⟨co.r, co.d, co.sz⟩ y.K y.C (y.Q % 65536)
                have wj : IntKind.i64.wrap ((j : Int) + 1) = (j : Int) + 1 := wrap_i64_id (by omega) (by omega)
                have wq : Int.tmod y.Q 65536 = y.Q % 65536 := Int.tmod_eq_emod_of_nonneg hyq
                have ww : IntKind.i64.wrap (y.Q % 65536) = y.Q % 65536 := wrap_i64_id (by omega) (by omega)
                generalize hmr : m.may y.K y.C (y.Q % 65536) = r at *
                obtain ⟨q, ok⟩ := r
                simp only at he hmay cs1 cs2
                obtain ⟨yK, yC, yQ, yN, yB, yL⟩ := y
                simp only [Ot.pv, Md.pv, Md.cs] at hmay hg2 wq ww
                simp -implicitDefEqProofs only [push_cast, hg2, oL_length, wq, ww, seval]
                (repeat (first | refine ⟨(by omega : _ ≤ _), ?_⟩ | refine ⟨(by omega : _ < _), ?_⟩ | refine ⟨by (unfold drawOk; kernel_rfl), ?_⟩))
                refine callE_p hmay ?_
                simp -implicitDefEqProofs only [push_cast, seval]
                cases ok
                · rw [if_neg Bool.false_ne_true] at he
                  have hpm := (play_mplay I ({ s' with out := [] } : Sb).own m1 ⟨co2.r, co2.d, co2.n, co2.q, co2.l, co2.l0, co2.l1, co2.sz, co2.mm⟩ (fun x hx => tell_kind (hto x hx))).1 (by rw [he])
                  rw [hpm, if_neg (by decide)] at hfc
                  subst hfc
                  have hfd := feedM_fs (failS ({ s' with out := [] } : Sb)) [] (by show s'.q.length ≤ _; omega) (by simp [failS])
                  rw [feedR, feed_dead] at hfd
                  simp only [Sb.pv, Sb.cs, show (failS ({ s' with out := [] } : Sb)).mpv = s'.mpv from rfl, failS] at hfd
                  simp -implicitDefEqProofs only [push_cast, feedF, failS, seval]
                  skip
                  refine callE_pure hfd (by rfl) (by rfl) (by first | rfl | (simp only [List.map_cons, List.map_nil, List.toList_toArray, PS.ev, PS.get, lkp_hit, lkp_miss, lkp_nil, PV.un, PV.el, mpv_weak]; rfl)) (by decide) (by first | rfl | (simp only [tokLt, tokLt2, List.all_cons, List.all_nil, mpv_tok1]; rfl)) (fun _ => by rfl) (by first | rfl | simp [gdOk, newToks]) ?_
                  simp -implicitDefEqProofs only [push_cast, mpv_weak, mpv_back1, mpv_tok1, mpv_cells, mpv_one, mpv_un, mpv_cnd, seval]
                  refine callE_p awake_fs ?_
                  simp -implicitDefEqProofs only [push_cast, mpv_weak, mpv_back1, mpv_tok1, mpv_cells, mpv_one, mpv_un, mpv_cnd, seval]
                  rfl
                · obtain ⟨s3, s4, s5⟩ := cs2 (by rw [cs1])
                  have hde : decide (m.D = []) = true ∨ m.D ≠ [] := by
                    cases hD : m.D with
                    | nil => exact .inl (by simp)
                    | cons a b => exact .inr (by simp)
                  rcases hde with hD | hD
                  · have hD : m.D = [] := by simpa using hD
                    have hK2 : yK = 2 := by
                      rcases s5 with h | ⟨h1, h2⟩
                      · exact h
                      · have := co.d
                        rw [hD] at this
                        simp only [List.length_nil] at this
                        omega
                    subst hK2
                    have hcm := refCome_nil m hD q
                    simp only [Md.pv, Md.cs] at hcm
                    simp -implicitDefEqProofs only [push_cast, seval]
                    refine callE_p hcm ?_
                    rw [if_pos rfl] at he
                    simp only at he
                    have hN8 : (ints N).length ≤ 2000 := by rw [ints_length]; omega
                    simp -implicitDefEqProofs only [push_cast, wj, ints_length, ints_sn, seval]
                    (repeat (first | refine ⟨(by omega : _ ≤ _), ?_⟩ | refine ⟨(by omega : _ < _), ?_⟩ | refine ⟨by (unfold drawOk; kernel_rfl), ?_⟩))
                    refine ⟨⟨j + 1, m.come 2 q, N ++ [q], mayS T _, hlt2, s4, hCl, by rw [List.length_append, hNl]; rfl, by rw [he]; simp [List.append_assoc]⟩, Nat.sub_lt_sub_left hlt2 (Nat.lt_succ_self _), ?_⟩
                    skip
                    (simp only [Gb.st, Sb.cs, Md.cs]; exact Wk.at _ _ _ [(0, 0), (1, 1), (2, 2), (3, 3)] [(50, 180)] [] (by simp) (by simp [wkV, PV.el, PV.weak, PS.get, PS.obj, PS.lv, lkp_hit, lkp_miss, lkp_nil, lko, wkL, res1, wkC_slt, wkC_nilsl, Md.pv, Md.cs]) (by simp [PS.get, PS.obj, PS.lv, lkp_hit, lkp_miss, lkp_nil, lko, wkL, mpv_wkC, wkC_int, wkC_str, wkC_bool, wkC_sl, wkC_mpure, wkC_any, PV.weak, wkL, res1, wkC_slt, wkC_nilsl, Md.pv, Md.cs]))
                  · have hcm := refCome_fs m ⟨co.r, co.d, co.sz⟩ hD yK q s5
                    simp only [Md.pv, Md.cs] at hcm
                    simp -implicitDefEqProofs only [push_cast, seval]
                    refine callE_new hcm (by rfl) (by rfl) (by rfl) (by first | decide | simp) (by first | decide | simp) (by rfl) (fun cs h1 p h2 => by obtain rfl := List.mem_singleton.1 h1; obtain ⟨b, -, rfl⟩ := List.mem_map.1 h2; rfl) (fun _ => by rfl) (by first | rfl | simp [gdOk, newToks]) ?_
                    rw [if_pos rfl] at he
                    simp only at he
                    have hN8 : (ints N).length ≤ 2000 := by rw [ints_length]; omega
                    simp -implicitDefEqProofs only [push_cast, bL_back, up1, wj, ints_length, ints_sn, seval]
                    (repeat (first | refine ⟨(by omega : _ ≤ _), ?_⟩ | refine ⟨(by omega : _ < _), ?_⟩ | refine ⟨by (unfold drawOk; kernel_rfl), ?_⟩))
                    refine ⟨⟨j + 1, m.come yK q, N ++ [q], mayS T _, hlt2, s4, hCl, by rw [List.length_append, hNl]; rfl, by rw [he]; simp [List.append_assoc]⟩, Nat.sub_lt_sub_left hlt2 (Nat.lt_succ_self _), ?_⟩
                    skip
                    have hDl : (m.come yK q).D.length = m.D.length := by rw [s4.d, co.d]; rfl
                    have hfz : frz1 160 (bL (m.come yK q).D) (.slb 160 0 m.D.length 1) = .sl 1 (bL (m.come yK q).D) := by
                      rw [frz1, if_pos rfl, if_pos (by rw [bL_length, hDl]; omega), List.drop_zero, ← hDl, bL_chunk]
                      cases hd' : (m.come yK q).D with
                      | nil => rw [hd'] at hDl; exact absurd (List.eq_nil_of_length_eq_zero hDl.symm) hD
                      | cons b l => rfl
                    refine Wk.trans (Wk.frz (id := 160) (ps := bL (m.come yK q).D) (by simp [PS.obj, lkp_hit, lkp_miss]) (Nat.zero_le _)) ?_
                    simp only [PS.frz, frEnv, frObjs, List.map_cons, List.map_nil, Option.map_some, Option.map_none]
                    skip
                    (simp only [Gb.st, Sb.cs, Md.cs]; exact Wk.at _ _ _ [(0, 0), (1, 1), (2, 2), (3, 3)] [(50, 180)] [] (by simp) (by simp [wkV, PV.el, PV.weak, PS.get, PS.obj, PS.lv, lkp_hit, lkp_miss, lkp_nil, lko, wkL, res1, wkC_slt, wkC_nilsl, Md.pv, Md.cs, dp_int, dp_bool, dp_box, dp_slb, dp_nilsl, dp_sl, dp_slt, frz1_slt, frz1_mpv, frz1_int, frz1_str, frz1_bool, frz1_sl, frz1_nilsl, frz1_nilm, frz1_box, hfz, come_C, come_R, come_l]) (by simp [PS.get, PS.obj, PS.lv, lkp_hit, lkp_miss, lkp_nil, lko, wkL, mpv_wkC, wkC_int, wkC_str, wkC_bool, wkC_sl, wkC_mpure, wkC_any, PV.weak, wkL, res1, wkC_slt, wkC_nilsl, Md.pv, Md.cs, dp_int, dp_bool, dp_box, dp_slb, dp_nilsl, dp_sl, dp_slt, frz1_slt, frz1_mpv, frz1_int, frz1_str, frz1_bool, frz1_sl, frz1_nilsl, frz1_nilm, frz1_box, hfz, come_C, come_R, come_l]))
              · have hje : j = I.length := by simp at g2; omega
                subst hje
                rw [List.drop_length, mplay] at he
                simp only [List.append_nil] at he
                obtain ⟨q1, q2, q3, q4⟩ := (play_mplay I ({ s' with out := [] } : Sb).own m1 ⟨co2.r, co2.d, co2.n, co2.q, co2.l, co2.l0, co2.l1, co2.sz, co2.mm⟩ (fun x hx => tell_kind (hto x hx))).2 (by rw [he])
                rw [he] at q2 q3 q4
                obtain ⟨u1, u2, u3, u4, u5⟩ := play_keep I ({ s' with out := [] } : Sb).own
                have u6 := u5 q1
                rw [if_pos q1] at hfc
                have hLl : (play I ({ s' with out := [] } : Sb).own).2.1.length = I.length := by
                  have q5 : N.length = I.length := q3
                  rw [q4, List.length_zipWith]
                  show min I.length N.length = I.length
                  omega
                generalize (play I ({ s' with out := [] } : Sb).own).1 = s2 at *
                generalize (play I ({ s' with out := [] } : Sb).own).2.1 = L at *
                subst hfc
                have hne : ((L.length : Int) != (N.length : Int)) = false := by simp; omega
                simp -implicitDefEqProofs only [push_cast, oL_length, ints_length, hne, bne_self_eq_false, seval]
                refine loopC_of (α := Tc L) (Gd.st o i l { s' with out := [] } s2 m X I N) (fun a => L.length - a.j) ⟨0, Nat.zero_le _⟩ ?_ ?_
                · (simp only [Gd.st, Sb.cs, Md.cs]; exact Wk.at _ _ _ [(0, 0), (1, 1), (2, 2), (3, 3)] [] [] (by simp) (by simp [wkV, PV.el, PV.weak, PS.get, PS.obj, PS.lv, lkp_hit, lkp_miss, lkp_nil, lko, wkL, res1, oL_length, wkC_nilsl]) (by simp [PS.get, PS.obj, PS.lv, lkp_hit, lkp_miss, lkp_nil, lko, wkL, mpv_wkC, wkC_int, wkC_str, wkC_bool, wkC_sl, wkC_mpure, wkC_any, PV.weak, wkL, res1, oL_length, wkC_nilsl]))
                · rintro ⟨j4, hj4⟩
                  simp -implicitDefEqProofs only [push_cast, Gd.st, Sb.cs, Md.cs, oL_length, seval]
                  refine condC_split (fun g4 => ?_) (fun g4 => ?_)
                  · have hlt4 : j4 < L.length := by simp at g4; omega
                    have hgL := ot_at hlt4
                    have hgI4 := ot_at (X := I) (i := j4) (by omega)
                    have hgN := ii_at (l := N) (i := j4) (by have q5 : N.length = I.length := q3; omega)
                    have hz := zip_at q4 q3 (by omega : j4 < I.length)
                    rw [hz] at hgL
                    generalize I.getD j4 ot0' = y at *
                    generalize N.getD j4 0 = qn at *
                    obtain ⟨yK, yC, yQ, yN, yB, yL⟩ := y
                    simp only [Ot.pv] at hgL hgI4
                    have w4 : IntKind.i64.wrap ((j4 : Int) + 1) = (j4 : Int) + 1 := wrap_i64_id (by omega) (by omega)
                    have q5 : N.length = I.length := q3
                    simp -implicitDefEqProofs only [push_cast, hgL, hgI4, hgN, w4, oL_length, ints_length, bne_self_eq_false, seval]
                    (repeat (first | refine ⟨(by omega : _ ≤ _), ?_⟩ | refine ⟨(by omega : _ < _), ?_⟩ | refine ⟨by (unfold drawOk; kernel_rfl), ?_⟩))
                    refine ⟨⟨j4 + 1, hlt4⟩, Nat.sub_lt_sub_left hlt4 (Nat.lt_succ_self _), ?_⟩
                    (simp only [Gd.st, Sb.cs, Md.cs]; exact Wk.at _ _ _ [(0, 0), (1, 1), (2, 2), (3, 3)] [] [] (by simp) (by simp [wkV, PV.el, PV.weak, PS.get, PS.obj, PS.lv, lkp_hit, lkp_miss, lkp_nil, lko, wkL, res1, wkC_nilsl]) (by simp [PS.get, PS.obj, PS.lv, lkp_hit, lkp_miss, lkp_nil, lko, wkL, mpv_wkC, wkC_int, wkC_str, wkC_bool, wkC_sl, wkC_mpure, wkC_any, PV.weak, wkL, res1, wkC_nilsl]))
                  · have q2q := q2.q
                    simp only at q2q
                    have hlw : (m.wl m.C.length).length ≤ 1000000 := Nat.le_trans (wl_length _ _) (by omega)
                    have hw1 := waitingM_fs s2 (by rw [q2q]; exact hlw)
                    have hw2 := refWaiting_fs m ⟨co.r, co.d, co.sz⟩
                    rw [← q2q] at hw2 hlw
                    simp only [Sb.cs, Md.pv, Md.cs] at hw1 hw2
                    simp -implicitDefEqProofs only [push_cast, seval]
                    refine callE_pure hw1 (by rfl) (by rfl) (by first | rfl | (simp only [List.map_cons, List.map_nil, List.toList_toArray, PS.ev, PS.get, lkp_hit, lkp_miss, lkp_nil, PV.un, PV.el, mpv_weak]; rfl)) (by decide) (by first | rfl | (simp only [tokLt, tokLt2, List.all_cons, List.all_nil, mpv_tok1]; rfl)) (fun _ => by rfl) (by first | rfl | simp [gdOk, newToks]) ?_
                    simp -implicitDefEqProofs only [push_cast, mpv_weak, mpv_back1, mpv_tok1, mpv_cells, mpv_one, mpv_un, mpv_cnd, seval]
                    refine callE_pure hw2 (by rfl) (by rfl) (by first | rfl | (simp only [List.map_cons, List.map_nil, List.toList_toArray, PS.ev, PS.get, lkp_hit, lkp_miss, lkp_nil, PV.un, PV.el, mpv_weak]; rfl)) (by decide) (by first | rfl | (simp only [tokLt, tokLt2, List.all_cons, List.all_nil, mpv_tok1]; rfl)) (fun _ => by rfl) (by first | rfl | simp [gdOk, newToks]) ?_
                    simp -implicitDefEqProofs only [push_cast, ints_length, bne_self_eq_false, mpv_weak, mpv_back1, mpv_tok1, mpv_cells, mpv_one, mpv_un, mpv_cnd, seval]
                    (repeat (first | refine ⟨(by omega : _ ≤ _), ?_⟩ | refine ⟨(by omega : _ < _), ?_⟩ | refine ⟨by (unfold drawOk; kernel_rfl), ?_⟩))
                    refine loopC_of (α := Te s2.q) (Te.st o i l s2 m) (fun a => s2.q.length - a.j) ⟨0, Nat.zero_le _⟩ ?_ ?_
                    · (simp only [Te.st, Sb.cs, Md.cs]; exact Wk.at _ _ _ [(0, 0), (1, 1)] [] [] (by simp) (by simp [wkV, PV.el, PV.weak, PS.get, PS.obj, PS.lv, lkp_hit, lkp_miss, lkp_nil, lko, wkL, res1, ints_length, wkC_nilsl]) (by simp [PS.get, PS.obj, PS.lv, lkp_hit, lkp_miss, lkp_nil, lko, wkL, mpv_wkC, wkC_int, wkC_str, wkC_bool, wkC_sl, wkC_mpure, wkC_any, PV.weak, wkL, res1, ints_length, wkC_nilsl]))
                    · rintro ⟨j6, hj6⟩
                      simp -implicitDefEqProofs only [push_cast, Te.st, Sb.cs, Md.cs, ints_length, seval]
                      refine condC_split (fun g6 => ?_) (fun g6 => ?_)
                      · have hlt6 : j6 < s2.q.length := by simp at g6; omega
                        have hg6 := ii_at hlt6
                        have w6 : IntKind.i64.wrap ((j6 : Int) + 1) = (j6 : Int) + 1 := wrap_i64_id (by omega) (by omega)
                        simp -implicitDefEqProofs only [push_cast, hg6, w6, ints_length, bne_self_eq_false, seval]
                        (repeat (first | refine ⟨(by omega : _ ≤ _), ?_⟩ | refine ⟨(by omega : _ < _), ?_⟩ | refine ⟨by (unfold drawOk; kernel_rfl), ?_⟩))
                        refine ⟨⟨j6 + 1, hlt6⟩, Nat.sub_lt_sub_left hlt6 (Nat.lt_succ_self _), ?_⟩
                        (simp only [Te.st, Sb.cs, Md.cs]; exact Wk.at _ _ _ [(0, 0), (1, 1)] [] [] (by simp) (by simp [wkV, PV.el, PV.weak, PS.get, PS.obj, PS.lv, lkp_hit, lkp_miss, lkp_nil, lko, wkL, res1, wkC_nilsl]) (by simp [PS.get, PS.obj, PS.lv, lkp_hit, lkp_miss, lkp_nil, lko, wkL, mpv_wkC, wkC_int, wkC_str, wkC_bool, wkC_sl, wkC_mpure, wkC_any, PV.weak, wkL, res1, wkC_nilsl]))
                      · simp -implicitDefEqProofs only [push_cast, wi, seval]
                        refine ⟨⟨i + 1, s2, m, hlt, u1.trans so, u2.trans sc, u3.trans sd, u6, by rw [u4]; simp [Sb.own], q2, by omega⟩, Nat.sub_lt_sub_left hlt (Nat.lt_succ_self _), ?_⟩
                        (simp only [Ga.st, Sb.cs, Md.cs]; exact Wk.at _ _ _ [(0, 0), (1, 1)] [] [] (by simp) (by simp [wkV, PV.el, PV.weak, PS.get, PS.obj, PS.lv, lkp_hit, lkp_miss, lkp_nil, lko, wkL, res1, wkC_nilsl]) (by simp [PS.get, PS.obj, PS.lv, lkp_hit, lkp_miss, lkp_nil, lko, wkL, mpv_wkC, wkC_int, wkC_str, wkC_bool, wkC_sl, wkC_mpure, wkC_any, PV.weak, wkL, res1, wkC_nilsl]))
      · simp -implicitDefEqProofs only [push_cast, seval]
        refine callE_p awake_fs ?_
        simp -implicitDefEqProofs only [push_cast, seval]

end Go.Proofs.Sh
