/- StubAsks. -/
import Derived.Test.YtbpjoeopnaggoaaDoorSbGoW
import Derived.Test.YtbpjoeopnaggoaaDoorSbWide
import Derived.Test.YtbpjoeopnaggoaaDoorSbSeatW
set_option maxRecDepth 100000
set_option linter.unusedSimpArgs false
set_option linter.unusedVariables false
namespace Go.Proofs.Sh
open Go.Pv

/-- Bytes and the first fault, as the law gathers them. -/
def badI (o : Int) (a : List UInt8 × Int) (x : Rq) : List UInt8 × Int := (a.1 ++ (packS o x).1, if a.2 = 0 then (packS o x).2 else a.2)
def badAll (o : Int) (X : List Rq) : List UInt8 × Int := X.foldl (badI o) ([], 0)
theorem badAll_sn (o : Int) (X : List Rq) (x : Rq) : badAll o (X ++ [x]) = badI o (badAll o X) x := by simp [badAll]
theorem badI_grow (o : Int) : ∀ (X : List Rq) (b : List UInt8 × Int), b.1.length ≤ (X.foldl (badI o) b).1.length
  | [], _ => Nat.le_refl _
  | x :: X, b => by
    have := badI_grow o X (badI o b x)
    simp only [badI, List.length_append] at this
    rw [List.foldl_cons]
    exact Nat.le_trans (Nat.le_add_right _ _) this
theorem put_bad (o : Int) (out : List UInt8) : ∀ (X : List Rq) (a b : List UInt8 × Int), a.2 = b.2 → (b.2 = 0 → a.1 = out ++ b.1) → out.length + (X.foldl (badI o) b).1.length ≤ 65536 →
    (X.foldl (putI o) a).2 = (X.foldl (badI o) b).2 ∧ ((X.foldl (badI o) b).2 = 0 → (X.foldl (putI o) a).1 = out ++ (X.foldl (badI o) b).1)
  | [], a, b, h1, h2, _ => ⟨h1, h2⟩
  | x :: X, a, b, h1, h2, h3 => by
    rw [List.foldl_cons, List.foldl_cons]
    rw [List.foldl_cons] at h3
    have hg := badI_grow o X (badI o b x)
    have hg1 : (badI o b x).1.length = b.1.length + (packS o x).1.length := List.length_append
    refine put_bad o out X _ _ ?_ ?_ h3
    · unfold putI badI
      by_cases hb : b.2 = 0
      · rw [if_pos (h1.trans hb), if_pos hb]
        by_cases hp : (packS o x).2 = 0
        · rw [if_pos hp, if_neg]
          · exact hp.symm
          · rw [h2 hb, List.length_append]
            omega
        · rw [if_neg hp]
      · rw [if_neg (by rw [h1]; exact hb), if_neg hb]
        exact h1
    · intro h0
      by_cases hb : b.2 = 0
      · simp only [badI] at h0
        rw [if_pos hb] at h0
        unfold putI badI
        rw [if_pos (h1.trans hb), if_pos h0, if_neg]
        · rw [h2 hb, List.append_assoc]
        · rw [h2 hb, List.length_append]
          omega
      · simp only [badI] at h0
        rw [if_neg hb] at h0
        exact absurd h0 hb
theorem fmt_len {o : Int} (ho : isOrder o) (f : Fm) (h : f.Ok) (x : Fd) (hE : (fitsE f x != 0) = false) : (fmt o f x).length ≤ 17 + 4 * x.N.length + x.B.length + 4 * x.L.length := by
  have hn := fitsE_n hE
  have r1 := row_length o h x.N x.N.length (by omega)
  have q1 := p1_length (row o f.F x.N x.N.length)
  have h1 : (fmt1 o f x).length ≤ 4 * x.N.length + 3 := by unfold fmt1; omega
  have p4 := putS_length (o := o) (s := 4) (by unfold isSize; omega) x.B.length
  have h2 : (fmt2 o f x).length ≤ 4 * x.N.length + 10 + x.B.length := by
    unfold fmt2
    split
    · have := p1_length (fmt1 o f x ++ putS o 4 x.B.length ++ x.B)
      simp only [List.length_append] at this
      omega
    · omega
  have p5 := putS_length (o := o) (s := 4) (by unfold isSize; omega) x.L.length
  unfold fmt
  split
  · rename_i hL
    have hLs : isSize f.L := by
      rcases h.l with e | e
      · rw [e] at hL; exact absurd hL (by decide)
      · exact e
    have r2 := row1_length o hLs x.L x.L.length
    have := p1_length (fmt2 o f x ++ putS o 4 x.L.length ++ row1 o f.L x.L x.L.length)
    simp only [List.length_append] at this
    omega
  · omega
theorem packS_bd (o : Int) (r : Rq) : (packS o r).1.length ≤ 21 * fr r := by
  unfold packS
  split
  · rename_i ho
    split
    · simp
    · rename_i f hf
      split
      · simp
      · rename_i hE
        split
        · simp
        · obtain ⟨hok, -, -⟩ := formOf_some hf
          have := fmt_len (isOrd_of ho) f hok r.fd (by simpa using hE)
          simp only [Rq.fd] at this
          rw [List.length_append, hd_len, fr]
          simp only [Rq.fd] at *
          omega
  · simp
theorem bad_bd (o : Int) : ∀ (X : List Rq) (b : List UInt8 × Int), (X.foldl (badI o) b).1.length ≤ b.1.length + 21 * psum fr X X.length
  | [], b => by simp [psum]
  | x :: X, b => by
    rw [List.foldl_cons]
    have h1 := bad_bd o X (badI o b x)
    have h2 := packS_bd o x
    have h3 : psum fr (x :: X) (x :: X).length = fr x + psum fr X X.length := by simp [psum]
    rw [h3]
    simp only [badI, List.length_append] at h1 h2 ⊢
    omega
def frs (X : List Rq) : Nat := psum fr X X.length
theorem badAll_len (o : Int) (X : List Rq) : (badAll o X).1.length ≤ 21 * frs X := by
  have := bad_bd o X ([], 0)
  simpa [badAll, frs] using this
theorem frs_len (X : List Rq) : X.length ≤ frs X := len_le fr (fun x => by simp only [fr]; omega) X
/-- One part asked. -/
theorem ask_part (s : Sb) (X : List Rq) (hc : ¬ s.c = 0) (hl : s.out.length + 21 * frs X ≤ 65536) :
    (askS s X).2 = (badAll s.o X).2 ∧ (askS s X).1.c = s.c ∧ (askS s X).1.o = s.o ∧ (askS s X).1.q.length ≤ s.q.length + X.length ∧
    ((badAll s.o X).2 = 0 → (askS s X).1.out = s.out ++ (badAll s.o X).1 ∧ (askS s X).1.n = s.n + X.length) ∧ (¬ (badAll s.o X).2 = 0 → (askS s X).1.out = s.out ∧ (askS s X).1.n = s.n) := by
  have hb := badAll_len s.o X
  obtain ⟨h1, h2⟩ := put_bad s.o s.out X (s.out, 0) ([], 0) rfl (fun _ => by simp) (by simp only [badAll] at hb; omega)
  have he : askE s X = (badAll s.o X).2 := by rw [askE, if_neg hc]; exact h1
  unfold askS
  by_cases h0 : (badAll s.o X).2 = 0
  · rw [if_pos (by rw [he]; exact h0)]
    refine ⟨h0.symm, rfl, rfl, addAll_q (s.n, s.q, s.mm) X, fun _ => ⟨h2 h0, addAll_n (s.n, s.q, s.mm) X⟩, fun h => absurd h0 h⟩
  · rw [if_neg (by rw [he]; exact h0)]
    exact ⟨he, rfl, rfl, Nat.le_add_right _ _, fun h => absurd h h0, fun _ => ⟨rfl, rfl⟩⟩
def rqLL (l : List (List Rq)) : List PV := l.map fun X => .sl 4 (rqL X)
theorem rqLL_length (l : List (List Rq)) : (rqLL l).length = l.length := List.length_map _
theorem rqLL_at {l : List (List Rq)} {i : Nat} (h : i < l.length) : (rqLL l).getD i PV.any = .sl 4 (rqL (l.getD i [])) := by
  rw [rqLL, List.getD_eq_getElem?_getD, List.getElem?_map, List.getElem?_eq_getElem h, List.getD_eq_getElem?_getD, List.getElem?_eq_getElem h]; rfl
def bL (l : List Bool) : List PV := l.map .bool
theorem bL_length (l : List Bool) : (bL l).length = l.length := List.length_map _
theorem bL_at {l : List Bool} {i : Nat} (h : i < l.length) : (bL l).getD i PV.any = .bool (l.getD i false) := by
  rw [bL, List.getD_eq_getElem?_getD, List.getElem?_map, List.getElem?_eq_getElem h, List.getD_eq_getElem?_getD, List.getElem?_eq_getElem h]; rfl
def acN (l : List (List Rq)) : List PV := l.map fun X => .agg [.sl 4 (rqL X), .nilsl]
theorem acN_length (l : List (List Rq)) : (acN l).length = l.length := List.length_map _
theorem acN_sn {l : List (List Rq)} {i : Nat} (h : i < l.length) : acN (l.take i) ++ [.agg [.sl 4 (rqL (l.getD i [])), .nilsl]] = acN (l.take (i + 1)) := by
  rw [List.take_succ_eq_append_getElem h, List.getD_eq_getElem?_getD, List.getElem?_eq_getElem h]
  simp only [acN, List.map_append, List.map_cons, List.map_nil, Option.getD_some]
theorem acN_takes (l : List (List Rq)) : nlCs ((acN l).flatMap PV.cells) ((acL (l.map fun X => ⟨X, []⟩)).flatMap PV.cells) := by
  induction l with
  | nil => trivial
  | cons X l ih =>
    simp only [acN, acL, List.map_cons, List.flatMap_cons] at ih ⊢
    exact ⟨.inl rfl, .inr ⟨rfl, 6, rfl⟩, ih⟩
theorem fewN_l (l : List (List Rq)) : fewN (l.map fun X => ⟨X, []⟩) = psum (fun X => 1 + frs X) l l.length := by
  simp only [fewN, psum, List.take_length, List.length_map]
  rw [show List.take l.length (List.map (fun X => (⟨X, []⟩ : Ac)) l) = List.map (fun X => (⟨X, []⟩ : Ac)) l from List.take_of_length_le (by simp), List.map_map]
  congr 1
structure Aa (l : List (List Rq)) where
  i : Nat
  h : i ≤ l.length
def Aa.st (o c : Int) (tk : List Bool) {l : List (List Rq)} (a : Aa l) : PS := { n := 175, env := [(34, .int .i64 a.i), (33, .int .i64 l.length), (32, .sl 1 (rqLL l)), (9, .slt 2 (acN (l.take a.i)) 50), (0, .int .i64 o), (1, .int .i64 c), (2, .sl 1 (rqLL l)), (3, .sl 1 (bL tk))], objs := [], live := [(50, true)], nxt := 60 }
structure Ak (o c : Int) (l : List (List Rq)) where
  i : Nat
  s : Sb
  W : List UInt8
  G : List UInt8
  n : Nat
  hi : i ≤ l.length
  ho : s.o = o
  hc : s.c = c
  e : G ++ s.out = W
  hn : s.n = n
  hu : W.length ≤ 4 + 21 * psum (fun X => 1 + frs X) l i
  hq : s.q.length ≤ psum (fun X => 1 + frs X) l i
  hm : n ≤ psum (fun X => 1 + frs X) l i
def Ak.st (tk : List Bool) {o c : Int} {l : List (List Rq)} (a : Ak o c l) : PS := { n := 175, env := [(80, .int .i64 a.i), (79, .int .i64 l.length), (78, .sl 1 (rqLL l)), (16, .int .i64 a.n), (15, .str a.G), (14, .str a.W), (13, .int .i64 0), (12, .box 0 0), (0, .int .i64 o), (3, .sl 1 (bL tk))], objs := [(0, some (a.s.cs (.sl 1 (ints a.s.q)) a.s.mpv))], live := [], nxt := 60 }
structure Ab (X : List Rq) where
  j : Nat
  h : j ≤ X.length
def Ab.st (o : Int) (tk : List Bool) (l : List (List Rq)) (s s' : Sb) (i n : Nat) (W G : List UInt8) (f : Int) {X : List Rq} (a : Ab X) : PS := { n := 175, env := [(93, .int .i64 a.j), (92, .int .i64 X.length), (91, .sl 4 (rqL X)), (22, .str (badAll o (X.take a.j)).1), (21, .int .i64 (badAll o (X.take a.j)).2), (20, .int .i64 f), (19, .box 1 0), (18, .sl 4 (rqL X)), (17, .int .i64 i),
  (80, .int .i64 i), (79, .int .i64 l.length), (78, .sl 1 (rqLL l)), (16, .int .i64 n), (15, .str G), (14, .str W), (13, .int .i64 0), (12, .box 0 0), (0, .int .i64 o), (3, .sl 1 (bL tk))], objs := [(0, some (s.cs (.sl 1 (ints s.q)) s.mpv)), (1, some (s'.cs (.sl 1 (ints s'.q)) s'.mpv))], live := [], nxt := 60 }
set_option maxHeartbeats 8000000 in
theorem stubAsks_fs (o c : Int) (l : List (List Rq)) (tk : List Bool) (hb : psum (fun X => 1 + frs X) l l.length ≤ 2000000) (hl : l.length ≤ 2000000) (htk : tk.length ≤ 1000000000000000) : Fsp Tryd.prog 4 [] 0 [.int .i64 o, .int .i64 c, .sl 1 (rqLL l), .sl 1 (bL tk)] [] 0 (.bool true) := by
  have hf := few_fs (l.map fun X => ⟨X, []⟩) (by rw [fewN_l]; omega) (by rw [List.length_map]; omega)
  rw [fewN_l] at hf
  have hf := hf.takes (qs := [.sl 2 (acN l)]) rfl (fun i q p h1 h2 g v r => by
      rcases i with _ | i
      · simp at h1 h2; subst h1; subst h2
        refine Rel.nlRow ?_ (acN_takes l) ?_ r
        · rw [acN_length, acL_length, List.length_map]
        · intro p hp
          obtain ⟨a, -, rfl⟩ := List.mem_map.1 hp
          rfl
      · simp at h1)
  (refine Fsp.of (nx := 0) mixed Tryd.func4 rfl (by decide) (by first | exact Nat.le_refl _ | simp) (by simp [Tryd.f4]) ⟨by decide, by decide⟩ ?_; simp -implicitDefEqProofs only [push_cast, Tryd.f4, rqLL_length, seval])
  refine loopC_of (α := Aa l) (Aa.st o c tk) (fun a => l.length - a.i) ⟨0, Nat.zero_le _⟩ ?_ ?_
  · (simp only [Aa.st, List.take_zero]; exact Wk.by _ _ _ [] [] [50] (by simp) (by simp [wkV, PV.el, PV.weak, PS.get, PS.obj, PS.lv, lkp_hit, lkp_miss, lkp_nil, lko, wkL, res1, acN, rqLL_length]) (by simp [PS.get, PS.obj, PS.lv, lkp_hit, lkp_miss, lkp_nil, lko, wkL, mpv_wkC, wkC_int, wkC_str, wkC_bool, wkC_sl, wkC_mpure, wkC_any, PV.weak, wkL, res1, acN, rqLL_length]) (by simp [PS.get, PS.obj, PS.lv, lkp_hit, lkp_miss, lkp_nil, lko]) (by rfl) (by rfl) (by simp [lko]) (by simp) (by simp) (by simp) (fun i hi => absurd hi (Nat.not_lt_zero i)))
  · rintro ⟨i, hi⟩
    simp -implicitDefEqProofs only [push_cast, Aa.st, rqLL_length, seval]
    refine condC_split (fun g1 => ?_) (fun g1 => ?_)
    · have hlt : i < l.length := by simp at g1; omega
      have hg := rqLL_at hlt
      have hsn := acN_sn hlt
      have wi : IntKind.i64.wrap ((i : Int) + 1) = (i : Int) + 1 := wrap_i64_id (by omega) (by omega)
      have htl : (acN (l.take i)).length = i := by rw [acN_length, List.length_take]; omega
      generalize l.getD i [] = X at *
      simp -implicitDefEqProofs only [push_cast, hg, rqLL_length, hsn, wi, htl, seval]
      (repeat (first | refine ⟨by omega, ?_⟩ | refine ⟨by (unfold drawOk; kernel_rfl), ?_⟩))
      skip
      refine ⟨⟨i + 1, hlt⟩, Nat.sub_lt_sub_left hlt (Nat.lt_succ_self _), ?_⟩
      (simp only [Aa.st]; exact Wk.by _ _ _ [] [(50, 92)] [] (by simp) (by simp [wkV, PV.el, PV.weak, PS.get, PS.obj, PS.lv, lkp_hit, lkp_miss, lkp_nil, lko, wkL, res1]) (by simp [PS.get, PS.obj, PS.lv, lkp_hit, lkp_miss, lkp_nil, lko, wkL, mpv_wkC, wkC_int, wkC_str, wkC_bool, wkC_sl, wkC_mpure, wkC_any, PV.weak, wkL, res1]) (by simp [PS.get, PS.obj, PS.lv, lkp_hit, lkp_miss, lkp_nil, lko]) (by rfl) (by rfl) (by simp [lko]) (by simp) (by simp) (by simp) (fun i hi => absurd hi (Nat.not_lt_zero i)))
    · have hie : i = l.length := by simp at g1; omega
      subst hie
      rw [List.take_length]
      cases k2 : decide (((psum (fun X => 1 + frs X) l l.length : Nat) : Int) ≤ 2000)
      · rw [k2] at hf
        simp -implicitDefEqProofs only [push_cast, seval]
        refine callE_pure hf (by rfl) (by rfl) (by rfl) (by decide) (by rfl) (fun _ => by rfl) (by first | rfl | simp [gdOk, newToks]) ?_
        simp -implicitDefEqProofs only [push_cast, seval]
        refine callE_pure awake_fs (by rfl) (by rfl) (by rfl) (by decide) (by rfl) (fun _ => by rfl) (by first | rfl | simp [gdOk, newToks]) ?_
        simp -implicitDefEqProofs only [push_cast, seval]
      · rw [k2] at hf
        have hps : psum (fun X => 1 + frs X) l l.length ≤ 2000 := by simp at k2; omega
        have hN := new_fs o c
        by_cases ho : o = 0 ∨ o = 1
        · have hne : ((o != 0) && (o != 1)) = false := by rcases ho with rfl | rfl <;> rfl
          have hbg : bgn o ≠ [] ∧ (bgn o).length ≤ 4 := by rcases ho with rfl | rfl <;> exact ⟨by decide, by decide⟩
          cases hcl : isCl c
          · have hcn : (decide (c < 1) || decide (8 < c)) = true := by
              simp only [isCl, Bool.and_eq_false_iff, decide_eq_false_iff_not] at hcl
              simp only [Bool.or_eq_true, decide_eq_true_eq]
              omega
            rw [newR, show newS o c = (sb0, 1) by rw [newS, if_neg hbg.1, if_neg (by rw [hcl]; exact Bool.false_ne_true)]] at hN
            simp only [Sb.pv, Sb.cs, show sb0.mpv = .nilm from rfl, sb0, ints, List.map] at hN
            simp -implicitDefEqProofs only [push_cast, seval]
            refine callE_pure hf (by rfl) (by rfl) (by rfl) (by decide) (by rfl) (fun _ => by rfl) (by first | rfl | simp [gdOk, newToks]) ?_
            simp -implicitDefEqProofs only [push_cast, seval]
            refine callE_pure hN (by rfl) (by rfl) (by rfl) (by decide) (by rfl) (fun _ => by rfl) (by first | rfl | simp [gdOk, newToks]) ?_
            simp -implicitDefEqProofs only [push_cast, hne, hcn, seval]
            refine callE_pure awake_fs (by rfl) (by rfl) (by rfl) (by decide) (by rfl) (fun _ => by rfl) (by first | rfl | simp [gdOk, newToks]) ?_
            simp -implicitDefEqProofs only [push_cast, seval]
          · have hcn : (decide (c < 1) || decide (8 < c)) = false := by
              have : 1 ≤ c ∧ c ≤ 8 := by simpa [isCl] using hcl
              simp; omega
            have hc0 : ¬ c = 0 := by
              have : 1 ≤ c ∧ c ≤ 8 := by simpa [isCl] using hcl
              omega
            have hbn := bgn_fs o
            rw [newR, show newS o c = (({ sb0 with o := o, c := c, out := bgn o } : Sb), 0) by rw [newS, if_neg hbg.1, if_pos hcl]] at hN
            simp only [Sb.pv, Sb.cs, show Sb.mpv { sb0 with o := o, c := c, out := bgn o } = .nilm from rfl, sb0, ints, List.map] at hN
            simp -implicitDefEqProofs only [push_cast, seval]
            refine callE_pure hf (by rfl) (by rfl) (by rfl) (by decide) (by rfl) (fun _ => by rfl) (by first | rfl | simp [gdOk, newToks]) ?_
            simp -implicitDefEqProofs only [push_cast, seval]
            refine callE_pure hN (by rfl) (by rfl) (by rfl) (by decide) (by rfl) (fun _ => by rfl) (by first | rfl | simp [gdOk, newToks]) ?_
            simp -implicitDefEqProofs only [push_cast, hne, hcn, seval]
            refine callE_pure hbn (by rfl) (by rfl) (by rfl) (by decide) (by rfl) (fun _ => by rfl) (by first | rfl | simp [gdOk, newToks]) ?_
            simp -implicitDefEqProofs only [push_cast, rqLL_length, seval]
            skip
            refine loopC_of (α := Ak o c l) (Ak.st tk) (fun a => l.length - a.i) ⟨0, { sb0 with o := o, c := c, out := bgn o }, bgn o, [], 0, Nat.zero_le _, rfl, rfl, rfl, rfl, by omega, by simp [sb0], Nat.zero_le _⟩ ?_ ?_
            · (simp only [Ak.st, Sb.cs, sb0]; exact Wk.by _ _ _ [(0, 100)] [] [] (by simp) (by simp [wkV, PV.el, PV.weak, PS.get, PS.obj, PS.lv, lkp_hit, lkp_miss, lkp_nil, lko, wkL, res1, ints, Sb.mpv, wkC]) (by simp [PS.get, PS.obj, PS.lv, lkp_hit, lkp_miss, lkp_nil, lko, wkL, mpv_wkC, wkC_int, wkC_str, wkC_bool, wkC_sl, wkC_mpure, wkC_any, PV.weak, wkL, res1, ints, Sb.mpv, wkC]) (by simp [PS.get, PS.obj, PS.lv, lkp_hit, lkp_miss, lkp_nil, lko]) (by rfl) (by rfl) (by simp [lko]) (by simp) (by simp) (by simp) (fun i hi => absurd hi (Nat.not_lt_zero i)))
            · rintro ⟨i, s, W, G, n, hi, hso, hsc, he, hn, hu, hq, hm⟩
              simp -implicitDefEqProofs only [push_cast, Ak.st, Sb.cs, rqLL_length, seval]
              refine condC_split (fun g2 => ?_) (fun g2 => ?_)
              · have hlt : i < l.length := by simp at g2; omega
                have hg := rqLL_at hlt
                have hps1 := psum_sn (fun X => 1 + frs X) ([] : List Rq) hlt
                have hps2 := psum_le (fun X => 1 + frs X) l (i + 1)
                have wi : IntKind.i64.wrap ((i : Int) + 1) = (i : Int) + 1 := wrap_i64_id (by omega) (by omega)
                generalize l.getD i [] = X at *
                have hXl := frs_len X
                have hel : G.length + s.out.length = W.length := by rw [← he, List.length_append]
                have hXf : ∀ x ∈ X, x.Few := fun x hx => by
                  have h4 := psum_mem fr hx
                  have h5 : frs X ≤ 2000 := by omega
                  rw [frs] at h5
                  rw [fr] at h4
                  exact ⟨by omega, by omega, by omega⟩
                have hak := askM_fs s X ⟨by omega, by omega, by omega, by omega⟩ (by omega) hXf
                obtain ⟨r1, r2, r3, r4, r5, r6⟩ := ask_part s X (by rw [hsc]; exact hc0) (by omega)
                have hbl := badAll_len o X
                rw [hso] at r1 r5 r6
                rw [askR] at hak
                generalize (askS s X).1 = s' at *
                generalize (askS s X).2 = f at *
                subst r1
                simp only [Sb.pv, Sb.cs] at hak
                simp -implicitDefEqProofs only [push_cast, hg, rqLL_length, seval]
                (repeat (first | refine ⟨by omega, ?_⟩ | refine ⟨by (unfold drawOk; kernel_rfl), ?_⟩))
                refine callE_pure hak (by rfl) (by rfl) (by first | rfl | (simp only [List.map_cons, List.map_nil, List.toList_toArray, PS.ev, PS.get, lkp_hit, lkp_miss, lkp_nil, PV.un, PV.el, mpv_weak]; rfl)) (by decide) (by first | rfl | (simp only [tokLt, tokLt2, List.all_cons, List.all_nil, mpv_tok1]; rfl)) (fun _ => by rfl) (by first | rfl | simp [gdOk, newToks]) ?_
                simp -implicitDefEqProofs only [push_cast, rqL_length, mpv_weak, mpv_back1, mpv_tok1, mpv_cells, mpv_one, mpv_un, mpv_cnd, seval]
                skip
                refine loopC_of (α := Ab X) (Ab.st o tk l s s' i n W G (badAll o X).2) (fun a => X.length - a.j) ⟨0, Nat.zero_le _⟩ ?_ ?_
                · (simp only [Ab.st, Sb.cs, List.take_zero]; exact Wk.by _ _ _ [(0, 0), (1, 108)] [] [] (by simp) (by simp [wkV, PV.el, PV.weak, PS.get, PS.obj, PS.lv, lkp_hit, lkp_miss, lkp_nil, lko, wkL, res1, badAll]) (by simp [PS.get, PS.obj, PS.lv, lkp_hit, lkp_miss, lkp_nil, lko, wkL, mpv_wkC, wkC_int, wkC_str, wkC_bool, wkC_sl, wkC_mpure, wkC_any, PV.weak, wkL, res1, badAll]) (by simp [PS.get, PS.obj, PS.lv, lkp_hit, lkp_miss, lkp_nil, lko]) (by rfl) (by rfl) (by simp [lko]) (by simp) (by simp) (by simp) (fun i hi => absurd hi (Nat.not_lt_zero i)))
                · rintro ⟨j, hj⟩
                  simp -implicitDefEqProofs only [push_cast, Ab.st, Sb.cs, rqL_length, seval]
                  refine condC_split (fun g3 => ?_) (fun g3 => ?_)
                  · have hlt2 : j < X.length := by simp at g3; omega
                    have hg2 := rq_at hlt2
                    have htk := rtake_sn hlt2
                    have hsn := badAll_sn o (X.take j) (X.getD j rq0)
                    rw [← htk] at hsn
                    have hpp := packPut_fs o _ (hXf _ (getD_mem rq0 hlt2))
                    have wj : IntKind.i64.wrap ((j : Int) + 1) = (j : Int) + 1 := wrap_i64_id (by omega) (by omega)
                    have hl1 := badAll_len o (X.take j)
                    have hl2 := badAll_len o (X.take (j + 1))
                    have hl3 : frs (X.take j) ≤ frs X ∧ frs (X.take (j + 1)) ≤ frs X := by
                      have h1 := psum_le fr X j
                      have h2 := psum_le fr X (j + 1)
                      unfold frs psum at *
                      rw [List.take_length, List.take_length, List.take_length] at *
                      exact ⟨by omega, by omega⟩
                    rw [packR] at hpp
                    generalize X.getD j rq0 = x at *
                    obtain ⟨xC, xN, xB, xL⟩ := x
                    simp only [Rq.pv] at hg2 hpp
                    have hbi : badI o (badAll o (X.take j)) ⟨xC, xN, xB, xL⟩ = ((badAll o (X.take j)).1 ++ (packS o ⟨xC, xN, xB, xL⟩).1, if (badAll o (X.take j)).2 = 0 then (packS o ⟨xC, xN, xB, xL⟩).2 else (badAll o (X.take j)).2) := rfl
                    rw [hbi] at hsn
                    rw [hsn] at hl2
                    simp only [List.length_append] at hl2
                    generalize packS o ⟨xC, xN, xB, xL⟩ = pb at *
                    obtain ⟨p1, p2⟩ := pb
                    simp only at hpp hsn hl2
                    simp -implicitDefEqProofs only [push_cast, hg2, rqL_length, seval]
                    (repeat (first | refine ⟨by omega, ?_⟩ | refine ⟨by (unfold drawOk; kernel_rfl), ?_⟩))
                    refine callE_pure hpp (by rfl) (by rfl) (by rfl) (by decide) (by rfl) (fun _ => by rfl) (by first | rfl | simp [gdOk, newToks]) ?_
                    simp -implicitDefEqProofs only [push_cast, seval]
                    refine condC_split (fun g4 => ?_) (fun g4 => ?_)
                    · have g5 : (badAll o (X.take j)).2 = 0 := by simpa using g4
                      rw [if_pos g5] at hsn
                      simp -implicitDefEqProofs only [push_cast, wj, seval]
                      (repeat (first | refine ⟨by omega, ?_⟩ | refine ⟨by (unfold drawOk; kernel_rfl), ?_⟩))
                      refine ⟨⟨j + 1, hlt2⟩, Nat.sub_lt_sub_left hlt2 (Nat.lt_succ_self _), ?_⟩
                      (simp only [Ab.st, Sb.cs, hsn]; exact Wk.by _ _ _ [(0, 0), (1, 1)] [] [] (by simp) (by simp [wkV, PV.el, PV.weak, PS.get, PS.obj, PS.lv, lkp_hit, lkp_miss, lkp_nil, lko, wkL, res1]) (by simp [PS.get, PS.obj, PS.lv, lkp_hit, lkp_miss, lkp_nil, lko, wkL, mpv_wkC, wkC_int, wkC_str, wkC_bool, wkC_sl, wkC_mpure, wkC_any, PV.weak, wkL, res1]) (by simp [PS.get, PS.obj, PS.lv, lkp_hit, lkp_miss, lkp_nil, lko]) (by rfl) (by rfl) (by simp [lko]) (by simp) (by simp) (by simp) (fun i hi => absurd hi (Nat.not_lt_zero i)))
                    · have g5 : ¬ (badAll o (X.take j)).2 = 0 := by simpa using g4
                      rw [if_neg g5] at hsn
                      simp -implicitDefEqProofs only [push_cast, wj, seval]
                      (repeat (first | refine ⟨by omega, ?_⟩ | refine ⟨by (unfold drawOk; kernel_rfl), ?_⟩))
                      refine ⟨⟨j + 1, hlt2⟩, Nat.sub_lt_sub_left hlt2 (Nat.lt_succ_self _), ?_⟩
                      (simp only [Ab.st, Sb.cs, hsn]; exact Wk.by _ _ _ [(0, 0), (1, 1)] [] [] (by simp) (by simp [wkV, PV.el, PV.weak, PS.get, PS.obj, PS.lv, lkp_hit, lkp_miss, lkp_nil, lko, wkL, res1]) (by simp [PS.get, PS.obj, PS.lv, lkp_hit, lkp_miss, lkp_nil, lko, wkL, mpv_wkC, wkC_int, wkC_str, wkC_bool, wkC_sl, wkC_mpure, wkC_any, PV.weak, wkL, res1]) (by simp [PS.get, PS.obj, PS.lv, lkp_hit, lkp_miss, lkp_nil, lko]) (by rfl) (by rfl) (by simp [lko]) (by simp) (by simp) (by simp) (fun i hi => absurd hi (Nat.not_lt_zero i)))
                  · have hje : j = X.length := by simp at g3; omega
                    subst hje
                    rw [List.take_length]
                    simp -implicitDefEqProofs only [push_cast, bne_self_eq_false, rqL_length, seval]
                    refine condC_split (fun g4 => ?_) (fun g4 => ?_)
                    · have g5 : (badAll o X).2 = 0 := by simpa using g4
                      obtain ⟨q1, q2⟩ := r5 g5
                      have wn : IntKind.i64.wrap ((n : Int) + (X.length : Int)) = (n : Int) + (X.length : Int) := wrap_i64_id (by omega) (by omega)
                      have ew : G ++ s'.out = W ++ (badAll o X).1 := by rw [q1, ← List.append_assoc, he]
                      have hk : W.length + (badAll o X).1.length ≤ 9223372036854775807 := by omega
                      have hu2 : (W ++ (badAll o X).1).length ≤ 4 + 21 * psum (fun X => 1 + frs X) l (i + 1) := by rw [List.length_append]; omega
                      have hn2 : s'.n = ((n + X.length : Nat) : Int) := by rw [q2, hn]; rfl
                      have hnn : ((n + X.length : Nat) : Int) = (n : Int) + (X.length : Int) := rfl
                      have hel2 : G.length + s'.out.length = (W ++ (badAll o X).1).length := by rw [← ew, List.length_append]
                      have hm2 : n + X.length ≤ psum (fun X => 1 + frs X) l (i + 1) := by omega
                      have hq2 : s'.q.length ≤ psum (fun X => 1 + frs X) l (i + 1) := by omega
                      cases kt : decide ((i : Int) < (tk.length : Int))
                      · have hti : ((i : Int) < (tk.length : Int)) = False := eq_false (by simpa using kt)
                        simp -implicitDefEqProofs only [push_cast, wn, wi, rqL_length, bL_length, hti, seval]
                        refine ⟨hk, ?_⟩
                        refine ⟨⟨i + 1, s', W ++ (badAll o X).1, G, n + X.length, hlt, r3.trans hso, r2.trans hsc, ew, hn2, hu2, hq2, hm2⟩, Nat.sub_lt_sub_left hlt (Nat.lt_succ_self _), ?_⟩
                        (simp only [Ak.st, Sb.cs]; exact Wk.by _ _ _ [(0, 0)] [] [] (by simp) (by simp [wkV, PV.el, PV.weak, PS.get, PS.obj, PS.lv, lkp_hit, lkp_miss, lkp_nil, lko, wkL, res1]) (by simp [PS.get, PS.obj, PS.lv, lkp_hit, lkp_miss, lkp_nil, lko, wkL, mpv_wkC, wkC_int, wkC_str, wkC_bool, wkC_sl, wkC_mpure, wkC_any, PV.weak, wkL, res1]) (by simp [PS.get, PS.obj, PS.lv, lkp_hit, lkp_miss, lkp_nil, lko]) (by rfl) (by rfl) (by simp [lko]) (by simp) (by simp) (by simp) (fun i hi => absurd hi (Nat.not_lt_zero i)))
                      · have hti : ((i : Int) < (tk.length : Int)) = True := eq_true (by simpa using kt)
                        have hbt := bL_at (l := tk) (i := i) (by have := of_eq_true hti; omega)
                        cases hbv : tk.getD i false
                        · rw [hbv] at hbt
                          simp -implicitDefEqProofs only [push_cast, wn, wi, rqL_length, bL_length, hti, hbt, seval]
                          refine ⟨hk, ?_⟩
                          refine ⟨⟨i + 1, s', W ++ (badAll o X).1, G, n + X.length, hlt, r3.trans hso, r2.trans hsc, ew, hn2, hu2, hq2, hm2⟩, Nat.sub_lt_sub_left hlt (Nat.lt_succ_self _), ?_⟩
                          (simp only [Ak.st, Sb.cs]; exact Wk.by _ _ _ [(0, 0)] [] [] (by simp) (by simp [wkV, PV.el, PV.weak, PS.get, PS.obj, PS.lv, lkp_hit, lkp_miss, lkp_nil, lko, wkL, res1]) (by simp [PS.get, PS.obj, PS.lv, lkp_hit, lkp_miss, lkp_nil, lko, wkL, mpv_wkC, wkC_int, wkC_str, wkC_bool, wkC_sl, wkC_mpure, wkC_any, PV.weak, wkL, res1]) (by simp [PS.get, PS.obj, PS.lv, lkp_hit, lkp_miss, lkp_nil, lko]) (by rfl) (by rfl) (by simp [lko]) (by simp) (by simp) (by simp) (fun i hi => absurd hi (Nat.not_lt_zero i)))
                        · rw [hbv] at hbt
                          have ht1 := takeM_fs s'
                          simp only [Sb.pv, Sb.cs, show ({ s' with out := [] } : Sb).mpv = s'.mpv from rfl] at ht1
                          simp -implicitDefEqProofs only [push_cast, wn, wi, rqL_length, bL_length, hti, hbt, seval]
                          refine ⟨hk, ?_⟩
                          refine callE_pure ht1 (by rfl) (by rfl) (by first | rfl | (simp only [List.map_cons, List.map_nil, List.toList_toArray, PS.ev, PS.get, lkp_hit, lkp_miss, lkp_nil, PV.un, PV.el, mpv_weak]; rfl)) (by decide) (by first | rfl | (simp only [tokLt, tokLt2, List.all_cons, List.all_nil, mpv_tok1]; rfl)) (fun _ => by rfl) (by first | rfl | simp [gdOk, newToks]) ?_
                          simp -implicitDefEqProofs only [push_cast, wi, mpv_weak, mpv_back1, mpv_tok1, mpv_cells, mpv_one, mpv_un, mpv_cnd, seval]
                          (repeat (first | refine ⟨by omega, ?_⟩ | refine ⟨by (unfold drawOk; kernel_rfl), ?_⟩))
                          refine ⟨⟨i + 1, { s' with out := [] }, W ++ (badAll o X).1, G ++ s'.out, n + X.length, hlt, r3.trans hso, r2.trans hsc, by rw [List.append_nil]; exact ew, hn2, hu2, hq2, hm2⟩, Nat.sub_lt_sub_left hlt (Nat.lt_succ_self _), ?_⟩
                          (simp only [Ak.st, Sb.cs]; exact Wk.by _ _ _ [(0, 0)] [] [] (by simp) (by simp [wkV, PV.el, PV.weak, PS.get, PS.obj, PS.lv, lkp_hit, lkp_miss, lkp_nil, lko, wkL, res1, show ({ s' with out := [] } : Sb).mpv = s'.mpv from rfl]) (by simp [PS.get, PS.obj, PS.lv, lkp_hit, lkp_miss, lkp_nil, lko, wkL, mpv_wkC, wkC_int, wkC_str, wkC_bool, wkC_sl, wkC_mpure, wkC_any, PV.weak, wkL, res1, show ({ s' with out := [] } : Sb).mpv = s'.mpv from rfl]) (by simp [PS.get, PS.obj, PS.lv, lkp_hit, lkp_miss, lkp_nil, lko]) (by rfl) (by rfl) (by simp [lko]) (by simp) (by simp) (by simp) (fun i hi => absurd hi (Nat.not_lt_zero i)))
                    · have g5 : ¬ (badAll o X).2 = 0 := by simpa using g4
                      obtain ⟨q1, q2⟩ := r6 g5
                      have ew : G ++ s'.out = W := by rw [q1, he]
                      have hu2 : W.length ≤ 4 + 21 * psum (fun X => 1 + frs X) l (i + 1) := by omega
                      have hn2 : s'.n = (n : Int) := by rw [q2, hn]
                      have hel2 : G.length + s'.out.length = W.length := by rw [← ew, List.length_append]
                      have hm2 : n ≤ psum (fun X => 1 + frs X) l (i + 1) := by omega
                      have hq2 : s'.q.length ≤ psum (fun X => 1 + frs X) l (i + 1) := by omega
                      cases kt : decide ((i : Int) < (tk.length : Int))
                      · have hti : ((i : Int) < (tk.length : Int)) = False := eq_false (by simpa using kt)
                        simp -implicitDefEqProofs only [push_cast, wi, rqL_length, bL_length, hti, seval]
                        skip
                        refine ⟨⟨i + 1, s', W, G, n, hlt, r3.trans hso, r2.trans hsc, ew, hn2, hu2, hq2, hm2⟩, Nat.sub_lt_sub_left hlt (Nat.lt_succ_self _), ?_⟩
                        (simp only [Ak.st, Sb.cs]; exact Wk.by _ _ _ [(0, 0)] [] [] (by simp) (by simp [wkV, PV.el, PV.weak, PS.get, PS.obj, PS.lv, lkp_hit, lkp_miss, lkp_nil, lko, wkL, res1]) (by simp [PS.get, PS.obj, PS.lv, lkp_hit, lkp_miss, lkp_nil, lko, wkL, mpv_wkC, wkC_int, wkC_str, wkC_bool, wkC_sl, wkC_mpure, wkC_any, PV.weak, wkL, res1]) (by simp [PS.get, PS.obj, PS.lv, lkp_hit, lkp_miss, lkp_nil, lko]) (by rfl) (by rfl) (by simp [lko]) (by simp) (by simp) (by simp) (fun i hi => absurd hi (Nat.not_lt_zero i)))
                      · have hti : ((i : Int) < (tk.length : Int)) = True := eq_true (by simpa using kt)
                        have hbt := bL_at (l := tk) (i := i) (by have := of_eq_true hti; omega)
                        cases hbv : tk.getD i false
                        · rw [hbv] at hbt
                          simp -implicitDefEqProofs only [push_cast, wi, rqL_length, bL_length, hti, hbt, seval]
                          skip
                          refine ⟨⟨i + 1, s', W, G, n, hlt, r3.trans hso, r2.trans hsc, ew, hn2, hu2, hq2, hm2⟩, Nat.sub_lt_sub_left hlt (Nat.lt_succ_self _), ?_⟩
                          (simp only [Ak.st, Sb.cs]; exact Wk.by _ _ _ [(0, 0)] [] [] (by simp) (by simp [wkV, PV.el, PV.weak, PS.get, PS.obj, PS.lv, lkp_hit, lkp_miss, lkp_nil, lko, wkL, res1]) (by simp [PS.get, PS.obj, PS.lv, lkp_hit, lkp_miss, lkp_nil, lko, wkL, mpv_wkC, wkC_int, wkC_str, wkC_bool, wkC_sl, wkC_mpure, wkC_any, PV.weak, wkL, res1]) (by simp [PS.get, PS.obj, PS.lv, lkp_hit, lkp_miss, lkp_nil, lko]) (by rfl) (by rfl) (by simp [lko]) (by simp) (by simp) (by simp) (fun i hi => absurd hi (Nat.not_lt_zero i)))
                        · rw [hbv] at hbt
                          have ht1 := takeM_fs s'
                          simp only [Sb.pv, Sb.cs, show ({ s' with out := [] } : Sb).mpv = s'.mpv from rfl] at ht1
                          simp -implicitDefEqProofs only [push_cast, wi, rqL_length, bL_length, hti, hbt, seval]
                          skip
                          refine callE_pure ht1 (by rfl) (by rfl) (by first | rfl | (simp only [List.map_cons, List.map_nil, List.toList_toArray, PS.ev, PS.get, lkp_hit, lkp_miss, lkp_nil, PV.un, PV.el, mpv_weak]; rfl)) (by decide) (by first | rfl | (simp only [tokLt, tokLt2, List.all_cons, List.all_nil, mpv_tok1]; rfl)) (fun _ => by rfl) (by first | rfl | simp [gdOk, newToks]) ?_
                          simp -implicitDefEqProofs only [push_cast, wi, mpv_weak, mpv_back1, mpv_tok1, mpv_cells, mpv_one, mpv_un, mpv_cnd, seval]
                          (repeat (first | refine ⟨by omega, ?_⟩ | refine ⟨by (unfold drawOk; kernel_rfl), ?_⟩))
                          refine ⟨⟨i + 1, { s' with out := [] }, W, G ++ s'.out, n, hlt, r3.trans hso, r2.trans hsc, by rw [List.append_nil]; exact ew, hn2, hu2, hq2, hm2⟩, Nat.sub_lt_sub_left hlt (Nat.lt_succ_self _), ?_⟩
                          (simp only [Ak.st, Sb.cs]; exact Wk.by _ _ _ [(0, 0)] [] [] (by simp) (by simp [wkV, PV.el, PV.weak, PS.get, PS.obj, PS.lv, lkp_hit, lkp_miss, lkp_nil, lko, wkL, res1, show ({ s' with out := [] } : Sb).mpv = s'.mpv from rfl]) (by simp [PS.get, PS.obj, PS.lv, lkp_hit, lkp_miss, lkp_nil, lko, wkL, mpv_wkC, wkC_int, wkC_str, wkC_bool, wkC_sl, wkC_mpure, wkC_any, PV.weak, wkL, res1, show ({ s' with out := [] } : Sb).mpv = s'.mpv from rfl]) (by simp [PS.get, PS.obj, PS.lv, lkp_hit, lkp_miss, lkp_nil, lko]) (by rfl) (by rfl) (by simp [lko]) (by simp) (by simp) (by simp) (fun i hi => absurd hi (Nat.not_lt_zero i)))
              · have hie : i = l.length := by simp at g2; omega
                have ht1 := takeM_fs s
                have ht2 := takeM_fs { s with out := [] }
                have hse := sentM_fs { s with out := [] }
                simp only [Sb.pv, Sb.cs, show ({ s with out := [] } : Sb).mpv = s.mpv from rfl] at ht1 ht2 hse
                have hel : G.length + s.out.length = W.length := by rw [← he, List.length_append]
                have hw0 : (W == W) = true := beq_self_eq_true W
                simp -implicitDefEqProofs only [push_cast, seval]
                refine callE_pure ht1 (by rfl) (by rfl) (by first | rfl | (simp only [List.map_cons, List.map_nil, List.toList_toArray, PS.ev, PS.get, lkp_hit, lkp_miss, lkp_nil, PV.un, PV.el, mpv_weak]; rfl)) (by decide) (by first | rfl | (simp only [tokLt, tokLt2, List.all_cons, List.all_nil, mpv_tok1]; rfl)) (fun _ => by rfl) (by first | rfl | simp [gdOk, newToks]) ?_
                simp -implicitDefEqProofs only [push_cast, mpv_weak, mpv_back1, mpv_tok1, mpv_cells, mpv_one, mpv_un, mpv_cnd, seval]
                refine callE_pure ht2 (by rfl) (by rfl) (by first | rfl | (simp only [List.map_cons, List.map_nil, List.toList_toArray, PS.ev, PS.get, lkp_hit, lkp_miss, lkp_nil, PV.un, PV.el, mpv_weak]; rfl)) (by decide) (by first | rfl | (simp only [tokLt, tokLt2, List.all_cons, List.all_nil, mpv_tok1]; rfl)) (fun _ => by rfl) (by first | rfl | simp [gdOk, newToks]) ?_
                simp -implicitDefEqProofs only [push_cast, mpv_weak, mpv_back1, mpv_tok1, mpv_cells, mpv_one, mpv_un, mpv_cnd, seval]
                refine callE_pure awake_fs (by rfl) (by rfl) (by rfl) (by decide) (by rfl) (fun _ => by rfl) (by first | rfl | simp [gdOk, newToks]) ?_
                simp -implicitDefEqProofs only [push_cast, he, beq_self_eq_true, mpv_weak, mpv_back1, mpv_tok1, mpv_cells, mpv_one, mpv_un, mpv_cnd, seval]
                rw [hie] at hu
                refine ⟨by omega, ?_⟩
                refine callE_pure hse (by rfl) (by rfl) (by first | rfl | (simp only [List.map_cons, List.map_nil, List.toList_toArray, PS.ev, PS.get, lkp_hit, lkp_miss, lkp_nil, PV.un, PV.el, mpv_weak]; rfl)) (by decide) (by first | rfl | (simp only [tokLt, tokLt2, List.all_cons, List.all_nil, mpv_tok1]; rfl)) (fun _ => by rfl) (by first | rfl | simp [gdOk, newToks]) ?_
                simp -implicitDefEqProofs only [push_cast, hn, beq_self_eq_true, mpv_weak, mpv_back1, mpv_tok1, mpv_cells, mpv_one, mpv_un, mpv_cnd, seval]
                skip
        · have hne : ((o != 0) && (o != 1)) = true := by
            simp only [Bool.and_eq_true, bne_iff_ne]
            exact ⟨fun h => ho (.inl h), fun h => ho (.inr h)⟩
          have hb0 : bgn o = [] := by
            unfold bgn
            rw [if_neg (fun h => ho (.inl h)), if_neg (fun h => ho (.inr h))]
          rw [newR, show newS o c = (sb0, 8) by rw [newS, if_pos hb0]] at hN
          simp only [Sb.pv, Sb.cs, show sb0.mpv = .nilm from rfl, sb0, ints, List.map] at hN
          simp -implicitDefEqProofs only [push_cast, seval]
          refine callE_pure hf (by rfl) (by rfl) (by rfl) (by decide) (by rfl) (fun _ => by rfl) (by first | rfl | simp [gdOk, newToks]) ?_
          simp -implicitDefEqProofs only [push_cast, seval]
          refine callE_pure hN (by rfl) (by rfl) (by rfl) (by decide) (by rfl) (fun _ => by rfl) (by first | rfl | simp [gdOk, newToks]) ?_
          simp -implicitDefEqProofs only [push_cast, hne, seval]
          refine callE_pure awake_fs (by rfl) (by rfl) (by rfl) (by decide) (by rfl) (fun _ => by rfl) (by first | rfl | simp [gdOk, newToks]) ?_
          simp -implicitDefEqProofs only [push_cast, seval]

end Go.Proofs.Sh

/- The seat's rows: rows of rows of requests, rows of truths, as arguments. -/
set_option maxRecDepth 100000
set_option linter.unusedVariables false
namespace Go.Proofs.YtbpjoeopnaggoaaDoor
open Go.Pv Go.Proofs.Sh

theorem uRSS : Tryd.prog.underlying 25 = some (.slice 28) := by kernel_rfl
theorem uBS : Tryd.prog.underlying 26 = some (.slice 4) := by kernel_rfl
theorem drqss_of {H : Type} {d : DataW H} {ps : List PV} (h : dSl 1 (dOne (dSl 4 dRqG)) H d ps) : ∃ l : List (List Rq), ps = [.sl 1 (rqLL l)] ∧ psum (fun X => 1 + frs X) l l.length + 1 ≤ Rows.uptoBulk d := by
  obtain ⟨es, rfl, hl, h⟩ := h
  rcases h with ⟨rfl, rfl⟩ | ⟨elems, spare, rfl, hlen, hall⟩
  · exact ⟨[], rfl, by rw [bulk_nil]; simp [psum]⟩
  · obtain ⟨l, rfl, h2, h3⟩ := row_of (α := List Rq) (fun X => PV.sl 4 (rqL X)) (fun X q => 1 + frs X ≤ Rows.uptoBulk q) hlen (fun i p q h1 h2 => by
      obtain ⟨X, e, -, hb⟩ := drqs_of (hall i p q h1 h2)
      cases e
      exact ⟨X, rfl, by rw [frs]; omega⟩)
    refine ⟨l, rfl, ?_⟩
    have h4 := row_bulk (fun X => 1 + frs X) h2 h3
    have h5 := bulk_sl (elems := elems) (spare := spare)
    omega
theorem dbools_of {H : Type} {d : DataW H} {ps : List PV} (h : dSl 1 (dOne dBool) H d ps) : ∃ l : List Bool, ps = [.sl 1 (bL l)] ∧ l.length + 1 ≤ Rows.uptoBulk d := by
  obtain ⟨es, rfl, hl, h⟩ := h
  rcases h with ⟨rfl, rfl⟩ | ⟨elems, spare, rfl, hlen, hall⟩
  · exact ⟨[], rfl, by rw [bulk_nil]; simp⟩
  · obtain ⟨l, rfl, h2, h3⟩ := row_of (α := Bool) PV.bool (fun _ _ => True) hlen (fun i p q h1 h2 => by
      obtain ⟨b, he, -⟩ := hall i p q h1 h2
      cases he
      exact ⟨b, rfl, trivial⟩)
    refine ⟨l, rfl, ?_⟩
    have h4 := len_bulk h2
    have h5 := bulk_sl (elems := elems) (spare := spare)
    omega
theorem decERqss : DecE Tryd.prog 25 (dOne (dSl 1 (dOne (dSl 4 dRqG)))) := by
  have := DecD.sl (P := Tryd.prog) (t := 25) (e := 28) (g := dSl 4 dRqG) (G := dOne (dSl 4 dRqG)) uRSS decDRqs (by rw [show Tryd.prog.cellsOf 28 = 1 by kernel_rfl]; decide) (fun H d ps hl h => by
    obtain ⟨es, rfl, h⟩ := h
    exact ⟨.sl 4 es, rfl, es, rfl, h⟩)
  rw [show Tryd.prog.cellsOf 28 = 1 by kernel_rfl] at this
  exact .ofC this (.inr (.inr (.inr ⟨_, uRSS⟩)))
theorem decEBools : DecE Tryd.prog 26 (dOne (dSl 1 (dOne dBool))) := by
  have := DecD.sl (P := Tryd.prog) (t := 26) (e := 4) (g := dBool) (G := dOne dBool) uBS (.bool (by kernel_rfl)) (by rw [show Tryd.prog.cellsOf 4 = 1 by kernel_rfl]; decide) (fun H d ps hl h => by
    obtain ⟨b, rfl, h⟩ := h
    exact ⟨.bool b, rfl, b, rfl, h⟩)
  rw [show Tryd.prog.cellsOf 4 = 1 by kernel_rfl] at this
  exact .ofC this (.inr (.inr (.inr ⟨_, uBS⟩)))
end Go.Proofs.YtbpjoeopnaggoaaDoor
