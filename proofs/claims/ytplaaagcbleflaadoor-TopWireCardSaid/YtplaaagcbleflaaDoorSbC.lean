/- Package stub: copies, New, Take, Sent. -/
import Derived.Test.YtplaaagcbleflaaDoorSxIt
import Derived.Test.YtplaaagcbleflaaDoorPvMq
import Derived.Shelf.SlMaps.Clone
import Derived.Test.YtplaaagcbleflaaDoorPkPack
import Derived.Test.YtplaaagcbleflaaDoorPvXf
import Derived.Test.YtplaaagcbleflaaDoorTwU
set_option maxRecDepth 100000
set_option linter.unusedSimpArgs false
set_option linter.unusedVariables false
namespace Go.Proofs.Sh
open Go.Pv

theorem ints_one (l : List Int) : ∀ p ∈ ints l, p.cells.length = 1 := by
  intro p hp
  obtain ⟨x, _, rfl⟩ := List.mem_map.1 hp
  rfl
theorem cloneI_nil : Fsp Tryd.prog 51 [] 0 [.nilsl] [] 0 .nilsl := by
  (refine Fsp.ofs (nx := 0) mixed Tryd.func51 rfl (by simp [Tryd.f51]) ?_; simp -implicitDefEqProofs only [push_cast, Tryd.f51, seval])
theorem cloneI_sln (l : List Int) (hl : l.length ≤ 1000000) : Fsp Tryd.prog 51 [] 0 [.sln 1 (ints l)] [] 1 (.slt 1 (ints l) 0) := by
  (refine Fsp.ofs (nx := 0) mixed Tryd.func51 rfl (by simp [Tryd.f51]) ?_; simp -implicitDefEqProofs only [push_cast, Tryd.f51, seval])
  refine callE_bs ?_
  simp -implicitDefEqProofs only [push_cast, ints_length, seval]
  refine ⟨by omega, by omega, ?_⟩
  exact endK_toks [20] rfl rfl (by simp [PS.lv, lkp_hit, lkp_miss, lkp_nil]) ⟨by simp [resOk, PS.ev, PS.get, lkp_hit, PV.cnd], by simp [resPV, PS.get, lkp_hit], by simp [resOf, resPV, one', res3, res2, res1, idx, PS.get, lkp_hit, PV.un]⟩
theorem cloneI_fs (l : List Int) (hl : l.length ≤ 1000000) : Fsp Tryd.prog 51 [] 0 [.sl 1 (ints l)] [] 1 (.slt 1 (ints l) 0) := by
  refine of_sl' (fun h => ?_) (cloneI_sln l hl)
  rw [h]
  exact cloneI_nil.nilTok
set_option maxHeartbeats 2000000 in
theorem mapClone_calls (b : Nat) (es : Array MapEntry) (clock : Nat) (w : World) (hb : w.heap[b]? = some (.map es clock)) :
    Calls Tryd.prog 52 #[.map (some b)] w fun e w' => e = .returned (.map (some w.heap.size)) ∧ w' = w.alloc (.map es clock) := by
  have mixed := mixed
  have t4 := Tryd.underlying4; have a4 := Tryd.isAgg4; have z4 := Tryd.sizeOf4; have v4 := Tryd.zeroValue4; have u4 := run_underlying Tryd.underlying4
  have t20 := Tryd.underlying20; have a20 := Tryd.isAgg20; have z20 := Tryd.sizeOf20; have v20 := Tryd.zeroValue20; have u20 := run_underlying Tryd.underlying20
  have t40 := Tryd.underlying40; have a40 := Tryd.isAgg40; have z40 := Tryd.sizeOf40; have v40 := Tryd.zeroValue40; have u40 := run_underlying Tryd.underlying40
  have hq := fun w => Go.Proofs.run_eql_map_nil_sl (P := Tryd.prog) w 40 _ _ (some b) t40
  go_enter Tryd.func52, Tryd.ntmps52
  go_wp2
  rw [run_callFunc_extern Tryd.func74 (by kernel_rfl) (by kernel_rfl) (by kernel_rfl) (e := Extern.MapsClone.clone) (by kernel_rfl), Go.Proofs.run_maps_clone_sl w 40 hb]
  simp only [Result.andThen]
  rw [Oper.upon_value]
  go_wp2
  rw [Go.Proofs.run_typeAssert_map_sl _ 40 20 _ _ _ t40]
  simp only [Result.andThen]
  rw [Oper.upon_value]
  go_wp2
  go_ret
  exact ⟨rfl, rfl⟩
theorem mapClone_fs (es : List (PV × PV)) : Fsp Tryd.prog 52 [] 0 [.mpure es] [[.mobj es]] 0 (.mref 0) := by
  refine Fsp.of_map ⟨_, Tryd.func52, rfl, by rfl⟩ fun g w vs hI hs ha => ?_
  obtain ⟨vs⟩ := vs
  match vs, hs with
  | [x], _ =>
    obtain ⟨b, ents, c, rfl, hh, hm⟩ := hI.pureAt (ha 0 x _ rfl rfl).mpure_inv
    refine (mapClone_calls b ents c w hh).mono ?_
    rintro e w' ⟨rfl, rfl⟩
    exact ⟨ents, c, rfl, Pushed.alloc w _, hm⟩
theorem mapClone_nil : Fsp Tryd.prog 52 [] 0 [.nilm] [] 0 .nilm := by
  (refine Fsp.ofs (nx := 0) mixed Tryd.func52 rfl (by simp [Tryd.f52]) ?_; simp -implicitDefEqProofs only [push_cast, Tryd.f52, seval])
/-- The client's side of a stream. -/
structure Sb where
  o : Int
  c : Int
  d : Bool
  n : Int
  l : Int
  t : Int
  out : List UInt8
  came : List UInt8
  q : List Int
  m : Option (List (Int × Int))
def Sb.mpv (s : Sb) : PV := match s.m with | some m => .mpure (mkM m) | none => .nilm
def Sb.mm (s : Sb) : List (Int × Int) := s.m.getD []
def Sb.cs (s : Sb) (q m : PV) : List PV := [.int .i64 s.o, .int .i64 s.c, .bool s.d, .int .i64 s.n, .int .i64 s.l, .int .i64 s.t, .str s.out, .str s.came, q, m]
def Sb.pv (s : Sb) : PV := .agg (s.cs (.sl 1 (ints s.q)) s.mpv)
def sb0 : Sb := ⟨0, 0, false, 0, 0, 0, [], [], [], none⟩
set_option maxHeartbeats 2000000 in
theorem own_fs (s : Sb) (hq : s.q.length ≤ 1000000) : Fsp Tryd.prog 37 [] 0 [s.pv] [[.mobj (mkM s.mm)]] 1 (.agg (s.cs (.slt 1 (ints s.q) 0) (.mref 0))) := by
  have hc := cloneI_fs s.q hq
  obtain ⟨so, sc, sd, sn, sl, st, sout, scame, q, m⟩ := s
  cases m with
  | none =>
    have hm := mapClone_nil
    (refine Fsp.ofs (nx := 0) mixed Tryd.func37 rfl (by simp [Tryd.f37]) ?_; simp -implicitDefEqProofs only [push_cast, Tryd.f37, Sb.pv, Sb.cs, Sb.mpv, seval])
    skip
    refine callE_p hc ?_
    simp -implicitDefEqProofs only [push_cast, seval]
    refine callE_p hm ?_
    simp -implicitDefEqProofs only [push_cast, seval]
    skip
    exact endK_box [16] [60] rfl rfl (by simp [PS.lv, lkp_hit, lkp_miss, lkp_nil]) rfl rfl (by rfl) (fun i j ps h1 h2 => by (rcases i with _ | i <;> simp at h1 h2 <;> (subst h1; subst h2; exact ⟨_, rfl, (by (repeat' (first | exact wkL_nil | refine wkL_cons ?_ ?_)); all_goals (first | rfl | exact ⟨rfl, rfl⟩ | exact ⟨rfl, rfl, rfl⟩ | exact .inl rfl))⟩))) ⟨by simp [resOk, PS.get, PS.obj, lkp_hit, lkp_miss, lkp_nil, PS.ev, ldPV, ldOk, ofC, ofC1, TK.isAgg, Sb.cs, Sb.mm, tk_42, tsz_42], by simp [resPV, PS.get, PS.obj, lkp_hit, lkp_miss, lkp_nil, PS.ev, ldPV, ldOk, ofC, ofC1, TK.isAgg, Sb.cs, Sb.mm, tk_42, tsz_42], by simp [resOf, resPV, one', res3, res2, res1, PV.weak, PV.el, wkL, idx, PV.un, PS.get, PS.obj, lkp_hit, lkp_miss, lkp_nil, PS.ev, ldPV, ldOk, ofC, ofC1, TK.isAgg, Sb.cs, Sb.mm, tk_42, tsz_42]⟩
  | some m =>
    have hm := mapClone_fs (mkM m)
    (refine Fsp.ofs (nx := 0) mixed Tryd.func37 rfl (by simp [Tryd.f37]) ?_; simp -implicitDefEqProofs only [push_cast, Tryd.f37, Sb.pv, Sb.cs, Sb.mpv, seval])
    refine callE_p hc ?_
    simp -implicitDefEqProofs only [push_cast, seval]
    refine callE_new hm (by rfl) (by rfl) (by rfl) (by first | decide | simp) (by first | decide | simp) (by rfl) (by simp [tokLt1]) (fun _ => by rfl) (by first | rfl | simp [gdOk, newToks]) ?_
    simp -implicitDefEqProofs only [push_cast, upto, seval]
    skip
    exact endK_box [16] [36] rfl rfl (by simp [PS.lv, lkp_hit, lkp_miss, lkp_nil]) rfl rfl (by rfl) (fun i j ps h1 h2 => by (rcases i with _ | i <;> simp at h1 h2 <;> (subst h1; subst h2; exact ⟨_, rfl, (by (repeat' (first | exact wkL_nil | refine wkL_cons ?_ ?_)); all_goals (first | rfl | exact ⟨rfl, rfl⟩ | exact ⟨rfl, rfl, rfl⟩ | exact .inl rfl))⟩))) ⟨by simp [resOk, PS.get, PS.obj, lkp_hit, lkp_miss, lkp_nil, PS.ev, ldPV, ldOk, ofC, ofC1, TK.isAgg, Sb.cs, Sb.mm, tk_42, tsz_42], by simp [resPV, PS.get, PS.obj, lkp_hit, lkp_miss, lkp_nil, PS.ev, ldPV, ldOk, ofC, ofC1, TK.isAgg, Sb.cs, Sb.mm, tk_42, tsz_42], by simp [resOf, resPV, one', res3, res2, res1, PV.weak, PV.el, wkL, idx, PV.un, PS.get, PS.obj, lkp_hit, lkp_miss, lkp_nil, PS.ev, ldPV, ldOk, ofC, ofC1, TK.isAgg, Sb.cs, Sb.mm, tk_42, tsz_42]⟩

end Go.Proofs.Sh

/- Package stub: Wide, New, Take, Sent, Waiting, Fresh. -/
set_option maxRecDepth 100000
set_option linter.unusedSimpArgs false
set_option linter.unusedVariables false
namespace Go.Proofs.Sh
open Go.Pv

def isCl (c : Int) : Bool := decide (1 ≤ c) && decide (c ≤ 8)
theorem isClient_fs (c : Int) : Fsp Tryd.prog 50 [] 0 [.int .i64 c] [] 0 (.bool (isCl c)) := by
  cases k1 : decide ((1 : Int) ≤ c)
  · (refine Fsp.ofs (nx := 0) mixed Tryd.func50 rfl (by simp [Tryd.f50]) ?_; simp -implicitDefEqProofs only [push_cast, Tryd.f50, k1, seval])
    simp [isCl, k1]
  · cases k2 : decide (c ≤ 8) <;> ((refine Fsp.ofs (nx := 0) mixed Tryd.func50 rfl (by simp [Tryd.f50]) ?_; simp -implicitDefEqProofs only [push_cast, Tryd.f50, k1, k2, seval])) <;> simp [isCl, k1, k2]
def baseR (c : Int) : PV := if isCl c = true then .tup [.int .u32 (c * 1048576), .bool true] else .tup [.int .u32 0, .bool false]
theorem base_fs (c : Int) : Fsp Tryd.prog 36 [] 0 [.int .i64 c] [] 0 (baseR c) := by
  have hc := isClient_fs c
  cases h : isCl c
  · rw [h] at hc
    (refine Fsp.ofs (nx := 0) mixed Tryd.func36 rfl (by simp [Tryd.f36]) ?_; simp -implicitDefEqProofs only [push_cast, Tryd.f36, seval])
    refine callE_p hc ?_
    simp -implicitDefEqProofs only [push_cast, seval]
    rw [baseR, if_neg (by rw [h]; simp)]
    all_goals (first | done | rfl | exact ⟨_, rfl, by simp [wkL, res2, res1, PV.weak, PV.el]⟩)
  · rw [h] at hc
    have h1 : 1 ≤ c ∧ c ≤ 8 := by simpa [isCl] using h
    have r1 : IntKind.u32.wrap c = c := wrap_u32_id (by omega) (by omega)
    have r2 : IntKind.u32.wrap (c * 1048576) = c * 1048576 := wrap_u32_id (by omega) (by omega)
    (refine Fsp.ofs (nx := 0) mixed Tryd.func36 rfl (by simp [Tryd.f36]) ?_; simp -implicitDefEqProofs only [push_cast, Tryd.f36, seval])
    refine callE_p hc ?_
    simp -implicitDefEqProofs only [push_cast, r1, r2, seval]
    rw [baseR, if_pos h]
    all_goals (first | done | rfl | exact ⟨_, rfl, by simp [wkL, res2, res1, PV.weak, PV.el]⟩)

end Go.Proofs.Sh

/- The replies' forms: the table, run by the kernel. -/
set_option maxRecDepth 100000
set_option linter.unusedSimpArgs false
set_option linter.unusedVariables false
namespace Go.Proofs.Sh
open Go.Pv

/-- The forms of the replies' fields, from 0 on. -/
def repL : List (Option Fm) :=
  [none,
   none,
   none,
   none,
   none,
   none,
   none,
   none,
   none,
   some ⟨[4, (-2), (-2), 2, 2, 1, 1], false, 0⟩,
   some ⟨[4], false, 4⟩,
   some ⟨[4], false, 0⟩,
   some ⟨[], true, 0⟩,
   none,
   none,
   some ⟨[4, 1, 4], false, 4⟩,
   some ⟨[], false, 4⟩,
   none,
   none,
   none,
   none,
   none,
   none,
   none,
   none,
   some ⟨[1, 1], false, 1⟩,
   none,
   none,
   none,
   none,
   none,
   none,
   none,
   none,
   none,
   some ⟨[2, 2], true, 0⟩,
   none,
   none,
   some ⟨[4, 1], false, 0⟩,
   some ⟨[1], false, 0⟩,
   none,
   none,
   none,
   some ⟨[1], false, 0⟩,
   none,
   none,
   none,
   none,
   some ⟨[4, (-2), (-2), (-2), (-2), 2], false, 0⟩,
   none,
   none,
   some ⟨[4], false, 0⟩,
   none,
   none,
   none,
   none,
   none,
   none,
   none]
def optT : Option Fm → PV
  | some f => formT f
  | none => form0
theorem repL_ran : ranAllF Tryd.prog cl2 (fun f => Nat.beq f 77 || Nat.beq f 86) 60 10 38 (repL.map optT) 0 = true := by kernel_rfl
def inL (l : List (Option Fm)) (n : Int) : Option Fm := if 1 ≤ n ∧ n < l.length then (l[n.toNat]?).getD none else none
def replyOf (n : Int) : Option Fm := inL repL n
theorem reply_len : repL.length = 59 := by rfl
theorem reply_fs (n : Int) : Fsp Tryd.prog 38 [] 0 [.int .i64 n] [] 0 (optT (replyOf n)) := by
  by_cases h : 1 ≤ n ∧ n ≤ 58
  · obtain ⟨k, rfl⟩ : ∃ k : Nat, n = (k : Int) := ⟨n.toNat, by omega⟩
    have hlt : k < repL.length := by rw [reply_len]; omega
    have hk : (repL.map optT)[k]? = some (optT repL[k]) := by
      rw [List.getElem?_map, List.getElem?_eq_getElem hlt]; rfl
    have := ranAllF_at mixed cl2_ok repL_ran hk
    rw [Nat.zero_add] at this
    have e : replyOf (k : Int) = repL[k] := by
      rw [replyOf, inL, if_pos (by rw [reply_len]; omega), Int.toNat_natCast, List.getElem?_eq_getElem hlt]; rfl
    rw [e]; exact this
  · have e : replyOf n = none := by rw [replyOf, inL, if_neg (by rw [reply_len]; omega)]
    rw [e]
    have hq := request_out n h
    (refine Fsp.ofs (nx := 0) mixed Tryd.func38 rfl (by simp [Tryd.f38]) ?_; simp -implicitDefEqProofs only [push_cast, Tryd.f38, seval])
    refine callE_p hq ?_
    simp -implicitDefEqProofs only [push_cast, ez_e, kt_e, eg_e, seval]
    exact ⟨_, rfl, .inr ⟨_, rfl, .inr ⟨.inl rfl, rfl⟩, rfl, rfl, trivial⟩, rfl, trivial⟩
end Go.Proofs.Sh

/- Package stub: Ask. -/
set_option maxRecDepth 100000
set_option linter.unusedSimpArgs false
set_option linter.unusedVariables false
namespace Go.Proofs.Sh
open Go.Pv

/-- The bytes that are laid behind, request by request, and what is wrong. -/
def putI (o : Int) (a : List UInt8 × Int) (x : Rq) : List UInt8 × Int :=
  if a.2 = 0 then (if (packS o x).2 = 0 then (if 65536 < a.1.length + (packS o x).1.length then (a.1, 12) else (a.1 ++ (packS o x).1, 0)) else (a.1, (packS o x).2)) else a
def putAll (o : Int) (out : List UInt8) (X : List Rq) : List UInt8 × Int := X.foldl (putI o) (out, 0)
theorem putAll_sn (o : Int) (out : List UInt8) (X : List Rq) (x : Rq) : putAll o out (X ++ [x]) = putI o (putAll o out X) x := by simp [putAll]
theorem putI_stay (o : Int) : ∀ (X : List Rq) (a : List UInt8 × Int), a.2 ≠ 0 → X.foldl (putI o) a = a
  | [], _, _ => rfl
  | x :: X, a, h => by
    rw [List.foldl_cons, show putI o a x = a by rw [putI, if_neg h]]
    exact putI_stay o X a h
theorem putAll_bad {o : Int} {out : List UInt8} {X : List Rq} {i : Nat} (h : (putAll o out (X.take i)).2 ≠ 0) : putAll o out X = putAll o out (X.take i) := by
  have : putAll o out X = (X.drop i).foldl (putI o) (putAll o out (X.take i)) := by
    rw [putAll, putAll, ← List.foldl_append, List.take_append_drop]
  rw [this]; exact putI_stay o _ _ h
theorem putI_len {o : Int} {a : List UInt8 × Int} {x : Rq} (h : a.1.length ≤ 65536) : (putI o a x).1.length ≤ 65536 := by
  unfold putI
  split
  · split
    · split
      · exact h
      · rw [List.length_append]; omega
    · exact h
  · exact h
theorem putAll_len (o : Int) (out : List UInt8) (hs : out.length ≤ 65536) (X : List Rq) : (putAll o out X).1.length ≤ 65536 := by
  have : ∀ (X : List Rq) (a : List UInt8 × Int), a.1.length ≤ 65536 → (X.foldl (putI o) a).1.length ≤ 65536 := by
    intro X
    induction X with
    | nil => intro a h; exact h
    | cons x X ih => intro a h; exact ih _ (putI_len h)
  exact this X _ hs
/-- What is awaited, request by request. -/
def addR (a : Int × List Int × List (Int × Int)) (x : Rq) : Int × List Int × List (Int × Int) :=
  (a.1 + 1, if (replyOf x.C).isSome = true then (a.2.1 ++ [a.1 + 1], msetI a.2.2 (a.1 + 1) x.C) else a.2)
def addAll (a : Int × List Int × List (Int × Int)) (X : List Rq) : Int × List Int × List (Int × Int) := X.foldl addR a
theorem addAll_sn (a : Int × List Int × List (Int × Int)) (X : List Rq) (x : Rq) : addAll a (X ++ [x]) = addR (addAll a X) x := by simp [addAll]
theorem addAll_n (a : Int × List Int × List (Int × Int)) : ∀ X : List Rq, (addAll a X).1 = a.1 + X.length := by
  intro X
  induction X generalizing a with
  | nil => simp [addAll]
  | cons x X ih =>
    show (addAll (addR a x) X).1 = _
    rw [ih]; simp [addR]; omega
theorem addAll_q (a : Int × List Int × List (Int × Int)) : ∀ X : List Rq, (addAll a X).2.1.length ≤ a.2.1.length + X.length := by
  intro X
  induction X generalizing a with
  | nil => simp [addAll]
  | cons x X ih =>
    show (addAll (addR a x) X).2.1.length ≤ _
    have h1 := ih (addR a x)
    have h2 : (addR a x).2.1.length ≤ a.2.1.length + 1 := by
      unfold addR
      simp only
      split <;> simp
    rw [List.length_cons]; omega
def Sb.add (s : Sb) (X : List Rq) : Int × List Int × List (Int × Int) := addAll (s.n, s.q, s.mm) X
def asked (s : Sb) (X : List Rq) : Sb := { s with n := (s.add X).1, q := (s.add X).2.1, m := some (s.add X).2.2, out := (putAll s.o s.out X).1 }
def askE (s : Sb) (X : List Rq) : Int := if s.c = 0 then 20 else (putAll s.o s.out X).2
def askS (s : Sb) (X : List Rq) : Sb × Int := if askE s X = 0 then (asked s X, 0) else (s, askE s X)
def askR (s : Sb) (X : List Rq) : PV := .tup [(askS s X).1.pv, .int .i64 (askS s X).2]
structure SbOk (s : Sb) : Prop where
  q : s.q.length ≤ 500000
  o : s.out.length ≤ 65536
  n1 : 0 ≤ s.n
  n2 : s.n ≤ 1000000000000
theorem rq_mem {X : List Rq} {i : Nat} (h : i < X.length) : X.getD i rq0 ∈ X := by
  rw [List.getD_eq_getElem?_getD, List.getElem?_eq_getElem h]; exact List.getElem_mem h
theorem byL_bytes (L : List UInt8) : (byL L).all isByte = true := by simp [byL, isByte]
theorem byL_byteOf (L : List UInt8) : (byL L).map Go.Pv.byteOf = L := by
  induction L with
  | nil => rfl
  | cons b L ih => simp only [byL, List.map_cons] at ih ⊢; rw [ih]; simp [Go.Pv.byteOf]
theorem byL_app (a b : List UInt8) : byL a ++ b.map (fun x => (PV.int .u8 (x.toNat : Int))) = byL (a ++ b) := by simp [byL]
theorem hd_len (o C : Int) (n : Nat) : (hd o C n).length = 4 := by simp [hd, encB_length]
theorem packS_len {o : Int} {r : Rq} : (packS o r).1.length ≤ 65536 := by
  unfold packS
  split
  · split
    · simp
    · rename_i f _
      split
      · simp
      · split
        · simp
        · rename_i h
          simp only [decide_eq_true_eq] at h
          show (hd _ _ _ ++ _).length ≤ _
          rw [List.length_append, hd_len]; omega
  · simp
theorem packS_ge {o : Int} {r : Rq} (h : (packS o r).2 = 0) : 4 ≤ (packS o r).1.length := by
  unfold packS at h ⊢
  split
  · rename_i h1
    rw [if_pos h1] at h
    split
    · rename_i h2; rw [h2] at h; simp at h
    · rename_i f h2
      rw [h2] at h
      simp only at h
      split
      · rename_i h3; rw [if_pos h3] at h; simp only at h; rw [h] at h3; cases h3
      · rename_i h3
        rw [if_neg h3] at h
        split
        · rename_i h4; rw [if_pos h4] at h; cases h
        · rw [List.length_append, hd_len]; omega
  · rename_i h1; rw [if_neg h1] at h; cases h
theorem putAll_cnt (o : Int) (out : List UInt8) (X : List Rq) (h : (putAll o out X).2 = 0) : out.length + 4 * X.length ≤ (putAll o out X).1.length := by
  have : ∀ (X : List Rq) (a : List UInt8 × Int), a.2 = 0 → (X.foldl (putI o) a).2 = 0 → a.1.length + 4 * X.length ≤ (X.foldl (putI o) a).1.length := by
    intro X
    induction X with
    | nil => intro a _ _; simp
    | cons x X ih =>
      intro a ha h
      by_cases hz : (putI o a x).2 = 0
      · have h1 := ih _ hz h
        have h2 : a.1.length + 4 ≤ (putI o a x).1.length := by
          unfold putI at hz ⊢
          rw [if_pos ha] at hz ⊢
          split
          · rename_i hp
            rw [if_pos hp] at hz
            have := packS_ge hp
            split
            · rename_i h3; rw [if_pos h3] at hz; cases hz
            · rw [List.length_append]; omega
          · rename_i hp; rw [if_neg hp] at hz; exact absurd hz hp
        rw [List.foldl_cons, List.length_cons]; omega
      · rw [List.foldl_cons, putI_stay o X _ hz] at h
        exact absurd h hz
  exact this X _ rfl h
structure A1 (s : Sb) (X : List Rq) where
  i : Nat
  h : i ≤ X.length
  e : (putAll s.o s.out (X.take i)).2 = 0
def A1.st (s : Sb) {X : List Rq} (a : A1 s X) : PS := { n := 88, env := [(25, .int .i64 a.i), (24, .int .i64 X.length), (23, .sl 4 (rqL X)), (6, .slt 1 (byL (putAll s.o s.out (X.take a.i)).1) 50), (5, .int .i64 0), (4, .box 1 0), (2, .box 0 0), (1, .sl 4 (rqL X))], objs := [(0, some (s.cs (.sl 1 (ints s.q)) s.mpv)), (1, some (sb0.cs .nilsl .nilm))], live := [(50, true)], nxt := 60 }
structure A2 (X : List Rq) where
  i : Nat
  h : i ≤ X.length
def A2.st (s : Sb) (out : List UInt8) {X : List Rq} (a : A2 X) : PS := { n := 88, env := [(55, .int .i64 a.i), (54, .int .i64 X.length), (53, .sl 4 (rqL X)), (11, .box 2 0), (6, .sl 1 (byL out)), (5, .int .i64 0), (4, .box 1 0)], objs := [(1, some (sb0.cs .nilsl .nilm)), (2, some ({ s with n := (s.add (X.take a.i)).1 }.cs (.slt 1 (ints (s.add (X.take a.i)).2.1) 50) (.mref 3))), (3, some [.mobj (mkM (s.add (X.take a.i)).2.2)])], live := [(50, true)], nxt := 60 }
set_option maxHeartbeats 8000000 in
theorem askDead_fs (s : Sb) (X : List Rq) (hc : s.c = 0) : Fsp Tryd.prog 22 [] 0 [s.pv, .sl 4 (rqL X)] [] 0 (.tup [s.pv, .int .i64 20]) := by
  obtain ⟨so, sc, sd, sn, sl, st, sout, scame, q, m⟩ := s
  simp only at hc
  subst hc
  cases m <;> ((refine Fsp.ofs (nx := 0) mixed Tryd.func22 rfl (by simp [Tryd.f22]) ?_; simp -implicitDefEqProofs only [push_cast, Tryd.f22, Sb.pv, Sb.cs, Sb.mpv, seval])) <;> (exact ⟨_, rfl, by simp [wkL, res2, res1, PV.weak, PV.el]⟩)
set_option maxHeartbeats 8000000 in
theorem askBad_fs (s : Sb) (X : List Rq) (hs : SbOk s) (hX : X.length ≤ 1000000000000000) (hf : ∀ x ∈ X, x.Few) (hc : s.c ≠ 0) (er : Int) (her : er = (putAll s.o s.out X).2) (he : er ≠ 0) : Fsp Tryd.prog 22 [] 0 [s.pv, .sl 4 (rqL X)] [] 0 (.tup [s.pv, .int .i64 er]) := by
  have hcd : (s.c == 0) = false := by simpa using hc
  have hso := hs.o
  obtain ⟨so, sc, sd, sn, sl, st, sout, scame, q, m⟩ := s
  simp only at hcd her hso
  cases m with
  | none =>
    (refine Fsp.ofs (nx := 0) mixed Tryd.func22 rfl (by simp [Tryd.f22]) ?_; simp -implicitDefEqProofs only [push_cast, Tryd.f22, Sb.pv, Sb.cs, Sb.mpv, hcd, seval])
    refine callE_cs (by rfl) (by rfl) tk_9 tk_34 tk_5 tsz_5 (by rw [maxLen_eq]; omega) (by first | rfl | simp [gdOk]) ?_
    simp -implicitDefEqProofs only [push_cast, seval]
    skip
    refine loopC_of (α := A1 ⟨so, sc, sd, sn, sl, st, sout, scame, q, none⟩ X) (A1.st ⟨so, sc, sd, sn, sl, st, sout, scame, q, none⟩) (fun a => X.length - a.i) ⟨0, by omega, rfl⟩ ?_ ?_
    · (simp only [A1.st, Sb.cs, Sb.mpv, sb0]; exact Wk.at _ _ _ [(0, 0), (1, 4)] [(50, 32)] [] (by simp) (by simp [wkV, PV.el, PV.weak, PS.get, PS.obj, PS.lv, lkp_hit, lkp_miss, lkp_nil, lko, wkL, wkC, res1, putAll, rqL, ints]) (by simp [PS.get, PS.obj, PS.lv, lkp_hit, lkp_miss, lkp_nil, lko, wkL, wkC, PV.weak, wkL, wkC, res1, putAll, rqL, ints]))
    · rintro ⟨i, hi, hz⟩
      have hol := putAll_len so sout hso (X.take i)
      simp only at hz
      simp -implicitDefEqProofs only [push_cast, A1.st, Sb.cs, Sb.mpv, rqL_length, seval]
      refine condC_split (fun g1 => ?_) (fun g1 => ?_)
      · have hlt : i < X.length := by simp at g1; omega
        have hwi : IntKind.i64.wrap ((i : Int) + 1) = ((i + 1 : Nat) : Int) := by (rw [wrap_i64_id (by omega) (by omega)]; rfl)
        have hg := rq_at hlt
        have htk := rtake_sn hlt
        have hsn := putAll_sn so sout (X.take i) (X.getD i rq0)
        rw [← htk] at hsn
        have hxf : (X.getD i rq0).Few := hf _ (rq_mem hlt)
        have hstop := @putAll_bad so sout X (i + 1)
        generalize X.getD i rq0 = x at *
        rw [putI, if_pos hz] at hsn
        have hxp : x.pv = .agg [.int .i64 x.C, .sl 1 (ints x.N), .str x.B, .sl 1 (ints x.L)] := rfl
        rw [hxp] at hg
        have hp := packPut_fs so x hxf
        rw [packR, hxp] at hp
        have hpl := @packS_len so x
        simp -implicitDefEqProofs only [push_cast, hg, rqL_length, seval]
        (repeat (first | refine ⟨by omega, ?_⟩ | refine ⟨by (unfold drawOk; kernel_rfl), ?_⟩ | refine ⟨by (simp only [List.length_append] at *; omega), ?_⟩))
        skip
        refine callE_p hp ?_
        simp -implicitDefEqProofs only [push_cast, seval]
        refine condC_split (fun g0 => ?_) (fun g0 => ?_)
        · have h5 : ¬ (packS so x).2 = 0 := by simpa using g0
          rw [if_neg h5] at hsn
          have h6 := hstop (by rw [hsn]; exact h5)
          have h8 : er = (packS so x).2 := by rw [her, h6, hsn]
          subst h8
          simp -implicitDefEqProofs only [push_cast, seval]
          exact ⟨_, rfl, by simp [wkL, res2, res1, PV.weak, PV.el]⟩
        · have h5 : (packS so x).2 = 0 := by simpa using g0
          rw [if_pos h5] at hsn
          have hwl : IntKind.i64.wrap (((putAll so sout (X.take i)).1.length : Int) + ((packS so x).1.length : Int)) = (((putAll so sout (X.take i)).1.length + (packS so x).1.length : Nat) : Int) := by (rw [wrap_i64_id (by omega) (by omega)]; rfl)
          simp -implicitDefEqProofs only [push_cast, hwl, byL_length, seval]
          refine condC_split (fun g2 => ?_) (fun g2 => ?_)
          · have h7 : 65536 < (putAll so sout (X.take i)).1.length + (packS so x).1.length := by simp at g2; omega
            rw [if_pos h7] at hsn
            have h6 := hstop (by rw [hsn]; show (12 : Int) ≠ 0; decide)
            have h8 : er = 12 := by rw [her, h6, hsn]
            subst h8
            simp -implicitDefEqProofs only [push_cast, seval]
            exact ⟨_, rfl, by simp [wkL, res2, res1, PV.weak, PV.el]⟩
          · have h7 : ¬ 65536 < (putAll so sout (X.take i)).1.length + (packS so x).1.length := by simp at g2; omega
            rw [if_neg h7] at hsn
            simp -implicitDefEqProofs only [push_cast, byL_length, byL_app, List.length_map, seval]
            (repeat (first | refine ⟨by omega, ?_⟩ | refine ⟨by (unfold drawOk; kernel_rfl), ?_⟩ | refine ⟨by (simp only [List.length_append] at *; omega), ?_⟩))
            skip
            rw [hwi]
            refine ⟨⟨i + 1, by omega, by rw [hsn]⟩, by simp only; omega, ?_⟩
            (simp only [A1.st, Sb.cs, Sb.mpv, sb0, hsn]; exact Wk.at _ _ _ [(0, 0), (1, 1)] [(50, 156)] [] (by simp) (by simp [wkV, PV.el, PV.weak, PS.get, PS.obj, PS.lv, lkp_hit, lkp_miss, lkp_nil, lko, wkL, wkC, res1]) (by simp [PS.get, PS.obj, PS.lv, lkp_hit, lkp_miss, lkp_nil, lko, wkL, wkC, PV.weak, wkL, wkC, res1]))
      · have hie : i = X.length := by simp at g1; omega
        subst hie
        rw [List.take_length] at hz hol
        exact absurd hz (by rw [← her]; exact he)
  | some m =>
    (refine Fsp.ofs (nx := 0) mixed Tryd.func22 rfl (by simp [Tryd.f22]) ?_; simp -implicitDefEqProofs only [push_cast, Tryd.f22, Sb.pv, Sb.cs, Sb.mpv, hcd, seval])
    refine callE_cs (by rfl) (by rfl) tk_9 tk_34 tk_5 tsz_5 (by rw [maxLen_eq]; omega) (by first | rfl | simp [gdOk]) ?_
    simp -implicitDefEqProofs only [push_cast, seval]
    skip
    refine loopC_of (α := A1 ⟨so, sc, sd, sn, sl, st, sout, scame, q, some m⟩ X) (A1.st ⟨so, sc, sd, sn, sl, st, sout, scame, q, some m⟩) (fun a => X.length - a.i) ⟨0, by omega, rfl⟩ ?_ ?_
    · (simp only [A1.st, Sb.cs, Sb.mpv, sb0]; exact Wk.at _ _ _ [(0, 0), (1, 4)] [(50, 32)] [] (by simp) (by simp [wkV, PV.el, PV.weak, PS.get, PS.obj, PS.lv, lkp_hit, lkp_miss, lkp_nil, lko, wkL, wkC, res1, putAll, rqL, ints]) (by simp [PS.get, PS.obj, PS.lv, lkp_hit, lkp_miss, lkp_nil, lko, wkL, wkC, PV.weak, wkL, wkC, res1, putAll, rqL, ints]))
    · rintro ⟨i, hi, hz⟩
      have hol := putAll_len so sout hso (X.take i)
      simp only at hz
      simp -implicitDefEqProofs only [push_cast, A1.st, Sb.cs, Sb.mpv, rqL_length, seval]
      refine condC_split (fun g1 => ?_) (fun g1 => ?_)
      · have hlt : i < X.length := by simp at g1; omega
        have hwi : IntKind.i64.wrap ((i : Int) + 1) = ((i + 1 : Nat) : Int) := by (rw [wrap_i64_id (by omega) (by omega)]; rfl)
        have hg := rq_at hlt
        have htk := rtake_sn hlt
        have hsn := putAll_sn so sout (X.take i) (X.getD i rq0)
        rw [← htk] at hsn
        have hxf : (X.getD i rq0).Few := hf _ (rq_mem hlt)
        have hstop := @putAll_bad so sout X (i + 1)
        generalize X.getD i rq0 = x at *
        rw [putI, if_pos hz] at hsn
        have hxp : x.pv = .agg [.int .i64 x.C, .sl 1 (ints x.N), .str x.B, .sl 1 (ints x.L)] := rfl
        rw [hxp] at hg
        have hp := packPut_fs so x hxf
        rw [packR, hxp] at hp
        have hpl := @packS_len so x
        simp -implicitDefEqProofs only [push_cast, hg, rqL_length, seval]
        (repeat (first | refine ⟨by omega, ?_⟩ | refine ⟨by (unfold drawOk; kernel_rfl), ?_⟩ | refine ⟨by (simp only [List.length_append] at *; omega), ?_⟩))
        skip
        refine callE_p hp ?_
        simp -implicitDefEqProofs only [push_cast, seval]
        refine condC_split (fun g0 => ?_) (fun g0 => ?_)
        · have h5 : ¬ (packS so x).2 = 0 := by simpa using g0
          rw [if_neg h5] at hsn
          have h6 := hstop (by rw [hsn]; exact h5)
          have h8 : er = (packS so x).2 := by rw [her, h6, hsn]
          subst h8
          simp -implicitDefEqProofs only [push_cast, seval]
          exact ⟨_, rfl, by simp [wkL, res2, res1, PV.weak, PV.el]⟩
        · have h5 : (packS so x).2 = 0 := by simpa using g0
          rw [if_pos h5] at hsn
          have hwl : IntKind.i64.wrap (((putAll so sout (X.take i)).1.length : Int) + ((packS so x).1.length : Int)) = (((putAll so sout (X.take i)).1.length + (packS so x).1.length : Nat) : Int) := by (rw [wrap_i64_id (by omega) (by omega)]; rfl)
          simp -implicitDefEqProofs only [push_cast, hwl, byL_length, seval]
          refine condC_split (fun g2 => ?_) (fun g2 => ?_)
          · have h7 : 65536 < (putAll so sout (X.take i)).1.length + (packS so x).1.length := by simp at g2; omega
            rw [if_pos h7] at hsn
            have h6 := hstop (by rw [hsn]; show (12 : Int) ≠ 0; decide)
            have h8 : er = 12 := by rw [her, h6, hsn]
            subst h8
            simp -implicitDefEqProofs only [push_cast, seval]
            exact ⟨_, rfl, by simp [wkL, res2, res1, PV.weak, PV.el]⟩
          · have h7 : ¬ 65536 < (putAll so sout (X.take i)).1.length + (packS so x).1.length := by simp at g2; omega
            rw [if_neg h7] at hsn
            simp -implicitDefEqProofs only [push_cast, byL_length, byL_app, List.length_map, seval]
            (repeat (first | refine ⟨by omega, ?_⟩ | refine ⟨by (unfold drawOk; kernel_rfl), ?_⟩ | refine ⟨by (simp only [List.length_append] at *; omega), ?_⟩))
            skip
            rw [hwi]
            refine ⟨⟨i + 1, by omega, by rw [hsn]⟩, by simp only; omega, ?_⟩
            (simp only [A1.st, Sb.cs, Sb.mpv, sb0, hsn]; exact Wk.at _ _ _ [(0, 0), (1, 1)] [(50, 156)] [] (by simp) (by simp [wkV, PV.el, PV.weak, PS.get, PS.obj, PS.lv, lkp_hit, lkp_miss, lkp_nil, lko, wkL, wkC, res1]) (by simp [PS.get, PS.obj, PS.lv, lkp_hit, lkp_miss, lkp_nil, lko, wkL, wkC, PV.weak, wkL, wkC, res1]))
      · have hie : i = X.length := by simp at g1; omega
        subst hie
        rw [List.take_length] at hz hol
        exact absurd hz (by rw [← her]; exact he)
set_option maxHeartbeats 8000000 in
theorem askOk_fs0 (s : Sb) (X : List Rq) (hs : SbOk s) (hX : X.length ≤ 100000) (hf : ∀ x ∈ X, x.Few) (hc : s.c ≠ 0) (he : (putAll s.o s.out X).2 = 0) :
    Fsp Tryd.prog 22 [] 0 [s.pv, .sl 4 (rqL X)] [[.mobj (mkM (s.add X).2.2)]] 0 (.tup [.agg ((asked s X).cs (.sl 1 (ints (asked s X).q)) (.mref 0)), .int .i64 0]) := by
  have hcd : (s.c == 0) = false := by simpa using hc
  have hso := hs.o
  have hql : s.q.length ≤ 1000000 := by have := hs.q; omega
  have hq5 := hs.q
  have hn1 := hs.n1
  have hn2 := hs.n2
  obtain ⟨so, sc, sd, sn, sl, st, sout, scame, q, m⟩ := s
  simp only at hcd he hso hql hq5 hn1 hn2
  cases m with
  | none =>
    (refine Fsp.ofs (nx := 0) mixed Tryd.func22 rfl (by simp [Tryd.f22]) ?_; simp -implicitDefEqProofs only [push_cast, Tryd.f22, Sb.pv, Sb.cs, Sb.mpv, hcd, seval])
    refine callE_cs (by rfl) (by rfl) tk_9 tk_34 tk_5 tsz_5 (by rw [maxLen_eq]; omega) (by first | rfl | simp [gdOk]) ?_
    simp -implicitDefEqProofs only [push_cast, seval]
    skip
    refine loopC_of (α := A1 ⟨so, sc, sd, sn, sl, st, sout, scame, q, none⟩ X) (A1.st ⟨so, sc, sd, sn, sl, st, sout, scame, q, none⟩) (fun a => X.length - a.i) ⟨0, by omega, rfl⟩ ?_ ?_
    · (simp only [A1.st, Sb.cs, Sb.mpv, sb0]; exact Wk.at _ _ _ [(0, 0), (1, 4)] [(50, 32)] [] (by simp) (by simp [wkV, PV.el, PV.weak, PS.get, PS.obj, PS.lv, lkp_hit, lkp_miss, lkp_nil, lko, wkL, wkC, res1, putAll, rqL, ints]) (by simp [PS.get, PS.obj, PS.lv, lkp_hit, lkp_miss, lkp_nil, lko, wkL, wkC, PV.weak, wkL, wkC, res1, putAll, rqL, ints]))
    · rintro ⟨i, hi, hz⟩
      have hol := putAll_len so sout hso (X.take i)
      simp only at hz
      simp -implicitDefEqProofs only [push_cast, A1.st, Sb.cs, Sb.mpv, rqL_length, seval]
      refine condC_split (fun g1 => ?_) (fun g1 => ?_)
      · have hlt : i < X.length := by simp at g1; omega
        have hwi : IntKind.i64.wrap ((i : Int) + 1) = ((i + 1 : Nat) : Int) := by (rw [wrap_i64_id (by omega) (by omega)]; rfl)
        have hg := rq_at hlt
        have htk := rtake_sn hlt
        have hsn := putAll_sn so sout (X.take i) (X.getD i rq0)
        rw [← htk] at hsn
        have hxf : (X.getD i rq0).Few := hf _ (rq_mem hlt)
        have hstop := @putAll_bad so sout X (i + 1)
        generalize X.getD i rq0 = x at *
        rw [putI, if_pos hz] at hsn
        have hxp : x.pv = .agg [.int .i64 x.C, .sl 1 (ints x.N), .str x.B, .sl 1 (ints x.L)] := rfl
        rw [hxp] at hg
        have hp := packPut_fs so x hxf
        rw [packR, hxp] at hp
        have hpl := @packS_len so x
        simp -implicitDefEqProofs only [push_cast, hg, rqL_length, seval]
        (repeat (first | refine ⟨by omega, ?_⟩ | refine ⟨by (unfold drawOk; kernel_rfl), ?_⟩ | refine ⟨by (simp only [List.length_append] at *; omega), ?_⟩))
        skip
        refine callE_p hp ?_
        simp -implicitDefEqProofs only [push_cast, seval]
        refine condC_split (fun g0 => ?_) (fun g0 => ?_)
        · have h5 : ¬ (packS so x).2 = 0 := by simpa using g0
          rw [if_neg h5] at hsn
          have h6 := hstop (by rw [hsn]; exact h5)
          exact absurd he (by rw [h6, hsn]; exact h5)
        · have h5 : (packS so x).2 = 0 := by simpa using g0
          rw [if_pos h5] at hsn
          have hwl : IntKind.i64.wrap (((putAll so sout (X.take i)).1.length : Int) + ((packS so x).1.length : Int)) = (((putAll so sout (X.take i)).1.length + (packS so x).1.length : Nat) : Int) := by (rw [wrap_i64_id (by omega) (by omega)]; rfl)
          simp -implicitDefEqProofs only [push_cast, hwl, byL_length, seval]
          refine condC_split (fun g2 => ?_) (fun g2 => ?_)
          · have h7 : 65536 < (putAll so sout (X.take i)).1.length + (packS so x).1.length := by simp at g2; omega
            rw [if_pos h7] at hsn
            have h6 := hstop (by rw [hsn]; show (12 : Int) ≠ 0; decide)
            exact absurd he (by rw [h6, hsn]; show (12 : Int) ≠ 0; decide)
          · have h7 : ¬ 65536 < (putAll so sout (X.take i)).1.length + (packS so x).1.length := by simp at g2; omega
            rw [if_neg h7] at hsn
            simp -implicitDefEqProofs only [push_cast, byL_length, byL_app, List.length_map, seval]
            (repeat (first | refine ⟨by omega, ?_⟩ | refine ⟨by (unfold drawOk; kernel_rfl), ?_⟩ | refine ⟨by (simp only [List.length_append] at *; omega), ?_⟩))
            skip
            rw [hwi]
            refine ⟨⟨i + 1, by omega, by rw [hsn]⟩, by simp only; omega, ?_⟩
            (simp only [A1.st, Sb.cs, Sb.mpv, sb0, hsn]; exact Wk.at _ _ _ [(0, 0), (1, 1)] [(50, 156)] [] (by simp) (by simp [wkV, PV.el, PV.weak, PS.get, PS.obj, PS.lv, lkp_hit, lkp_miss, lkp_nil, lko, wkL, wkC, res1]) (by simp [PS.get, PS.obj, PS.lv, lkp_hit, lkp_miss, lkp_nil, lko, wkL, wkC, PV.weak, wkL, wkC, res1]))
      · have hie : i = X.length := by simp at g1; omega
        subst hie
        rw [List.take_length] at hz hol
        have ho := own_fs ⟨so, sc, sd, sn, sl, st, sout, scame, q, none⟩ hql
        simp only [Sb.pv, Sb.cs, Sb.mpv, Sb.mm, Option.getD] at ho
        simp -implicitDefEqProofs only [push_cast, seval]
        refine callE_new ho (by rfl) (by rfl) (by rfl) (by first | decide | simp) (by first | decide | simp) (by rfl) (by simp [tokLt1]) (fun _ => by rfl) (by first | rfl | simp [gdOk, newToks]) ?_
        simp -implicitDefEqProofs only [push_cast, upto, seval]
        skip
        refine loopC_of (α := A2 X) (A2.st ⟨so, sc, sd, sn, sl, st, sout, scame, q, none⟩ (putAll so sout X).1) (fun a => X.length - a.i) ⟨0, by omega⟩ ?_ ?_
        · (simp only [A2.st, Sb.cs, Sb.mpv, sb0, Sb.add]; exact Wk.at _ _ _ [(1, 1), (2, 72), (3, 68)] [(50, 68)] [] (by simp) (by simp [wkV, PV.el, PV.weak, PS.get, PS.obj, PS.lv, lkp_hit, lkp_miss, lkp_nil, lko, wkL, wkC, res1, addAll, List.take_zero, Sb.mm, ints, rqL_length]) (by simp [PS.get, PS.obj, PS.lv, lkp_hit, lkp_miss, lkp_nil, lko, wkL, wkC, PV.weak, wkL, wkC, res1, addAll, List.take_zero, Sb.mm, ints, rqL_length]))
        · rintro ⟨i, hi⟩
          have hqn := addAll_q (sn, q, (⟨so, sc, sd, sn, sl, st, sout, scame, q, none⟩ : Sb).mm) (X.take i)
          have hnn := addAll_n (sn, q, (⟨so, sc, sd, sn, sl, st, sout, scame, q, none⟩ : Sb).mm) (X.take i)
          have hlt' : (X.take i).length = i := by rw [List.length_take]; omega
          simp only [hlt'] at hqn hnn
          simp only [A2.st, Sb.add]
          simp -implicitDefEqProofs only [push_cast, Sb.cs, Sb.mpv, rqL_length, seval]
          refine condC_split (fun g1 => ?_) (fun g1 => ?_)
          · have hlt : i < X.length := by simp at g1; omega
            have hwi : IntKind.i64.wrap ((i : Int) + 1) = ((i + 1 : Nat) : Int) := by (rw [wrap_i64_id (by omega) (by omega)]; rfl)
            have hg := rq_at hlt
            have htk := rtake_sn hlt
            have had := addAll_sn (sn, q, (⟨so, sc, sd, sn, sl, st, sout, scame, q, none⟩ : Sb).mm) (X.take i) (X.getD i rq0)
            rw [← htk] at had
            generalize X.getD i rq0 = x at *
            generalize addAll (sn, q, (⟨so, sc, sd, sn, sl, st, sout, scame, q, none⟩ : Sb).mm) (X.take i) = a at *
            obtain ⟨an, aq, am⟩ := a
            simp only at hqn hnn
            have hxp : x.pv = .agg [.int .i64 x.C, .sl 1 (ints x.N), .str x.B, .sl 1 (ints x.L)] := rfl
            rw [hxp] at hg
            have hwn : IntKind.i64.wrap (an + 1) = an + 1 := wrap_i64_id (by omega) (by omega)
            have hrp := reply_fs x.C
            cases hro : replyOf x.C with
            | none =>
              rw [addR, if_neg (by rw [hro]; simp)] at had
              rw [hro] at hrp
              simp only [optT, form0] at hrp
              simp -implicitDefEqProofs only [push_cast, hg, rqL_length, hwn, seval]
              (repeat (first | refine ⟨by omega, ?_⟩ | refine ⟨by (unfold drawOk; kernel_rfl), ?_⟩ | refine ⟨by (simp only [List.length_append] at *; omega), ?_⟩))
              refine callE_p hrp ?_
              simp -implicitDefEqProofs only [push_cast, seval]
              skip
              rw [hwi]
              refine ⟨⟨i + 1, by omega⟩, by simp only; omega, ?_⟩
              (simp only [A2.st, Sb.cs, Sb.mpv, sb0, Sb.add, had]; exact Wk.at _ _ _ [(1, 1), (2, 2), (3, 3)] [(50, 50)] [] (by simp) (by simp [wkV, PV.el, PV.weak, PS.get, PS.obj, PS.lv, lkp_hit, lkp_miss, lkp_nil, lko, wkL, wkC, res1]) (by simp [PS.get, PS.obj, PS.lv, lkp_hit, lkp_miss, lkp_nil, lko, wkL, wkC, PV.weak, wkL, wkC, res1]))
            | some f =>
              rw [addR, if_pos (by rw [hro]; rfl)] at had
              rw [hro] at hrp
              simp only [optT, formT, Fm.pv] at hrp
              have hka := kAll_mkM (P := Tryd.prog) tk_3 am
              simp -implicitDefEqProofs only [push_cast, hg, rqL_length, hwn, seval]
              (repeat (first | refine ⟨by omega, ?_⟩ | refine ⟨by (unfold drawOk; kernel_rfl), ?_⟩ | refine ⟨by (simp only [List.length_append] at *; omega), ?_⟩))
              refine callE_p hrp ?_
              simp -implicitDefEqProofs only [push_cast, hwn, ints_length, mset_mkM, hka, seval]
              (repeat (first | refine ⟨by omega, ?_⟩ | refine ⟨by (unfold drawOk; kernel_rfl), ?_⟩ | refine ⟨by (simp only [List.length_append] at *; omega), ?_⟩))
              skip
              rw [hwi]
              refine ⟨⟨i + 1, by omega⟩, by simp only; omega, ?_⟩
              (simp only [A2.st, Sb.cs, Sb.mpv, sb0, Sb.add, had]; exact Wk.at _ _ _ [(1, 1), (2, 2), (3, 3)] [(50, 160)] [] (by simp) (by simp [wkV, PV.el, PV.weak, PS.get, PS.obj, PS.lv, lkp_hit, lkp_miss, lkp_nil, lko, wkL, wkC, res1, ints]) (by simp [PS.get, PS.obj, PS.lv, lkp_hit, lkp_miss, lkp_nil, lko, wkL, wkC, PV.weak, wkL, wkC, res1, ints]))
          · have hie2 : i = X.length := by simp at g1; omega
            subst hie2
            rw [List.take_length]
            have hbo := byL_byteOf (putAll so sout X).1
            have hbb := byL_bytes (putAll so sout X).1
            simp -implicitDefEqProofs only [push_cast, hbo, hbb, seval]
            (repeat (first | refine ⟨by omega, ?_⟩ | refine ⟨by (unfold drawOk; kernel_rfl), ?_⟩ | refine ⟨by (simp only [List.length_append] at *; omega), ?_⟩))
            skip
            exact endK_box [] [3] rfl rfl (by simp [PS.lv, lkp_hit, lkp_miss, lkp_nil]) rfl rfl (by rfl) (fun i j ps h1 h2 => by (rcases i with _ | i <;> simp at h1 h2 <;> (subst h1; subst h2; exact ⟨_, rfl, (by (repeat' (first | exact wkL_nil | refine wkL_cons ?_ ?_)); all_goals (first | rfl | exact ⟨rfl, rfl⟩ | exact ⟨rfl, rfl, rfl⟩ | exact .inl rfl))⟩))) ⟨by simp [resOk, PS.get, PS.obj, lkp_hit, lkp_miss, lkp_nil, PS.ev, ldPV, ldOk, ofC, ofC1, TK.isAgg, Sb.cs, asked, Sb.add, tk_42, tsz_42], by simp [resPV, PS.get, PS.obj, lkp_hit, lkp_miss, lkp_nil, PS.ev, ldPV, ldOk, ofC, ofC1, TK.isAgg, Sb.cs, asked, Sb.add, tk_42, tsz_42], by simp [resOf, resPV, one', res3, res2, res1, PV.weak, PV.el, wkL, idx, PV.un, PS.get, PS.obj, lkp_hit, lkp_miss, lkp_nil, PS.ev, ldPV, ldOk, ofC, ofC1, TK.isAgg, Sb.cs, asked, Sb.add, tk_42, tsz_42]⟩
  | some m =>
    (refine Fsp.ofs (nx := 0) mixed Tryd.func22 rfl (by simp [Tryd.f22]) ?_; simp -implicitDefEqProofs only [push_cast, Tryd.f22, Sb.pv, Sb.cs, Sb.mpv, hcd, seval])
    refine callE_cs (by rfl) (by rfl) tk_9 tk_34 tk_5 tsz_5 (by rw [maxLen_eq]; omega) (by first | rfl | simp [gdOk]) ?_
    simp -implicitDefEqProofs only [push_cast, seval]
    skip
    refine loopC_of (α := A1 ⟨so, sc, sd, sn, sl, st, sout, scame, q, some m⟩ X) (A1.st ⟨so, sc, sd, sn, sl, st, sout, scame, q, some m⟩) (fun a => X.length - a.i) ⟨0, by omega, rfl⟩ ?_ ?_
    · (simp only [A1.st, Sb.cs, Sb.mpv, sb0]; exact Wk.at _ _ _ [(0, 0), (1, 4)] [(50, 32)] [] (by simp) (by simp [wkV, PV.el, PV.weak, PS.get, PS.obj, PS.lv, lkp_hit, lkp_miss, lkp_nil, lko, wkL, wkC, res1, putAll, rqL, ints]) (by simp [PS.get, PS.obj, PS.lv, lkp_hit, lkp_miss, lkp_nil, lko, wkL, wkC, PV.weak, wkL, wkC, res1, putAll, rqL, ints]))
    · rintro ⟨i, hi, hz⟩
      have hol := putAll_len so sout hso (X.take i)
      simp only at hz
      simp -implicitDefEqProofs only [push_cast, A1.st, Sb.cs, Sb.mpv, rqL_length, seval]
      refine condC_split (fun g1 => ?_) (fun g1 => ?_)
      · have hlt : i < X.length := by simp at g1; omega
        have hwi : IntKind.i64.wrap ((i : Int) + 1) = ((i + 1 : Nat) : Int) := by (rw [wrap_i64_id (by omega) (by omega)]; rfl)
        have hg := rq_at hlt
        have htk := rtake_sn hlt
        have hsn := putAll_sn so sout (X.take i) (X.getD i rq0)
        rw [← htk] at hsn
        have hxf : (X.getD i rq0).Few := hf _ (rq_mem hlt)
        have hstop := @putAll_bad so sout X (i + 1)
        generalize X.getD i rq0 = x at *
        rw [putI, if_pos hz] at hsn
        have hxp : x.pv = .agg [.int .i64 x.C, .sl 1 (ints x.N), .str x.B, .sl 1 (ints x.L)] := rfl
        rw [hxp] at hg
        have hp := packPut_fs so x hxf
        rw [packR, hxp] at hp
        have hpl := @packS_len so x
        simp -implicitDefEqProofs only [push_cast, hg, rqL_length, seval]
        (repeat (first | refine ⟨by omega, ?_⟩ | refine ⟨by (unfold drawOk; kernel_rfl), ?_⟩ | refine ⟨by (simp only [List.length_append] at *; omega), ?_⟩))
        skip
        refine callE_p hp ?_
        simp -implicitDefEqProofs only [push_cast, seval]
        refine condC_split (fun g0 => ?_) (fun g0 => ?_)
        · have h5 : ¬ (packS so x).2 = 0 := by simpa using g0
          rw [if_neg h5] at hsn
          have h6 := hstop (by rw [hsn]; exact h5)
          exact absurd he (by rw [h6, hsn]; exact h5)
        · have h5 : (packS so x).2 = 0 := by simpa using g0
          rw [if_pos h5] at hsn
          have hwl : IntKind.i64.wrap (((putAll so sout (X.take i)).1.length : Int) + ((packS so x).1.length : Int)) = (((putAll so sout (X.take i)).1.length + (packS so x).1.length : Nat) : Int) := by (rw [wrap_i64_id (by omega) (by omega)]; rfl)
          simp -implicitDefEqProofs only [push_cast, hwl, byL_length, seval]
          refine condC_split (fun g2 => ?_) (fun g2 => ?_)
          · have h7 : 65536 < (putAll so sout (X.take i)).1.length + (packS so x).1.length := by simp at g2; omega
            rw [if_pos h7] at hsn
            have h6 := hstop (by rw [hsn]; show (12 : Int) ≠ 0; decide)
            exact absurd he (by rw [h6, hsn]; show (12 : Int) ≠ 0; decide)
          · have h7 : ¬ 65536 < (putAll so sout (X.take i)).1.length + (packS so x).1.length := by simp at g2; omega
            rw [if_neg h7] at hsn
            simp -implicitDefEqProofs only [push_cast, byL_length, byL_app, List.length_map, seval]
            (repeat (first | refine ⟨by omega, ?_⟩ | refine ⟨by (unfold drawOk; kernel_rfl), ?_⟩ | refine ⟨by (simp only [List.length_append] at *; omega), ?_⟩))
            skip
            rw [hwi]
            refine ⟨⟨i + 1, by omega, by rw [hsn]⟩, by simp only; omega, ?_⟩
            (simp only [A1.st, Sb.cs, Sb.mpv, sb0, hsn]; exact Wk.at _ _ _ [(0, 0), (1, 1)] [(50, 156)] [] (by simp) (by simp [wkV, PV.el, PV.weak, PS.get, PS.obj, PS.lv, lkp_hit, lkp_miss, lkp_nil, lko, wkL, wkC, res1]) (by simp [PS.get, PS.obj, PS.lv, lkp_hit, lkp_miss, lkp_nil, lko, wkL, wkC, PV.weak, wkL, wkC, res1]))
      · have hie : i = X.length := by simp at g1; omega
        subst hie
        rw [List.take_length] at hz hol
        have ho := own_fs ⟨so, sc, sd, sn, sl, st, sout, scame, q, some m⟩ hql
        simp only [Sb.pv, Sb.cs, Sb.mpv, Sb.mm, Option.getD] at ho
        simp -implicitDefEqProofs only [push_cast, seval]
        refine callE_new ho (by rfl) (by rfl) (by rfl) (by first | decide | simp) (by first | decide | simp) (by rfl) (by simp [tokLt1]) (fun _ => by rfl) (by first | rfl | simp [gdOk, newToks]) ?_
        simp -implicitDefEqProofs only [push_cast, upto, seval]
        skip
        refine loopC_of (α := A2 X) (A2.st ⟨so, sc, sd, sn, sl, st, sout, scame, q, some m⟩ (putAll so sout X).1) (fun a => X.length - a.i) ⟨0, by omega⟩ ?_ ?_
        · (simp only [A2.st, Sb.cs, Sb.mpv, sb0, Sb.add]; exact Wk.at _ _ _ [(1, 1), (2, 72), (3, 68)] [(50, 68)] [] (by simp) (by simp [wkV, PV.el, PV.weak, PS.get, PS.obj, PS.lv, lkp_hit, lkp_miss, lkp_nil, lko, wkL, wkC, res1, addAll, List.take_zero, Sb.mm, ints, rqL_length]) (by simp [PS.get, PS.obj, PS.lv, lkp_hit, lkp_miss, lkp_nil, lko, wkL, wkC, PV.weak, wkL, wkC, res1, addAll, List.take_zero, Sb.mm, ints, rqL_length]))
        · rintro ⟨i, hi⟩
          have hqn := addAll_q (sn, q, (⟨so, sc, sd, sn, sl, st, sout, scame, q, some m⟩ : Sb).mm) (X.take i)
          have hnn := addAll_n (sn, q, (⟨so, sc, sd, sn, sl, st, sout, scame, q, some m⟩ : Sb).mm) (X.take i)
          have hlt' : (X.take i).length = i := by rw [List.length_take]; omega
          simp only [hlt'] at hqn hnn
          simp only [A2.st, Sb.add]
          simp -implicitDefEqProofs only [push_cast, Sb.cs, Sb.mpv, rqL_length, seval]
          refine condC_split (fun g1 => ?_) (fun g1 => ?_)
          · have hlt : i < X.length := by simp at g1; omega
            have hwi : IntKind.i64.wrap ((i : Int) + 1) = ((i + 1 : Nat) : Int) := by (rw [wrap_i64_id (by omega) (by omega)]; rfl)
            have hg := rq_at hlt
            have htk := rtake_sn hlt
            have had := addAll_sn (sn, q, (⟨so, sc, sd, sn, sl, st, sout, scame, q, some m⟩ : Sb).mm) (X.take i) (X.getD i rq0)
            rw [← htk] at had
            generalize X.getD i rq0 = x at *
            generalize addAll (sn, q, (⟨so, sc, sd, sn, sl, st, sout, scame, q, some m⟩ : Sb).mm) (X.take i) = a at *
            obtain ⟨an, aq, am⟩ := a
            simp only at hqn hnn
            have hxp : x.pv = .agg [.int .i64 x.C, .sl 1 (ints x.N), .str x.B, .sl 1 (ints x.L)] := rfl
            rw [hxp] at hg
            have hwn : IntKind.i64.wrap (an + 1) = an + 1 := wrap_i64_id (by omega) (by omega)
            have hrp := reply_fs x.C
            cases hro : replyOf x.C with
            | none =>
              rw [addR, if_neg (by rw [hro]; simp)] at had
              rw [hro] at hrp
              simp only [optT, form0] at hrp
              simp -implicitDefEqProofs only [push_cast, hg, rqL_length, hwn, seval]
              (repeat (first | refine ⟨by omega, ?_⟩ | refine ⟨by (unfold drawOk; kernel_rfl), ?_⟩ | refine ⟨by (simp only [List.length_append] at *; omega), ?_⟩))
              refine callE_p hrp ?_
              simp -implicitDefEqProofs only [push_cast, seval]
              skip
              rw [hwi]
              refine ⟨⟨i + 1, by omega⟩, by simp only; omega, ?_⟩
              (simp only [A2.st, Sb.cs, Sb.mpv, sb0, Sb.add, had]; exact Wk.at _ _ _ [(1, 1), (2, 2), (3, 3)] [(50, 50)] [] (by simp) (by simp [wkV, PV.el, PV.weak, PS.get, PS.obj, PS.lv, lkp_hit, lkp_miss, lkp_nil, lko, wkL, wkC, res1]) (by simp [PS.get, PS.obj, PS.lv, lkp_hit, lkp_miss, lkp_nil, lko, wkL, wkC, PV.weak, wkL, wkC, res1]))
            | some f =>
              rw [addR, if_pos (by rw [hro]; rfl)] at had
              rw [hro] at hrp
              simp only [optT, formT, Fm.pv] at hrp
              have hka := kAll_mkM (P := Tryd.prog) tk_3 am
              simp -implicitDefEqProofs only [push_cast, hg, rqL_length, hwn, seval]
              (repeat (first | refine ⟨by omega, ?_⟩ | refine ⟨by (unfold drawOk; kernel_rfl), ?_⟩ | refine ⟨by (simp only [List.length_append] at *; omega), ?_⟩))
              refine callE_p hrp ?_
              simp -implicitDefEqProofs only [push_cast, hwn, ints_length, mset_mkM, hka, seval]
              (repeat (first | refine ⟨by omega, ?_⟩ | refine ⟨by (unfold drawOk; kernel_rfl), ?_⟩ | refine ⟨by (simp only [List.length_append] at *; omega), ?_⟩))
              skip
              rw [hwi]
              refine ⟨⟨i + 1, by omega⟩, by simp only; omega, ?_⟩
              (simp only [A2.st, Sb.cs, Sb.mpv, sb0, Sb.add, had]; exact Wk.at _ _ _ [(1, 1), (2, 2), (3, 3)] [(50, 160)] [] (by simp) (by simp [wkV, PV.el, PV.weak, PS.get, PS.obj, PS.lv, lkp_hit, lkp_miss, lkp_nil, lko, wkL, wkC, res1, ints]) (by simp [PS.get, PS.obj, PS.lv, lkp_hit, lkp_miss, lkp_nil, lko, wkL, wkC, PV.weak, wkL, wkC, res1, ints]))
          · have hie2 : i = X.length := by simp at g1; omega
            subst hie2
            rw [List.take_length]
            have hbo := byL_byteOf (putAll so sout X).1
            have hbb := byL_bytes (putAll so sout X).1
            simp -implicitDefEqProofs only [push_cast, hbo, hbb, seval]
            (repeat (first | refine ⟨by omega, ?_⟩ | refine ⟨by (unfold drawOk; kernel_rfl), ?_⟩ | refine ⟨by (simp only [List.length_append] at *; omega), ?_⟩))
            skip
            exact endK_box [] [3] rfl rfl (by simp [PS.lv, lkp_hit, lkp_miss, lkp_nil]) rfl rfl (by rfl) (fun i j ps h1 h2 => by (rcases i with _ | i <;> simp at h1 h2 <;> (subst h1; subst h2; exact ⟨_, rfl, (by (repeat' (first | exact wkL_nil | refine wkL_cons ?_ ?_)); all_goals (first | rfl | exact ⟨rfl, rfl⟩ | exact ⟨rfl, rfl, rfl⟩ | exact .inl rfl))⟩))) ⟨by simp [resOk, PS.get, PS.obj, lkp_hit, lkp_miss, lkp_nil, PS.ev, ldPV, ldOk, ofC, ofC1, TK.isAgg, Sb.cs, asked, Sb.add, tk_42, tsz_42], by simp [resPV, PS.get, PS.obj, lkp_hit, lkp_miss, lkp_nil, PS.ev, ldPV, ldOk, ofC, ofC1, TK.isAgg, Sb.cs, asked, Sb.add, tk_42, tsz_42], by simp [resOf, resPV, one', res3, res2, res1, PV.weak, PV.el, wkL, idx, PV.un, PS.get, PS.obj, lkp_hit, lkp_miss, lkp_nil, PS.ev, ldPV, ldOk, ofC, ofC1, TK.isAgg, Sb.cs, asked, Sb.add, tk_42, tsz_42]⟩
theorem askOk_fs (s : Sb) (X : List Rq) (hs : SbOk s) (hX : X.length ≤ 100000) (hf : ∀ x ∈ X, x.Few) (hc : s.c ≠ 0) (he : (putAll s.o s.out X).2 = 0) :
    Fsp Tryd.prog 22 [] 0 [s.pv, .sl 4 (rqL X)] [] 0 (.tup [(asked s X).pv, .int .i64 0]) :=
  (askOk_fs0 s X hs hX hf hc he).freezeM (bs' := []) (Nat.le_refl _)
/-- Ask. -/
theorem ask_fs (s : Sb) (X : List Rq) (hs : SbOk s) (hX : X.length ≤ 1000000000000000) (hf : ∀ x ∈ X, x.Few) : Fsp Tryd.prog 22 [] 0 [s.pv, .sl 4 (rqL X)] [] 0 (askR s X) := by
  by_cases hc : s.c = 0
  · have e : askE s X = 20 := by rw [askE, if_pos hc]
    rw [askR, askS, if_neg (by rw [e]; decide), e]
    exact askDead_fs s X hc
  · have e : askE s X = (putAll s.o s.out X).2 := by rw [askE, if_neg hc]
    by_cases he : (putAll s.o s.out X).2 = 0
    · rw [askR, askS, if_pos (by rw [e]; exact he)]
      have h1 := putAll_cnt s.o s.out X he
      have h2 := putAll_len s.o s.out hs.o X
      exact askOk_fs s X hs (by omega) hf hc he
    · rw [askR, askS, if_neg (by rw [e]; exact he), e]
      exact askBad_fs s X hs hX hf hc _ rfl he

end Go.Proofs.Sh

/- Package stub: New, Take, Sent, Waiting, Fresh. -/
set_option maxRecDepth 100000
set_option linter.unusedSimpArgs false
set_option linter.unusedVariables false
namespace Go.Proofs.Sh
open Go.Pv

def newS (o c : Int) : Sb × Int := if bgn o = [] then (sb0, 8) else if isCl c = true then ({ sb0 with o := o, c := c, out := bgn o }, 0) else (sb0, 1)
def newR (o c : Int) : PV := .tup [(newS o c).1.pv, .int .i64 (newS o c).2]
theorem new_fs (o c : Int) : Fsp Tryd.prog 20 [] 0 [.int .i64 o, .int .i64 c] [] 0 (newR o c) := by
  have hb := bgn_fs o
  have hc := base_fs c
  unfold newR newS
  (refine Fsp.ofs (nx := 0) mixed Tryd.func20 rfl (by simp [Tryd.f20]) ?_; simp -implicitDefEqProofs only [push_cast, Tryd.f20, seval])
  refine callE_p hb ?_
  simp -implicitDefEqProofs only [push_cast, seval]
  refine condC_split (fun g1 => ?_) (fun g1 => ?_)
  · have g2 : bgn o = [] := by simpa using g1
    rw [if_pos g2]
    simp -implicitDefEqProofs only [push_cast, seval]
    all_goals (first | done | rfl | exact ⟨_, rfl, by simp [wkL, res2, res1, PV.weak, PV.el, Sb.pv, Sb.cs, Sb.mpv, sb0, ints]⟩ | (simp [Sb.pv, Sb.cs, Sb.mpv, sb0, ints, wkL, res2, res1, PV.weak, PV.el]; done))
  · have g2 : ¬ bgn o = [] := by simpa using g1
    rw [if_neg g2]
    simp -implicitDefEqProofs only [push_cast, seval]
    cases hi : isCl c
    · rw [baseR, if_neg (by rw [hi]; simp)] at hc
      refine callE_p hc ?_
      simp -implicitDefEqProofs only [push_cast, seval]
      all_goals (first | done | rfl | exact ⟨_, rfl, by simp [wkL, res2, res1, PV.weak, PV.el, Sb.pv, Sb.cs, Sb.mpv, sb0, ints]⟩ | (simp [Sb.pv, Sb.cs, Sb.mpv, sb0, ints, wkL, res2, res1, PV.weak, PV.el]; done))
    · rw [baseR, if_pos hi] at hc
      refine callE_p hc ?_
      simp -implicitDefEqProofs only [push_cast, seval]
      all_goals (first | done | rfl | exact ⟨_, rfl, by simp [wkL, res2, res1, PV.weak, PV.el, Sb.pv, Sb.cs, Sb.mpv, sb0, ints]⟩ | (simp [Sb.pv, Sb.cs, Sb.mpv, sb0, ints, wkL, res2, res1, PV.weak, PV.el]; done))
theorem take_fs (s : Sb) : Fsp Tryd.prog 21 [] 0 [s.pv] [] 0 (.tup [{ s with out := [] }.pv, .str s.out]) := by
  obtain ⟨so, sc, sd, sn, sl, st, sout, scame, q, m⟩ := s
  cases m <;> ((refine Fsp.ofs (nx := 0) mixed Tryd.func21 rfl (by simp [Tryd.f21]) ?_; simp -implicitDefEqProofs only [push_cast, Tryd.f21, Sb.pv, Sb.cs, Sb.mpv, seval])) <;> (first | done | exact ⟨_, rfl, by simp [wkL, res2, res1, PV.weak, PV.el]⟩)
theorem sent_fs (s : Sb) : Fsp Tryd.prog 25 [] 0 [s.pv] [] 0 (.int .i64 s.n) := by
  obtain ⟨so, sc, sd, sn, sl, st, sout, scame, q, m⟩ := s
  cases m <;> ((refine Fsp.ofs (nx := 0) mixed Tryd.func25 rfl (by simp [Tryd.f25]) ?_; simp -implicitDefEqProofs only [push_cast, Tryd.f25, Sb.pv, Sb.cs, Sb.mpv, seval]))

end Go.Proofs.Sh
