/- The rounds of a stream's requests: the iterator's contract. -/
import Derived.Test.YtplaaagcbleflaaDoorSxSmall
import Derived.Test.YtplaaagcbleflaaDoorPvRf
import Derived.Test.YtplaaagcbleflaaDoorPvX
import Derived.RangeFuncBox
import Derived.Shelf.Abstract
import Derived.WalkKit
import Derived.OwnWalkIn
import Derived.TacticsInMore
import Derived.LoopNIn
import Derived.LoopIn
import Derived.Test.YtplaaagcbleflaaDoorPvRg
set_option maxRecDepth 100000
set_option linter.unusedSimpArgs false
set_option linter.unusedVariables false
namespace Go.Proofs.Sh
open Go.RowKit Go.Shelf Go.Pv

/-- The rounds from a place on: where each begins, and how long it says it is. -/
def rds (o : Int) (s : List UInt8) : Nat → Nat → List (Nat × Nat)
  | 0, _ => []
  | k + 1, a => if s.length < a + 4 then [] else if (lenR o (s.drop a)).1 = 0 then [(a, 0)] else (a, (lenR o (s.drop a)).1.toNat) :: rds o s k (a + (lenR o (s.drop a)).1.toNat)
def rdsAll (o : Int) (s : List UInt8) : List (Nat × Nat) := rds o s (s.length + 1) 0
theorem lenR_range (o : Int) (s : List UInt8) : ∃ n : Nat, (lenR o s).1 = (n : Int) ∧ n ≤ 65536 ∧ n % 4 = 0 := by
  unfold lenR
  split
  · split
    · exact ⟨0, rfl, by omega, rfl⟩
    · split
      · exact ⟨0, rfl, by omega, rfl⟩
      · split
        · exact ⟨0, rfl, by omega, rfl⟩
        · exact ⟨4 * lenN o s, rfl, by omega, by omega⟩
  · exact ⟨0, rfl, by omega, rfl⟩
theorem ext_grown {g : Gh} {w : World} {g' : Gh} {S' : PS} {w' : World} (hE : ExtW g (st0 [] 0) w g' S' w') : w.grownBy w' none := by
  have hno : ∀ b o, ¬ Go.Pv.Own g (st0 [] 0) b o := fun b o h => by
    rcases h with ⟨id, h1, _⟩ | ⟨k, lo, hi, h1, _⟩
    · rw [st0_obj] at h1; simp at h1
    · rw [st0_lv] at h1; simp at h1
  refine ⟨hE.os, hE.tape, hE.output, hE.size, fun k hk _ => ?_⟩
  rcases hE.keep k hk with h | ⟨v, v', T, fr, fr', h1, h2, h3, h4, h5⟩ | h
  · exact h
  · rw [h1, h2]
    have e1 : v' = v := by
      apply Array.ext h3
      intro i hi1 hi2
      have := h4 i (hno k i)
      rw [Array.getElem?_eq_getElem hi1, Array.getElem?_eq_getElem hi2] at this
      exact Option.some.inj this
    have e2 : fr' = fr := by
      rcases h5 with h5 | ⟨o, h5⟩
      · exact h5
      · exact absurd h5 (hno k o)
    rw [e1, e2]
  · exact absurd (h 0) (hno k 0)
theorem len_in {h : HMap} {W : World} (hH : Holds h W) (hgl : ∀ k ps, gat GTab.tab k = some ps → PRel h (.pointer (some ⟨k, 0, none⟩)) (.loc ps)) (n : Nat) (o : Int) (b : ByteArray) :
    CallsIn Fence.wide n Tryd.prog 49 #[.int .i64 o, .string b] W fun e W' => e = .returned (.tuple #[.int .i64 (lenR o b.data.toList).1, .int .i64 (lenR o b.data.toList).2]) ∧ W.grownBy W' none ∧ Holds h W' := by
  refine callsIn_wide.2 ?_
  have hI : InvW { h := h, blk := fun _ => none, tok := fun _ => none, ty := fun _ => none } (st0 [] 0) W :=
    ⟨hH, fun id ps e => by rw [st0_obj] at e; simp at e, fun id id' b e => by rw [st0_obj] at e; simp at e, fun k e => by rw [st0_lv] at e; simp at e, fun k k' b lo hi lo' hi' e => by rw [st0_lv] at e; simp at e, (fun b T m e => by cases e), hgl⟩
  refine ((packLen_fs o b.data.toList).calls _ W #[.int .i64 o, .string b] hI (fun _ _ => rfl) (fun _ _ => rfl) rfl ?_).mono ?_
  · intro i v p hv hp
    match i, hv, hp with
    | 0, hv, hp => cases hv; cases hp; exact .pure _ _ (.int .i64 o)
    | 1, hv, hp => cases hv; cases hp; exact .pure _ _ (by have := PRel.str (h := h) b.data.toList; simpa using this)
    | i + 2, hv, hp => simp at hv
  · rintro e W' ⟨v, g', rfl, hI', hE, -, -, hr⟩
    refine ⟨?_, ext_grown hE, fun b o v e => hI'.hw b o v (hE.le b o v e)⟩
    obtain ⟨vs, rfl, hn, hp⟩ := hr.tup_inv
    have h0 := hp 0
    have h1 := hp 1
    congr 2
    have hsz : vs.size = 2 := by simpa using hn
    obtain ⟨vs⟩ := vs
    match vs, hsz with
    | [x, y], _ =>
      have e0 := (h0 x _ rfl rfl).int_inv
      have e1 := (h1 y _ rfl rfl).int_inv
      rw [e0, e1]
theorem req_in (n : Nat) (o : Int) (b : ByteArray) (w : World) : CallsIn Fence.wide n Tryd.prog 34 #[.int .i64 o, .string b] w fun e w' =>
    e = .returned (.func (.func 48) #[] #[.pointer (some ⟨w.heap.size + 1, 0, none⟩), .pointer (some ⟨w.heap.size, 0, none⟩)]) ∧ w' = (w.alloc (.cells #[.int .i64 o] 3)).alloc (.cells #[.string b] 9) := by
  refine callsIn_of_wp Tryd.func34 rfl trivial ?_ rfl
  simp only [Tryd.ntmps34, List.size_toArray, List.length_cons, List.length_nil, Nat.reduceAdd, Nat.reduceSub, Array.replicate_succ, Array.replicate_zero, List.push_toArray, List.append_toArray, List.nil_append, List.cons_append]
  gi_wp2
  go_ret
  exact ⟨rfl, rfl⟩
theorem requests_fs (o : Int) (s : List UInt8) : Fsp Tryd.prog 34 [] 0 [.int .i64 o, .str s] [] 0 (.fn 48 [.loc [.str s], .loc [.int .i64 o]]) where
  len := Nat.le_refl _
  fn := ⟨_, Tryd.func34, rfl, by rfl⟩
  calls := by
    intro g w vs hI hb ht hs ha
    obtain ⟨vs⟩ := vs
    match vs, hs with
    | [x, y], _ =>
      have ex := (ha 0 x _ rfl rfl).int_inv
      have ey := (ha 1 y _ rfl rfl).str_inv
      subst ex
      subst ey
      refine (callsIn_wide (n := 0)).1 ((req_in 0 o _ w).mono ?_)
      rintro e w' ⟨rfl, rfl⟩
      have hlt : ∀ b o' v, g.h b o' = some v → b < w.heap.size := fun b o' v h => by
        have := hI.hw b o' v h
        unfold World.cell? at this
        split at this
        · rename_i hc; exact (Array.getElem?_eq_some_iff.1 hc).1
        · cases this
      let h' : HMap := fun b o' => if b = w.heap.size ∧ o' = 0 then some (.int .i64 o) else if b = w.heap.size + 1 ∧ o' = 0 then some (.string ⟨⟨s⟩⟩) else g.h b o'
      have hle : g.h.le h' := fun b o' v h => by
        have := hlt b o' v h
        show (if b = w.heap.size ∧ o' = 0 then _ else _) = _
        rw [if_neg (by omega), if_neg (by omega)]
        exact h
      have hold : ∀ k, k < w.heap.size → ((w.alloc (.cells #[.int .i64 o] 3)).alloc (.cells #[.string ⟨⟨s⟩⟩] 9)).heap[k]? = w.heap[k]? := fun k hk => by
        rw [Below.heap_alloc _ _ _ (by simp; omega), Below.heap_alloc _ _ _ hk]
      have hn0 : ((w.alloc (.cells #[.int .i64 o] 3)).alloc (.cells #[.string ⟨⟨s⟩⟩] 9)).heap[w.heap.size]? = some (.cells #[.int .i64 o] 3) := by
        rw [Below.heap_alloc _ _ _ (by simp)]; exact World.alloc_heap_new w _
      have hn1 : ((w.alloc (.cells #[.int .i64 o] 3)).alloc (.cells #[.string ⟨⟨s⟩⟩] 9)).heap[w.heap.size + 1]? = some (.cells #[.string ⟨⟨s⟩⟩] 9) := by
        have := World.alloc_heap_new (w.alloc (.cells #[.int .i64 o] 3)) (.cells #[.string ⟨⟨s⟩⟩] 9)
        rwa [World.size_alloc] at this
      refine ⟨_, { g with h := h' }, rfl, ⟨?_, fun id ps e => by rw [st0_obj] at e; simp at e, fun id id' b e => by rw [st0_obj] at e; simp at e, fun k e => by rw [st0_lv] at e; simp at e, fun k k' b lo hi lo' hi' e => by rw [st0_lv] at e; simp at e, ?_, fun k ps e => (hI.gl k ps e).mono hle⟩,
        ⟨hle, fun _ _ h => h, ?_, fun b o' hb' e => ?_, by simp; omega, fun b hb' => by rw [hold b hb']; exact .refl _ _, rfl, rfl, rfl⟩, fun i hi => rfl, fun i h1 h2 => by simp at h2, .pure _ _ (.fn 48 _ _ rfl ?_)⟩
      · intro b o' v e
        have e' : (if b = w.heap.size ∧ o' = 0 then some (.int .i64 o) else if b = w.heap.size + 1 ∧ o' = 0 then some (.string ⟨⟨s⟩⟩) else g.h b o') = some v := e
        unfold World.cell?
        split at e'
        · rename_i hh; obtain ⟨rfl, rfl⟩ := hh; cases e'; rw [hn0]; rfl
        · split at e'
          · rename_i hh; obtain ⟨rfl, rfl⟩ := hh; cases e'; rw [hn1]; rfl
          · have := hI.hw b o' v e'
            rw [hold b (hlt b o' v e')]
            exact this
      · intro b T m e
        obtain ⟨vals, fr, q1, q2⟩ := hI.tys b T m e
        exact ⟨vals, fr, by rw [hold b (Array.getElem?_eq_some_iff.1 q1).1]; exact q1, q2⟩
      · intro b o' v e
        have e' : (if b = w.heap.size ∧ o' = 0 then some (.int .i64 o) else if b = w.heap.size + 1 ∧ o' = 0 then some (.string ⟨⟨s⟩⟩) else g.h b o') = some v := e
        split at e'
        · exact .inr (.inl (by omega))
        · split at e'
          · exact .inr (.inl (by omega))
          · exact .inl e'
      · rcases e with ⟨id, h1, _⟩ | ⟨k, lo, hi, h1, _⟩
        · rw [st0_obj] at h1; simp at h1
        · rw [st0_lv] at h1; simp at h1
      · intro i v p hv hp
        match i, hv, hp with
        | 0, hv, hp =>
          cases hv; cases hp
          refine .loc (w.heap.size + 1) 0 [.str s] (fun _ => .string ⟨⟨s⟩⟩) (fun j hj => ?_) (fun j hj => rfl) (fun j p hp => ?_)
          · have : j = 0 := by simp at hj; omega
            subst this
            show (if _ then _ else _) = _
            rw [if_neg (by omega), if_pos ⟨rfl, rfl⟩]
          · obtain ⟨rfl, rfl⟩ := single hp
            exact .str s
        | 1, hv, hp =>
          cases hv; cases hp
          refine .loc w.heap.size 0 [.int .i64 o] (fun _ => .int .i64 o) (fun j hj => ?_) (fun j hj => rfl) (fun j p hp => ?_)
          · have : j = 0 := by simp at hj; omega
            subst this
            show (if _ then _ else _) = _
            rw [if_pos ⟨rfl, rfl⟩]
          · obtain ⟨rfl, rfl⟩ := single hp
            exact .int .i64 o
        | i + 2, hv, hp => simp at hv
end Go.Proofs.Sh

/- The rounds of a stream's requests: the iterator's contract. -/
set_option maxRecDepth 100000
set_option linter.unusedSimpArgs false
set_option linter.unusedVariables false
namespace Go.Proofs.Sh
open Go.RowKit Go.Shelf Go.Pv
theorem len_at {h : HMap} {W : World} (hH : Holds h W) (hgl : ∀ k ps, gat GTab.tab k = some ps → PRel h (.pointer (some ⟨k, 0, none⟩)) (.loc ps)) {n : Nat} {o : Int} {b : ByteArray} {m e0 : Int} (hb : lenR o b.data.toList = (m, e0)) :
    CallsIn Fence.wide n Tryd.prog 49 #[.int .i64 o, .string b] W fun e W' => e = .returned (.tuple #[.int .i64 m, .int .i64 e0]) ∧ W.grownBy W' none ∧ Holds h W' := by
  have := len_in hH hgl n o b
  rw [hb] at this
  exact this
def itS (a : Nat) (s : List UInt8) (o : Int) : PS := { n := 32, env := [(4, .int .i64 a), (1, .loc [.str s]), (2, .loc [.int .i64 o])], objs := [], live := [], nxt := 60 }
def itQ (n : Nat) : Post := fun e S' => e = .normal ∧ S'.get 5 = .int .i64 n
set_option maxHeartbeats 4000000 in
theorem reqIt_in {h : HMap} (hgl : ∀ k ps, gat GTab.tab k = some ps → PRel h (.pointer (some ⟨k, 0, none⟩)) (.loc ps)) {b1 b2 f1 f2 : Nat} {s : List UInt8} {o : Int} (h1 : h b1 f1 = some (.string ⟨⟨s⟩⟩)) (h2 : h b2 f2 = some (.int .i64 o)) (hs : s.length ≤ 1000000)
    (l : Nat) (J Jx : List (Nat × Nat) → World → Prop) (W : World) (hJ : AbidesFrom W.heap.size J)
    (hY : ∀ pre (x : Nat × Nat) W1, (x.1 ≤ 2000000 ∧ x.2 ≤ 65536) → J pre W1 → pre.length < s.length + 1 → YieldAt Fence.wide 1 Tryd.prog l #[.int .i64 (x.1 : Int), .int .i64 (x.2 : Int)] W1 fun e W' =>
      (e = .returned (.bool true) ∧ J (pre ++ [x]) W' ∧ KpH h W1 W') ∨ (e = .returned (.bool false) ∧ Jx (pre ++ [x]) W'))
    (hH : Holds h W) (h0 : J [] W) :
    CallsIn Fence.wide 2 Tryd.prog 48 #[.func (.yield l) #[] #[], .pointer (some ⟨b1, f1, none⟩), .pointer (some ⟨b2, f2, none⟩)] W fun e W' => (∃ v, e = .returned v) ∧
      ((∃ xs, xs = rdsAll o s ∧ J xs W') ∨ (∃ pre, pre <+: rdsAll o s ∧ Jx pre W')) := by
  refine callsIn_of_wp Tryd.func48 rfl trivial ?_ rfl
  simp only [Tryd.ntmps48, List.size_toArray, List.length_cons, List.length_nil, Nat.reduceAdd, Nat.reduceSub, Array.replicate_succ, Array.replicate_zero, List.push_toArray, List.append_toArray, List.nil_append, List.cons_append]
  gi_wp2
  gi_loopw [4] (fun i wr => ∃ (a k : Nat) (pre : List (Nat × Nat)), i = .int .i64 (a : Int) ∧ pre ++ rds o s k a = rdsAll o s ∧ s.length + 1 ≤ k + a ∧ 4 * pre.length ≤ a ∧ a ≤ s.length + 65536 ∧ J pre wr ∧ Holds h wr)
    (fun i _ => s.length + 1 - (intOf i).toNat)
  case atStart => exact ⟨0, s.length + 1, [], rfl, rfl, by omega, by simp, by omega, h0, hH⟩
  case round =>
    obtain ⟨a, k, pre, rfl, hpre, hk, hp4, ha, hJs, hHs⟩ := hrel
    have hc1 := hHs b1 f1 _ h1
    have hc2 := hHs b2 f2 _ h2
    by_cases hlt : a + 4 ≤ s.length
    · obtain ⟨n, hn, hn6, hn4⟩ := lenR_range o (s.drop a)
      gi_wp2
      rename_i K hK
      refine wpIn_mono (wpIn_wide.2 (draw_keep mixed (T := [0, 1, 2, 3, 4]) (by kernel_rfl) (Q := itQ n) (S := itS a s o) ?hV { h := h, blk := fun _ => none, tok := fun _ => none, ty := fun _ => none } _ _ ?hI ⟨by simp, by simp⟩ (fun _ _ => ⟨rfl, rfl⟩) (fun i hi => absurd hi (Nat.not_lt_zero i)))) ?post
      case hV => 
        have hp := packLen_fs o (s.drop a)
        rw [hn] at hp
        have htk : List.take (s.length - a) (List.drop a s) = s.drop a := List.take_of_length_le (by simp)
        simp only [itS]
        simp -implicitDefEqProofs only [push_cast, htk, Int.reduceBEq, Int.reduceBNe, Int.reduceEq, Int.reduceNe, Int.reducePow, Nat.reduceAdd, Nat.reduceMul, Nat.reduceSub, Nat.reduceLT, Nat.reduceLeDiff, Nat.reduceEqDiff, Nat.reduceBEq, Int.reduceLT, Int.reduceLE, Int.reduceAdd, Int.reduceSub, Int.reduceMul, Int.reduceToNat, Int.reduceNeg, reduceIte, reduceCtorEq, reduceBEq]
        refine ⟨by omega, by omega, ?_⟩
        refine callE_pure hp (by rfl) (by rfl) (by rfl) (by decide) (by rfl) (fun _ => by rfl) (by first | rfl | simp [gdOk, newToks]) ?_
        simp -implicitDefEqProofs only [push_cast, Int.reduceBEq, Int.reduceBNe, Int.reduceEq, Int.reduceNe, Int.reducePow, Nat.reduceAdd, Nat.reduceMul, Nat.reduceSub, Nat.reduceLT, Nat.reduceLeDiff, Nat.reduceEqDiff, Nat.reduceBEq, Int.reduceLT, Int.reduceLE, Int.reduceAdd, Int.reduceSub, Int.reduceMul, Int.reduceToNat, Int.reduceNeg, reduceIte, reduceCtorEq, reduceBEq]
        (repeat refine ⟨by (unfold drawOk; kernel_rfl), ?_⟩)
        exact ⟨rfl, rfl⟩
      case hI =>
        refine ⟨⟨hHs, fun id ps e => by simp [itS, PS.obj, lkp] at e, fun id id' b e => by simp [itS, PS.obj, lkp] at e, fun k e => by simp [itS, PS.lv, lkp] at e, fun k k' b lo hi lo' hi' e => by simp [itS, PS.lv, lkp] at e, (fun b T m e => by cases e), hgl⟩, fun t => ?_, by simp [itS]⟩
        simp only [itS, PS.get, lkp]
        split
        · rename_i e; subst e; exact .pure _ _ (.int .i64 a)
        · split
          · rename_i e; subst e
            refine .pure _ _ (.loc b1 f1 [.str s] (fun _ => .string ⟨⟨s⟩⟩) (fun j hj => ?_) (fun j hj => rfl) (fun j p hp => ?_))
            · have : j = 0 := by simp at hj; omega
              subst this; exact h1
            · obtain ⟨rfl, rfl⟩ := single hp
              exact .str s
          · split
            · rename_i e; subst e
              refine .pure _ _ (.loc b2 f2 [.int .i64 o] (fun _ => .int .i64 o) (fun j hj => ?_) (fun j hj => rfl) (fun j p hp => ?_))
              · have : j = 0 := by simp at hj; omega
                subst this; exact h2
              · obtain ⟨rfl, rfl⟩ := single hp
                exact .int .i64 o
            · exact .pure _ _ (.any _)
      case post =>
        rintro e a' w' ⟨⟨⟨g', S', hq, hI', -, -, hE'⟩, hdf⟩, hk⟩
        obtain ⟨rfl, h5⟩ := hq
        obtain ⟨hks, hkt⟩ := hk rfl
        have e5 : a'.tmps.getD 5 undef = .int .i64 n := by
          have := hI'.env 5
          rw [h5] at this
          exact this.int_inv
        have hgr : wr.grownBy w' none := ext_grown (hE'.same_l (T := st0 [] 0) (fun i => by rw [st0_obj]; rfl) (fun k => by rw [st0_lv]; simp; rfl)).e
        have hH' : Holds h w' := fun b o v e => hI'.w.hw b o v (hE'.e.le b o v e)
        obtain ⟨⟨tl⟩, ds⟩ := a'
        simp only at hdf
        subst hdf
        have hsz : tl.length = 32 := hks
        match tl, hsz with
        | [x0, x1, x2, x3, x4, x5, x6, x7, x8, x9, x10, x11, x12, x13, x14, x15, x16, x17, x18, x19, x20, x21, x22, x23, x24, x25, x26, x27, x28, x29, x30, x31], _ =>
          have e0 := hkt 0 (by simp)
          have e1 := hkt 1 (by simp)
          have e2 := hkt 2 (by simp)
          have e3 := hkt 3 (by simp)
          have e4 := hkt 4 (by simp)
          simp at e0 e1 e2 e3 e4 e5
          subst e0 e1 e2 e3 e4 e5
          clear hks hkt hI' hk h5
          obtain ⟨fn, tmps, assign, body, hy, hR⟩ := hY pre (a, n) w' ⟨by simp only; omega, hn6⟩ (hJ _ _ _ none hJs hgr (fun r e => by cases e)) (by omega)
          dsimp only at hy
          refine hK _ _ ?_
          gi_wp2
          obtain ⟨k', rfl⟩ : ∃ k', k = k' + 1 := ⟨k - 1, by omega⟩
          have hrd : rds o s (k' + 1) a = if (n : Int) = 0 then [(a, 0)] else (a, n) :: rds o s k' (a + n) := by
            rw [rds, if_neg (by omega), hn, Int.toNat_natCast]
          rw [hrd] at hpre
          refine hR.mono ?_
          rintro e W3 (⟨rfl, hJ3, hk3⟩ | ⟨rfl, hJx3⟩)
          · by_cases hn0 : n = 0
            · subst hn0
              rw [if_pos (show ((0 : Nat) : Int) = 0 from rfl)] at hpre
              gi_wp2
              refine bodyPost_ret (results_none rfl _ _ _) rfl ?_
              exact ⟨⟨_, rfl⟩, .inl ⟨_, hpre, hJ3⟩⟩
            · rw [if_neg (by omega)] at hpre
              have hn0' : ¬ (n : Int) = 0 := by omega
              gi_wp2
              go_roundw
              case rel => exact ⟨a + n, k', pre ++ [(a, n)], by simp, by rw [List.append_assoc]; exact hpre, by omega, by rw [List.length_append]; simp; omega, by omega, hJ3, hk3 hH'⟩
              case measure => simp [intOf]; omega
          · gi_wp2
            refine bodyPost_ret (results_none rfl _ _ _) rfl ?_
            refine ⟨⟨_, rfl⟩, .inr ⟨_, ?_, hJx3⟩⟩
            rw [← hpre]
            split
            · rename_i e
              have : n = 0 := by omega
              subst this
              exact List.prefix_rfl
            · rw [show (a, n) :: rds o s k' (a + n) = [(a, n)] ++ rds o s k' (a + n) from rfl, ← List.append_assoc]
              exact List.prefix_append _ _
    · gi_wp2
      go_end0
      refine ⟨⟨_, rfl⟩, .inl ⟨pre, ?_, hJs⟩⟩
      rw [← hpre]
      cases k with
      | zero => simp [rds]
      | succ k => rw [rds, if_pos (by omega), List.append_nil]
abbrev Bx := { x : Nat × Nat // x.1 ≤ 2000000 ∧ x.2 ≤ 65536 }
def toB (x : Nat × Nat) : Option Bx := if h : x.1 ≤ 2000000 ∧ x.2 ≤ 65536 then some ⟨x, h⟩ else none
def rdsB (o : Int) (s : List UInt8) : List Bx := (rdsAll o s).filterMap toB
theorem toB_val : ∀ q : List Bx, (q.map Subtype.val).filterMap toB = q
  | [] => rfl
  | x :: q => by
    rw [List.map_cons, List.filterMap_cons, toB_val q]
    have : toB x.1 = some x := by unfold toB; rw [dif_pos x.2]
    rw [this]
theorem rdsB_of {o : Int} {s : List UInt8} {q : List Bx} (h : q.map Subtype.val = rdsAll o s) : q = rdsB o s := by
  rw [rdsB, ← h, toB_val]
theorem rdsB_pre {o : Int} {s : List UInt8} {q : List Bx} (h : q.map Subtype.val <+: rdsAll o s) : q <+: rdsB o s := by
  obtain ⟨r, hr⟩ := h
  rw [rdsB, ← hr, List.filterMap_append, toB_val]
  exact List.prefix_append _ _
theorem rds_small (o : Int) (s : List UInt8) (hs : s.length ≤ 1000000) : ∀ (k a : Nat), ∀ x ∈ rds o s k a, x.1 ≤ 2000000 ∧ x.2 ≤ 65536
  | 0, a, x, h => by simp [rds] at h
  | k + 1, a, x, h => by
    obtain ⟨n, hn, hn6, -⟩ := lenR_range o (s.drop a)
    rw [rds] at h
    split at h
    · simp at h
    · split at h
      · rw [List.mem_singleton] at h; subst h; exact ⟨by simp only; omega, by simp only; omega⟩
      · rw [List.mem_cons] at h
        rcases h with rfl | h
        · rw [hn]; exact ⟨by simp only; omega, by simp; omega⟩
        · exact rds_small o s hs k _ x h
theorem rdsB_val {o : Int} {s : List UInt8} (hs : s.length ≤ 1000000) : (rdsB o s).map Subtype.val = rdsAll o s := by
  have h := rds_small o s hs (s.length + 1) 0
  unfold rdsB rdsAll
  generalize rds o s (s.length + 1) 0 = l at *
  induction l with
  | nil => rfl
  | cons x l ih =>
    have hx := h x (List.mem_cons_self ..)
    have : toB x = some ⟨x, hx⟩ := by unfold toB; rw [dif_pos hx]
    rw [List.filterMap_cons, this, List.map_cons, ih (fun y hy => h y (List.mem_cons_of_mem _ hy))]
theorem req_stops {h : HMap} (hgl : ∀ k ps, gat GTab.tab k = some ps → PRel h (.pointer (some ⟨k, 0, none⟩)) (.loc ps)) {s : List UInt8} {o : Int} (hs : s.length ≤ 1000000) {lb : Array Value} (hls : lb.size = 2)
    (hlr : ∀ (i : Nat) (v : Value) (p : PV), lb[i]? = some v → [PV.loc [.str s], .loc [.int .i64 o]][i]? = some p → PRel h v p) (w : World) (hH : Holds h w) :
    SeqStopsK Fence.wide 2 Tryd.prog 48 lb (fun x : Bx => #[Value.int .i64 (x.1.1 : Int), Value.int .i64 (x.1.2 : Int)]) (KpH h) (fun xs => xs = rdsB o s) (fun pre => pre <+: rdsB o s) (s.length + 1) w := by
  obtain ⟨l⟩ := lb
  match l, hls with
  | [x, y], _ =>
    have hx := hlr 0 x _ rfl rfl
    have hy := hlr 1 y _ rfl rfl
    cases hx with
    | loc b1 f1 _ vals1 hh1 ho1 hp1 =>
      cases hy with
      | loc b2 f2 _ vals2 hh2 ho2 hp2 =>
        have e1 : vals1 0 = .string ⟨⟨s⟩⟩ := by
          have := hp1 0 (.str s) rfl
          cases hv : vals1 0 <;> rw [hv] at this <;> cases this
          rfl
        have e2 : vals2 0 = .int .i64 o := by
          have := hp2 0 (.int .i64 o) rfl
          cases hv : vals2 0 <;> rw [hv] at this <;> cases this
          rfl
        have k1 : h b1 f1 = some (.string ⟨⟨s⟩⟩) := by rw [← e1]; exact hh1 0 (by simp)
        have k2 : h b2 f2 = some (.int .i64 o) := by rw [← e2]; exact hh2 0 (by simp)
        intro l J Jx W hW hJ hJx hY h0
        refine (reqIt_in hgl k1 k2 hs l (fun p W => ∃ q : List Bx, q.map Subtype.val = p ∧ J q W) (fun p W => ∃ q : List Bx, q.map Subtype.val = p ∧ Jx q W) W (fun p A B row ⟨q, e, hq⟩ hg hr => ⟨q, e, hJ q A B row hq hg hr⟩) ?_ ?_ ⟨[], rfl, h0⟩).mono ?_
        · rintro pre x W1 hx ⟨q, rfl, hq⟩ hlen
          obtain ⟨fn, tmps, assign, body, hy, hR⟩ := hY q ⟨x, hx⟩ W1 hq (by simpa using hlen)
          refine ⟨fn, tmps, assign, body, hy, hR.mono ?_⟩
          rintro e W' (⟨he, h1, h2⟩ | ⟨he, h1⟩)
          · exact .inl ⟨he, ⟨q ++ [⟨x, hx⟩], by simp, h1⟩, h2⟩
          · exact .inr ⟨he, ⟨q ++ [⟨x, hx⟩], by simp, h1⟩⟩
        rotate_left
        · rintro e W' ⟨hv, ⟨xs, rfl, q, hq, hj⟩ | ⟨pre, hp, q, rfl, hj⟩⟩
          · exact ⟨hv, .inl ⟨q, rdsB_of hq, hj⟩⟩
          · exact ⟨hv, .inr ⟨q, rdsB_pre hp, hj⟩⟩
        intro b o' v e
        have h1 := hH b o' v e
        have hlt : b < w.heap.size := by
          unfold World.cell? at h1
          split at h1
          · rename_i hc; exact (Array.getElem?_eq_some_iff.1 hc).1
          · cases h1
        rw [World.cell?_of_block (a := ⟨b, o', none⟩) (hW.block b hlt)]
        exact h1
end Go.Proofs.Sh
