/- Bytes of numbers; fields' bytes are as many as a multiple of four. Plain. -/
import Derived.Test.YtoemcdgebkkcoaaGreatDoorPkPLen
import Derived.Test.YtoemcdgebkkcoaaGreatDoorPvYa
import Derived.Test.YtoemcdgebkkcoaaGreatDoorPvYb
set_option maxRecDepth 100000
namespace Go.Proofs.Sh
open Go.Pv
theorem fmt_mod (o : Int) (f : Fm) (x : Fd) : (fmt o f x).length % 4 = 0 := by
 have hp : ∀ l : List UInt8, (p1 l).length % 4 = 0 := fun l => by
  simp only [p1, zeros, List.length_append, List.length_replicate, padN]; omega
 unfold fmt
 split
 ·exact hp _
 ·unfold fmt2
  split
  ·exact hp _
  ·exact hp _
theorem byteAt_of {n k : Nat} : (byteAt (n : Int) k).toNat = n / 256 ^ k % 256 := by
 have := byteAt_toNat (n : Int) k
 have h : ((256 : Int) ^ k) = ((256 ^ k : Nat) : Int) := by rw [Int.natCast_pow]; rfl
 rw [h, ← Int.natCast_ediv] at this
 omega
theorem enc_1 (o v : Int) : encB o 1 v = [byteAt v 0] := by
 unfold encB
 cases (o == 1) <;> rfl
end Go.Proofs.Sh
set_option maxRecDepth 100000
namespace Go.Proofs.Sh
open Go.Pv
theorem byteAt_nat (v : Int) (k : Nat) : ((byteAt v k).toNat : Int) = (v / 256 ^ k) % 256 := byteAt_toNat v k
theorem dec_enc {o : Int} (ho : isOrder o) {s : Int} (hs : isSize s) (v : Int) : (decU o (encB o (wid s) v) : Int) = v % 256 ^ wid s := by
 have h0 := byteAt_nat v 0
 have h1 := byteAt_nat v 1
 have h2 := byteAt_nat v 2
 have h3 := byteAt_nat v 3
 simp only [Int.reducePow] at h0 h1 h2 h3
 rcases ho with rfl | rfl <;> rcases hs with rfl | rfl | rfl | rfl | rfl | rfl <;>
  simp [encB, decU, little, wid, List.range_succ] <;> omega
end Go.Proofs.Sh
set_option maxRecDepth 100000
set_option linter.unusedSimpArgs false
set_option linter.unusedVariables false
namespace Go.Proofs.Sh
open Go.Pv
def evT : List PV :=
 [.agg [.str [], .str [], .str []],
  .agg [.str [107, 101, 121, 45, 112, 114, 101, 115, 115], .str [119, 105, 110, 100, 111, 119, 52, 32, 99, 104, 105, 108, 100, 52, 32, 99, 111, 100, 101, 49, 32, 115, 116, 97, 116, 101, 50, 32, 120, 45, 50, 32, 121, 45, 50, 32, 114, 111, 111, 116, 120, 45, 50, 32, 114, 111, 111, 116, 121, 45, 50, 32, 116, 105, 109, 101, 52], .str []],
  .agg [.str [107, 101, 121, 45, 114, 101, 108, 101, 97, 115, 101], .str [119, 105, 110, 100, 111, 119, 52, 32, 99, 104, 105, 108, 100, 52, 32, 99, 111, 100, 101, 49, 32, 115, 116, 97, 116, 101, 50, 32, 120, 45, 50, 32, 121, 45, 50, 32, 114, 111, 111, 116, 120, 45, 50, 32, 114, 111, 111, 116, 121, 45, 50, 32, 116, 105, 109, 101, 52], .str []],
  .agg [.str [98, 117, 116, 116, 111, 110, 45, 112, 114, 101, 115, 115], .str [119, 105, 110, 100, 111, 119, 52, 32, 99, 104, 105, 108, 100, 52, 32, 99, 111, 100, 101, 49, 32, 115, 116, 97, 116, 101, 50, 32, 120, 45, 50, 32, 121, 45, 50, 32, 114, 111, 111, 116, 120, 45, 50, 32, 114, 111, 111, 116, 121, 45, 50, 32, 116, 105, 109, 101, 52], .str []],
  .agg [.str [98, 117, 116, 116, 111, 110, 45, 114, 101, 108, 101, 97, 115, 101], .str [119, 105, 110, 100, 111, 119, 52, 32, 99, 104, 105, 108, 100, 52, 32, 99, 111, 100, 101, 49, 32, 115, 116, 97, 116, 101, 50, 32, 120, 45, 50, 32, 121, 45, 50, 32, 114, 111, 111, 116, 120, 45, 50, 32, 114, 111, 111, 116, 121, 45, 50, 32, 116, 105, 109, 101, 52], .str []],
  .agg [.str [109, 111, 116, 105, 111, 110], .str [119, 105, 110, 100, 111, 119, 52, 32, 99, 104, 105, 108, 100, 52, 32, 99, 111, 100, 101, 49, 32, 115, 116, 97, 116, 101, 50, 32, 120, 45, 50, 32, 121, 45, 50, 32, 114, 111, 111, 116, 120, 45, 50, 32, 114, 111, 111, 116, 121, 45, 50, 32, 116, 105, 109, 101, 52], .str []],
  .agg [.str [101, 110, 116, 101, 114], .str [119, 105, 110, 100, 111, 119, 52, 32, 100, 101, 116, 97, 105, 108, 49, 32, 120, 45, 50, 32, 121, 45, 50, 32, 114, 111, 111, 116, 120, 45, 50, 32, 114, 111, 111, 116, 121, 45, 50, 32, 115, 116, 97, 116, 101, 50, 32, 116, 105, 109, 101, 52], .str []],
  .agg [.str [108, 101, 97, 118, 101], .str [119, 105, 110, 100, 111, 119, 52, 32, 100, 101, 116, 97, 105, 108, 49, 32, 120, 45, 50, 32, 121, 45, 50, 32, 114, 111, 111, 116, 120, 45, 50, 32, 114, 111, 111, 116, 121, 45, 50, 32, 115, 116, 97, 116, 101, 50, 32, 116, 105, 109, 101, 52], .str []],
  .agg [.str [102, 111, 99, 117, 115, 45, 105, 110], .str [119, 105, 110, 100, 111, 119, 52, 32, 100, 101, 116, 97, 105, 108, 49], .str []],
  .agg [.str [102, 111, 99, 117, 115, 45, 111, 117, 116], .str [119, 105, 110, 100, 111, 119, 52, 32, 100, 101, 116, 97, 105, 108, 49], .str []],
  .agg [.str [101, 120, 112, 111, 115, 101], .str [119, 105, 110, 100, 111, 119, 52, 32, 120, 50, 32, 121, 50, 32, 119, 50, 32, 104, 50, 32, 99, 111, 117, 110, 116, 50], .str []],
  .agg [.str [103, 114, 97, 112, 104, 105, 99, 115, 45, 101, 120, 112, 111, 115, 101], .str [100, 114, 97, 119, 97, 98, 108, 101, 52, 32, 120, 50, 32, 121, 50, 32, 119, 50, 32, 104, 50, 32, 99, 111, 117, 110, 116, 50], .str []],
  .agg [.str [110, 111, 45, 101, 120, 112, 111, 115, 101], .str [100, 114, 97, 119, 97, 98, 108, 101, 52], .str []],
  .agg [.str [99, 114, 101, 97, 116, 101], .str [112, 97, 114, 101, 110, 116, 52, 32, 119, 105, 110, 100, 111, 119, 52, 32, 120, 45, 50, 32, 121, 45, 50, 32, 119, 50, 32, 104, 50, 32, 111, 118, 101, 114, 114, 105, 100, 101, 49], .str []],
  .agg [.str [100, 101, 115, 116, 114, 111, 121], .str [101, 118, 101, 110, 116, 52, 32, 119, 105, 110, 100, 111, 119, 52], .str []],
  .agg [.str [109, 97, 112], .str [101, 118, 101, 110, 116, 52, 32, 119, 105, 110, 100, 111, 119, 52, 32, 111, 118, 101, 114, 114, 105, 100, 101, 49], .str []],
  .agg [.str [117, 110, 109, 97, 112], .str [101, 118, 101, 110, 116, 52, 32, 119, 105, 110, 100, 111, 119, 52], .str []],
  .agg [.str [109, 97, 112, 45, 114, 101, 113, 117, 101, 115, 116], .str [112, 97, 114, 101, 110, 116, 52, 32, 119, 105, 110, 100, 111, 119, 52], .str []],
  .agg [.str [99, 111, 110, 102, 105, 103, 117, 114, 101], .str [101, 118, 101, 110, 116, 52, 32, 119, 105, 110, 100, 111, 119, 52, 32, 97, 98, 111, 118, 101, 52, 32, 120, 45, 50, 32, 121, 45, 50, 32, 119, 50, 32, 104, 50, 32, 111, 118, 101, 114, 114, 105, 100, 101, 49], .str []],
  .agg [.str [99, 111, 110, 102, 105, 103, 117, 114, 101, 45, 114, 101, 113, 117, 101, 115, 116], .str [112, 97, 114, 101, 110, 116, 52, 32, 119, 105, 110, 100, 111, 119, 52, 32, 109, 97, 115, 107, 49, 32, 120, 45, 50, 32, 121, 45, 50, 32, 119, 50, 32, 104, 50, 32, 115, 105, 98, 108, 105, 110, 103, 52, 32, 109, 111, 100, 101, 49], .str []],
  .agg [.str [114, 101, 112, 97, 114, 101, 110, 116], .str [101, 118, 101, 110, 116, 52, 32, 119, 105, 110, 100, 111, 119, 52, 32, 112, 97, 114, 101, 110, 116, 52, 32, 120, 45, 50, 32, 121, 45, 50, 32, 111, 118, 101, 114, 114, 105, 100, 101, 49], .str []],
  .agg [.str [112, 114, 111, 112, 101, 114, 116, 121], .str [119, 105, 110, 100, 111, 119, 52, 32, 97, 116, 111, 109, 52, 32, 115, 116, 97, 116, 101, 49, 32, 116, 105, 109, 101, 52], .str []],
  .agg [.str [115, 101, 108, 101, 99, 116, 105, 111, 110, 45, 99, 108, 101, 97, 114], .str [119, 105, 110, 100, 111, 119, 52, 32, 115, 101, 108, 101, 99, 116, 105, 111, 110, 52, 32, 116, 105, 109, 101, 52], .str []],
  .agg [.str [115, 101, 108, 101, 99, 116, 105, 111, 110, 45, 114, 101, 113, 117, 101, 115, 116], .str [111, 119, 110, 101, 114, 52, 32, 114, 101, 113, 117, 101, 115, 116, 111, 114, 52, 32, 115, 101, 108, 101, 99, 116, 105, 111, 110, 52, 32, 116, 97, 114, 103, 101, 116, 52, 32, 112, 114, 111, 112, 101, 114, 116, 121, 52, 32, 116, 105, 109, 101, 52], .str []],
  .agg [.str [115, 101, 108, 101, 99, 116, 105, 111, 110, 45, 110, 111, 116, 105, 102, 121], .str [114, 101, 113, 117, 101, 115, 116, 111, 114, 52, 32, 115, 101, 108, 101, 99, 116, 105, 111, 110, 52, 32, 116, 97, 114, 103, 101, 116, 52, 32, 112, 114, 111, 112, 101, 114, 116, 121, 52, 32, 116, 105, 109, 101, 52], .str []],
  .agg [.str [109, 101, 115, 115, 97, 103, 101], .str [119, 105, 110, 100, 111, 119, 52, 32, 116, 121, 112, 101, 52, 32, 76, 52], .str []]]
theorem evT_ok : (fnCl 103 (atInt evT)).Ok Tryz.prog := atInt_ok mixed cl1_ok (wbf := fun f => Nat.beq f 100 || Nat.beq f 104) (n := 60) (d := 10) (by kernel_rfl)
def clt : Cl := orCl anyCl (orCl fldCl (orCl (fnCl 81 (atInt reqT)) (fnCl 103 (atInt evT))))
theorem clt_ok : clt.Ok Tryz.prog := orCl_ok anyCl_ok (orCl_ok fldCl_ok (orCl_ok reqT_ok evT_ok))
def repL : List (Option Fm) :=
 [none,
  none,
  none,
  none,
  none,
  none,
  none,
  none,
  none,
  some ⟨[4, (-2), (-2), 2, 2, 1, 1], false, 0⟩,
  some ⟨[4], false, 4⟩,
  some ⟨[4], false, 0⟩,
  some ⟨[], true, 0⟩,
  none,
  none,
  some ⟨[4, 1, 4], false, 4⟩,
  some ⟨[], false, 4⟩,
  none,
  none,
  none,
  none,
  none,
  none,
  none,
  none,
  some ⟨[1, 1], false, 1⟩,
  none,
  none,
  none,
  none,
  none,
  none,
  none,
  none,
  none,
  some ⟨[2, 2], true, 0⟩,
  none,
  none,
  some ⟨[4, 1], false, 0⟩,
  some ⟨[1], false, 0⟩,
  none,
  none,
  none,
  some ⟨[1], false, 0⟩,
  none,
  none,
  none,
  none,
  some ⟨[4, (-2), (-2), (-2), (-2), 2], false, 0⟩,
  none,
  none,
  some ⟨[4], false, 0⟩,
  none,
  none,
  none,
  none,
  none,
  none,
  none]
def evL : List (Option Fm) :=
 [none,
  some ⟨[4, 4, 1, 2, (-2), (-2), (-2), (-2), 4], false, 0⟩,
  some ⟨[4, 4, 1, 2, (-2), (-2), (-2), (-2), 4], false, 0⟩,
  some ⟨[4, 4, 1, 2, (-2), (-2), (-2), (-2), 4], false, 0⟩,
  some ⟨[4, 4, 1, 2, (-2), (-2), (-2), (-2), 4], false, 0⟩,
  some ⟨[4, 4, 1, 2, (-2), (-2), (-2), (-2), 4], false, 0⟩,
  some ⟨[4, 1, (-2), (-2), (-2), (-2), 2, 4], false, 0⟩,
  some ⟨[4, 1, (-2), (-2), (-2), (-2), 2, 4], false, 0⟩,
  some ⟨[4, 1], false, 0⟩,
  some ⟨[4, 1], false, 0⟩,
  some ⟨[4, 2, 2, 2, 2, 2], false, 0⟩,
  some ⟨[4, 2, 2, 2, 2, 2], false, 0⟩,
  some ⟨[4], false, 0⟩,
  some ⟨[4, 4, (-2), (-2), 2, 2, 1], false, 0⟩,
  some ⟨[4, 4], false, 0⟩,
  some ⟨[4, 4, 1], false, 0⟩,
  some ⟨[4, 4], false, 0⟩,
  some ⟨[4, 4], false, 0⟩,
  some ⟨[4, 4, 4, (-2), (-2), 2, 2, 1], false, 0⟩,
  some ⟨[4, 4, 1, (-2), (-2), 2, 2, 4, 1], false, 0⟩,
  some ⟨[4, 4, 4, (-2), (-2), 1], false, 0⟩,
  some ⟨[4, 4, 1, 4], false, 0⟩,
  some ⟨[4, 4, 4], false, 0⟩,
  some ⟨[4, 4, 4, 4, 4, 4], false, 0⟩,
  some ⟨[4, 4, 4, 4, 4], false, 0⟩,
  some ⟨[4, 4], false, 4⟩]
def optT : Option Fm → PV
 | some f => formT f
 | none => form0
theorem repL_ran : ranAllF Tryz.prog clt (fun f => Nat.beq f 100 || Nat.beq f 104) 60 10 92 (repL.map optT) 0 = true := by kernel_rfl
theorem evL_ran : ranAllF Tryz.prog clt (fun f => Nat.beq f 100 || Nat.beq f 104) 60 10 93 (evL.map optT) 0 = true := by kernel_rfl
def inL (l : List (Option Fm)) (n : Int) : Option Fm := if 1 ≤ n ∧ n < l.length then (l[n.toNat]?).getD none else none
def replyOf (n : Int) : Option Fm := inL repL n
def eventOf (n : Int) : Option Fm := inL evL n
theorem event_out (n : Int) (h : ¬ (1 ≤ n ∧ n ≤ 25)) : Fsp Tryz.prog 103 [] 0 [.int .i64 n] [] 0 (.agg [.str [], .str [], .str []]) := by
 rcases Int.lt_or_le n 1 with h1 | h1
 ·have hd : decide (n < 1) = true := by simpa using h1
  (refine Fsp.ofs (nx := 0) mixed Tryz.func103 rfl (by simp [Tryz.f103]) ?_; simp -implicitDefEqProofs only [push_cast, Tryz.f103, hd, seval])
 ·have hd : decide (n < 1) = false := by simp; omega
  have hd2 : decide (25 < n) = true := by simp; omega
  (refine Fsp.ofs (nx := 0) mixed Tryz.func103 rfl (by simp [Tryz.f103]) ?_; simp -implicitDefEqProofs only [push_cast, Tryz.f103, hd, hd2, seval])
theorem reply_len : repL.length = 59 := by rfl
theorem reply_fs (n : Int) : Fsp Tryz.prog 92 [] 0 [.int .i64 n] [] 0 (optT (replyOf n)) := by
 by_cases h : 1 ≤ n ∧ n ≤ 58
 ·obtain ⟨k, rfl⟩ : ∃ k : Nat, n = (k : Int) := ⟨n.toNat, by omega⟩
  have hlt : k < repL.length := by rw [reply_len]; omega
  have hk : (repL.map optT)[k]? = some (optT repL[k]) := by
   rw [List.getElem?_map, List.getElem?_eq_getElem hlt]; rfl
  have := ranAllF_at mixed clt_ok repL_ran hk
  rw [Nat.zero_add] at this
  have e : replyOf (k : Int) = repL[k] := by
   rw [replyOf, inL, if_pos (by rw [reply_len]; omega), Int.toNat_natCast, List.getElem?_eq_getElem hlt]; rfl
  rw [e]; exact this
 ·have e : replyOf n = none := by rw [replyOf, inL, if_neg (by rw [reply_len]; omega)]
  rw [e]
  have hq := request_out n h
  (refine Fsp.ofs (nx := 0) mixed Tryz.func92 rfl (by simp [Tryz.f92]) ?_; simp -implicitDefEqProofs only [push_cast, Tryz.f92, seval])
  refine callE_p hq ?_
  simp -implicitDefEqProofs only [push_cast, ez_e, kt_e, eg_e, seval]
  exact ⟨_, rfl, .inr ⟨_, rfl, .inr ⟨.inl rfl, rfl⟩, rfl, rfl, trivial⟩, rfl, trivial⟩
theorem event_len : evL.length = 26 := by rfl
theorem event_fs (n : Int) : Fsp Tryz.prog 93 [] 0 [.int .i64 n] [] 0 (optT (eventOf n)) := by
 by_cases h : 1 ≤ n ∧ n ≤ 25
 ·obtain ⟨k, rfl⟩ : ∃ k : Nat, n = (k : Int) := ⟨n.toNat, by omega⟩
  have hlt : k < evL.length := by rw [event_len]; omega
  have hk : (evL.map optT)[k]? = some (optT evL[k]) := by
   rw [List.getElem?_map, List.getElem?_eq_getElem hlt]; rfl
  have := ranAllF_at mixed clt_ok evL_ran hk
  rw [Nat.zero_add] at this
  have e : eventOf (k : Int) = evL[k] := by
   rw [eventOf, inL, if_pos (by rw [event_len]; omega), Int.toNat_natCast, List.getElem?_eq_getElem hlt]; rfl
  rw [e]; exact this
 ·have e : eventOf n = none := by rw [eventOf, inL, if_neg (by rw [event_len]; omega)]
  rw [e]
  have hq := event_out n h
  (refine Fsp.ofs (nx := 0) mixed Tryz.func93 rfl (by simp [Tryz.f93]) ?_; simp -implicitDefEqProofs only [push_cast, Tryz.f93, seval])
  refine callE_p hq ?_
  simp -implicitDefEqProofs only [push_cast, ez_e, kt_e, eg_e, seval]
  exact ⟨_, rfl, .inr ⟨_, rfl, .inr ⟨.inl rfl, rfl⟩, rfl, rfl, trivial⟩, rfl, trivial⟩
def optOk : Option Fm → Bool
 | some f => fmOk f
 | none => true
theorem repL_all : repL.all optOk = true := by decide +kernel
theorem evL_all : evL.all optOk = true := by decide +kernel
theorem inL_some {l : List (Option Fm)} (hl : l.all optOk = true) {n : Int} {f : Fm} (h : inL l n = some f) : f.Ok ∧ 1 ≤ n ∧ n < l.length := by
 unfold inL at h
 split at h
 ·rename_i hn
  cases h2 : l[n.toNat]? with
  | none => rw [h2] at h; cases h
  | some o =>
   rw [h2] at h
   obtain rfl : o = some f := h
   exact ⟨fmOk_ok (show optOk (some f) = true from List.all_eq_true.1 hl _ (List.mem_of_getElem? h2)), hn⟩
 ·cases h
theorem replyOf_some {n : Int} {f : Fm} (h : replyOf n = some f) : f.Ok ∧ 1 ≤ n ∧ n ≤ 58 := by
 obtain ⟨h1, h2, h3⟩ := inL_some repL_all h
 rw [reply_len] at h3
 exact ⟨h1, h2, by omega⟩
theorem eventOf_some {n : Int} {f : Fm} (h : eventOf n = some f) : f.Ok ∧ 1 ≤ n ∧ n ≤ 25 := by
 obtain ⟨h1, h2, h3⟩ := inL_some evL_all h
 rw [event_len] at h3
 exact ⟨h1, h2, by omega⟩
end Go.Proofs.Sh
set_option maxRecDepth 100000
set_option linter.unusedSimpArgs false
set_option linter.unusedVariables false
namespace Go.Proofs.Sh
open Go.Pv
structure Ot where
 K : Int
 C : Int
 Q : Int
 N : List Int
 B : List UInt8
 L : List Int
def Ot.fd (r : Ot) : Fd := ⟨r.N, r.B, r.L⟩
def Ot.pv (r : Ot) : PV := .agg [.int .i64 r.K, .int .i64 r.C, .int .i64 r.Q, .sl 1 (ints r.N), .str r.B, .sl 1 (ints r.L)]
structure Ot.Few (r : Ot) : Prop where
 n : r.N.length ≤ 1000000000000000
 b : r.B.length ≤ 1000000000000000
 l : r.L.length ≤ 1000000000000000
def mErr (k : Int) : Int := if k = 0 ∨ k = 1 ∨ k = 2 then 6 else 10
def fault0 : Fm := ⟨[-4, 1], false, 0⟩
def mForm (k n : Int) : Option Fm :=
 if k = 0 then (if 1 ≤ n ∧ n ≤ 255 then some fault0 else none) else if k = 1 then replyOf n else if k = 2 then eventOf n else none
def mFormR (k n : Int) : PV := match mForm k n with
 | some f => .tup [f.pv, .int .i64 0]
 | none => .tup [.agg [.sl 1 [], .bool false, .int .i64 0], .int .i64 (mErr k)]
theorem mFormR_some {k n : Int} {f : Fm} (h : mForm k n = some f) : mFormR k n = .tup [f.pv, .int .i64 0] := by rw [mFormR, h]
theorem mFormR_none {k n : Int} (h : mForm k n = none) : mFormR k n = .tup [.agg [.sl 1 [], .bool false, .int .i64 0], .int .i64 (mErr k)] := by rw [mFormR, h]
theorem mForm_some {k n : Int} {f : Fm} (h : mForm k n = some f) : f.Ok ∧ 0 ≤ k ∧ k ≤ 2 ∧ 1 ≤ n ∧ n ≤ 255 := by
 unfold mForm at h
 split at h
 ·split at h
  ·cases h
   exact ⟨⟨by decide, fun x hx => by (simp [fault0] at hx; unfold isSize; omega), .inl rfl⟩, by omega, by omega, by omega, by omega⟩
  ·cases h
 ·split at h
  ·obtain ⟨h1, h2, h3⟩ := replyOf_some h
   exact ⟨h1, by omega, by omega, by omega, by omega⟩
  ·split at h
   ·obtain ⟨h1, h2, h3⟩ := eventOf_some h
    exact ⟨h1, by omega, by omega, by omega, by omega⟩
   ·cases h
set_option maxHeartbeats 2000000 in
theorem mform_fs (k n : Int) : Fsp Tryz.prog 63 [] 0 [.int .i64 k, .int .i64 n] [] 0 (mFormR k n) := by
 cases h0 : (k == 0)
 ·have h0' : ¬ k = 0 := by simpa using h0
  cases h1 : (k == 1)
  ·have h1' : ¬ k = 1 := by simpa using h1
   cases h2 : (k == 2)
   ·have h2' : ¬ k = 2 := by simpa using h2
    rw [mFormR_none (by rw [mForm, if_neg h0', if_neg h1', if_neg h2']), show mErr k = 10 by rw [mErr, if_neg (by omega)]]
    (refine Fsp.ofs (nx := 0) mixed Tryz.func63 rfl (by simp [Tryz.f63]) ?_; simp -implicitDefEqProofs only [push_cast, Tryz.f63, h0, h1, h2, seval])
    all_goals first | done | exact ⟨_, rfl, by simp [wkL, res2, res1, PV.weak, PV.el, ints]⟩ | simp [wkL, res2, res1, PV.weak, PV.el, ints]
   ·obtain rfl : k = 2 := by simpa using h2
    have hq := event_fs n
    have hm : mForm 2 n = eventOf n := by rw [mForm, if_neg h0', if_neg h1', if_pos rfl]
    cases hf : eventOf n with
    | none =>
     rw [hf] at hq
     simp only [optT, form0] at hq
     rw [mFormR_none (by rw [hm, hf]), show mErr 2 = 6 by decide]
     (refine Fsp.ofs (nx := 0) mixed Tryz.func63 rfl (by simp [Tryz.f63]) ?_; simp -implicitDefEqProofs only [push_cast, Tryz.f63, h0, h1, h2, seval])
     refine callE_p hq ?_
     simp -implicitDefEqProofs only [push_cast, seval]
     all_goals first | done | exact ⟨_, rfl, by simp [wkL, res2, res1, PV.weak, PV.el, ints]⟩ | simp [wkL, res2, res1, PV.weak, PV.el, ints]
    | some f =>
     rw [hf] at hq
     simp only [optT, formT, Fm.pv] at hq
     rw [mFormR_some (by rw [hm, hf]), Fm.pv]
     (refine Fsp.ofs (nx := 0) mixed Tryz.func63 rfl (by simp [Tryz.f63]) ?_; simp -implicitDefEqProofs only [push_cast, Tryz.f63, h0, h1, h2, seval])
     refine callE_p hq ?_
     simp -implicitDefEqProofs only [push_cast, seval]
     all_goals first | done | exact ⟨_, rfl, by simp [wkL, res2, res1, PV.weak, PV.el, ints]⟩ | simp [wkL, res2, res1, PV.weak, PV.el, ints]
  ·obtain rfl : k = 1 := by simpa using h1
   have hq := reply_fs n
   have hm : mForm 1 n = replyOf n := by rw [mForm, if_neg h0', if_pos rfl]
   cases hf : replyOf n with
   | none =>
    rw [hf] at hq
    simp only [optT, form0] at hq
    rw [mFormR_none (by rw [hm, hf]), show mErr 1 = 6 by decide]
    (refine Fsp.ofs (nx := 0) mixed Tryz.func63 rfl (by simp [Tryz.f63]) ?_; simp -implicitDefEqProofs only [push_cast, Tryz.f63, h0, h1, seval])
    refine callE_p hq ?_
    simp -implicitDefEqProofs only [push_cast, seval]
    all_goals first | done | exact ⟨_, rfl, by simp [wkL, res2, res1, PV.weak, PV.el, ints]⟩ | simp [wkL, res2, res1, PV.weak, PV.el, ints]
   | some f =>
    rw [hf] at hq
    simp only [optT, formT, Fm.pv] at hq
    rw [mFormR_some (by rw [hm, hf]), Fm.pv]
    (refine Fsp.ofs (nx := 0) mixed Tryz.func63 rfl (by simp [Tryz.f63]) ?_; simp -implicitDefEqProofs only [push_cast, Tryz.f63, h0, h1, seval])
    refine callE_p hq ?_
    simp -implicitDefEqProofs only [push_cast, seval]
    all_goals first | done | exact ⟨_, rfl, by simp [wkL, res2, res1, PV.weak, PV.el, ints]⟩ | simp [wkL, res2, res1, PV.weak, PV.el, ints]
 ·obtain rfl : k = 0 := by simpa using h0
  by_cases hn : 1 ≤ n ∧ n ≤ 255
  ·have hd1 : decide (n < 1) = false := by simp; omega
   have hd2 : decide (255 < n) = false := by simp; omega
   have hd3 : decide (1 ≤ n) = true := by simp; omega
   have hd4 : decide (n ≤ 255) = true := by simp; omega
   rw [mFormR_some (f := fault0) (by rw [mForm, if_pos rfl, if_pos hn]), Fm.pv, fault0]
   (refine Fsp.ofs (nx := 0) mixed Tryz.func63 rfl (by simp [Tryz.f63]) ?_; simp -implicitDefEqProofs only [push_cast, Tryz.f63, hd1, hd2, hd3, hd4, seval])
   all_goals first | done | exact ⟨_, rfl, by simp [wkL, res2, res1, PV.weak, PV.el, ints]⟩ | simp [wkL, res2, res1, PV.weak, PV.el, ints]
  ·rw [mFormR_none (by rw [mForm, if_pos rfl, if_neg hn]), show mErr 0 = 6 by decide]
   rcases Int.lt_or_le n 1 with h1 | h1
   ·have hd1 : decide (1 ≤ n) = false := by simp; omega
    have hd2 : decide (n < 1) = true := by simp; omega
    (refine Fsp.ofs (nx := 0) mixed Tryz.func63 rfl (by simp [Tryz.f63]) ?_; simp -implicitDefEqProofs only [push_cast, Tryz.f63, hd1, hd2, seval])
    all_goals first | done | exact ⟨_, rfl, by simp [wkL, res2, res1, PV.weak, PV.el, ints]⟩ | simp [wkL, res2, res1, PV.weak, PV.el, ints]
   ·have hd1 : decide (1 ≤ n) = true := by simp; omega
    have hd2 : decide (n < 1) = false := by simp; omega
    have hd3 : decide (n ≤ 255) = false := by simp; omega
    have hd4 : decide (255 < n) = true := by simp; omega
    (refine Fsp.ofs (nx := 0) mixed Tryz.func63 rfl (by simp [Tryz.f63]) ?_; simp -implicitDefEqProofs only [push_cast, Tryz.f63, hd1, hd2, hd3, hd4, seval])
    all_goals first | done | exact ⟨_, rfl, by simp [wkL, res2, res1, PV.weak, PV.el, ints]⟩ | simp [wkL, res2, res1, PV.weak, PV.el, ints]
def thd (o K C Q : Int) (n : Nat) : List UInt8 := encB o 1 K ++ encB o 1 C ++ encB o 2 Q ++ encB o 4 (n : Int)
def tellQ (o : Int) (r : Ot) (f : Fm) : List UInt8 × Int :=
 if r.Q < 0 ∨ 1099511627776 < r.Q then ([], 22)
 else if (fitsE f r.fd != 0) = true then ([], fitsE f r.fd)
 else if decide ((65536 : Int) < (fmt o f r.fd).length) = true then ([], 4)
 else (thd o r.K r.C (r.Q % 65536) ((fmt o f r.fd).length / 4 + 2) ++ fmt o f r.fd, 0)
def tellP (o : Int) (r : Ot) : List UInt8 × Int :=
 match mForm r.K r.C with
 | none => ([], mErr r.K)
 | some f => tellQ o r f
def tellS (o : Int) (r : Ot) : List UInt8 × Int := if isOrd o = true then tellP o r else ([], 8)
def tellPR (o : Int) (r : Ot) : PV := .tup [.str (tellP o r).1, .int .i64 (tellP o r).2]
def tellR (o : Int) (r : Ot) : PV := .tup [.str (tellS o r).1, .int .i64 (tellS o r).2]
theorem tellP_none {o : Int} {r : Ot} (h : mForm r.K r.C = none) : tellP o r = ([], mErr r.K) := by rw [tellP, h]
theorem tellP_some {o : Int} {r : Ot} {f : Fm} (h : mForm r.K r.C = some f) : tellP o r = tellQ o r f := by rw [tellP, h]
theorem putS_fits {o s : Int} {n : Int} (h : fitsN s n = true) : putS o s n = encB o (wid s) n ∧ putE s n = 0 := by
 rw [putS, putE, if_pos h, if_pos h]
 exact ⟨rfl, rfl⟩
theorem rowS_fits {o a b : Int} (ha : 0 ≤ a) (ha2 : a ≤ 255) (hb : 0 ≤ b) (hb2 : b ≤ 255) : rowS o a b = encB o 1 a ++ encB o 1 b ∧ rowE a b = 0 := by
 have hf : (fitsN 1 a && fitsN 1 b) = true := by simp [fitsN, low, high]; omega
 rw [rowS, rowE, if_pos hf, if_pos hf]
 exact ⟨rfl, rfl⟩
set_option maxHeartbeats 4000000 in
theorem tput_fs {o : Int} (hor : isOrder o) (r : Ot) (hr : r.Few) : Fsp Tryz.prog 80 [] 0 [.int .i64 o, r.pv] [] 0 (tellPR o r) := by
 have hq := mform_fs r.K r.C
 cases hf : mForm r.K r.C with
 | none =>
  rw [mFormR_none hf] at hq
  rw [tellPR, tellP_none hf]
  have he : (mErr r.K != 0) = true := by unfold mErr; split <;> rfl
  (refine Fsp.ofs (nx := 0) mixed Tryz.func80 rfl (by simp [Tryz.f80]) ?_; simp -implicitDefEqProofs only [push_cast, Tryz.f80, Ot.pv, seval])
  refine callE_p hq ?_
  simp -implicitDefEqProofs only [push_cast, he, seval]
  all_goals first | done | exact ⟨_, rfl, by simp [wkL, res2, res1, PV.weak, PV.el, ints]⟩ | simp [wkL, res2, res1, PV.weak, PV.el, ints]
 | some f =>
  rw [mFormR_some hf] at hq
  simp only [Fm.pv] at hq
  obtain ⟨hok, hk1, hk2, hc1, hc2⟩ := mForm_some hf
  rw [tellPR, tellP_some hf, tellQ]
  cases h1 : decide (r.Q < 0)
  ·cases h2 : decide (1099511627776 < r.Q)
   ·have h12 : ¬ (r.Q < 0 ∨ 1099511627776 < r.Q) := by simp at h1 h2; omega
    rw [if_neg h12]
    have hm := format_fs hor f hok r.fd hr.n hr.l hr.b
    simp only [Fm.pv, Fd.pv] at hm
    cases hE : (fitsE f r.fd != 0)
    ·rw [if_neg Bool.false_ne_true]
     cases hM : decide ((65536 : Int) < (fmt o f r.fd).length)
     ·rw [if_neg Bool.false_ne_true]
      rw [fmtR, if_neg (by rw [hE]; simp), if_neg (by rw [hM]; simp)] at hm
      have hfl : (fmt o f r.fd).length ≤ 65536 := by simp at hM; omega
      have hrw := row_fs hor r.K r.C
      rw [(rowS_fits (o := o) hk1 (by omega) (by omega) hc2).1, (rowS_fits (o := o) hk1 (by omega) (by omega) hc2).2] at hrw
      have hx2 : fitsN 2 (r.Q % 65536) = true := by simp [fitsN, low, high]; omega
      have hp2 := put_fs hor (s := 2) (by unfold isSize; omega) (r.Q % 65536)
      rw [(putS_fits (o := o) hx2).1, (putS_fits (o := o) hx2).2] at hp2
      have hmod := fmt_mod o f r.fd
      have hx4 : fitsN 4 (((fmt o f r.fd).length / 4 + 2 : Nat) : Int) = true := by simp [fitsN, low, high]; omega
      have hp4 := put_fs hor (s := 4) (by unfold isSize; omega) (((fmt o f r.fd).length / 4 + 2 : Nat) : Int)
      rw [(putS_fits (o := o) hx4).1, (putS_fits (o := o) hx4).2] at hp4
      have w1 : Int.tmod r.Q 65536 = r.Q % 65536 := Int.tmod_eq_emod_of_nonneg (by omega)
      have w2 : IntKind.i64.wrap (r.Q % 65536) = r.Q % 65536 := by rw [wrap_i64_id (by omega) (by omega)]
      have w3 : IntKind.i64.wrap (8 + ((fmt o f r.fd).length : Int)) = 8 + ((fmt o f r.fd).length : Int) := by rw [wrap_i64_id (by omega) (by omega)]
      have w4 : IntKind.i64.wrap (Int.tdiv (8 + ((fmt o f r.fd).length : Int)) 4) = (((fmt o f r.fd).length / 4 + 2 : Nat) : Int) := by
       rw [Int.tdiv_eq_ediv_of_nonneg (by omega), wrap_i64_id (by omega) (by omega)]; omega
      have l1 : (encB o 1 r.K ++ encB o 1 r.C).length = 2 := by simp [encB_length]
      have l2 : (encB o (wid 2) (r.Q % 65536)).length = 2 := encB_length ..
      have l3 : (encB o (wid 4) (((fmt o f r.fd).length / 4 + 2 : Nat) : Int)).length = 4 := encB_length ..
      rw [thd, show encB o 2 (r.Q % 65536) = encB o (wid 2) (r.Q % 65536) from rfl, show encB o 4 (((fmt o f r.fd).length / 4 + 2 : Nat) : Int) = encB o (wid 4) (((fmt o f r.fd).length / 4 + 2 : Nat) : Int) from rfl]
      generalize hH : encB o 1 r.K ++ encB o 1 r.C = H at *
      generalize hG : encB o (wid 2) (r.Q % 65536) = G at *
      generalize hI : encB o (wid 4) (((fmt o f r.fd).length / 4 + 2 : Nat) : Int) = I at *
      generalize hX : fmt o f r.fd = X at *
      have hq4 : (X.length / 4 + 2 : Nat) = (X.length / 4 + 2 : Nat) := rfl
      obtain ⟨nw, hnw⟩ : ∃ nw : Int, nw = ((X.length / 4 + 2 : Nat) : Int) := ⟨_, rfl⟩
      rw [← hnw] at w4 hp4
      obtain ⟨qw, hqw⟩ : ∃ qw : Int, qw = r.Q % 65536 := ⟨_, rfl⟩
      rw [← hqw] at w1 w2 hp2
      (refine Fsp.ofs (nx := 0) mixed Tryz.func80 rfl (by simp [Tryz.f80]) ?_; simp -implicitDefEqProofs only [push_cast, Tryz.f80, Ot.pv, seval])
      refine callE_p hq ?_
      simp -implicitDefEqProofs only [push_cast, h1, h2, seval]
      refine callE_p hm ?_
      simp -implicitDefEqProofs only [push_cast, seval]
      refine callE_p hrw ?_
      simp -implicitDefEqProofs only [push_cast, w1, w2, seval]
      refine callE_p hp2 ?_
      simp -implicitDefEqProofs only [push_cast, w3, w4, seval]
      refine callE_p hp4 ?_
      simp -implicitDefEqProofs only [push_cast, seval]
      (repeat (refine ⟨by first | omega | (simp only [List.length_append]; omega), ?_⟩))
      all_goals first | done | exact ⟨_, rfl, by simp [wkL, res2, res1, PV.weak, PV.el, ints]⟩ | simp [wkL, res2, res1, PV.weak, PV.el, ints]
     ·rw [if_pos rfl]
      rw [fmtR, if_neg (by rw [hE]; simp), if_pos hM] at hm
      (refine Fsp.ofs (nx := 0) mixed Tryz.func80 rfl (by simp [Tryz.f80]) ?_; simp -implicitDefEqProofs only [push_cast, Tryz.f80, Ot.pv, seval])
      refine callE_p hq ?_
      simp -implicitDefEqProofs only [push_cast, h1, h2, seval]
      refine callE_p hm ?_
      simp -implicitDefEqProofs only [push_cast, seval]
      all_goals first | done | exact ⟨_, rfl, by simp [wkL, res2, res1, PV.weak, PV.el, ints]⟩ | simp [wkL, res2, res1, PV.weak, PV.el, ints]
    ·rw [if_pos rfl]
     rw [fmtR, if_pos hE] at hm
     (refine Fsp.ofs (nx := 0) mixed Tryz.func80 rfl (by simp [Tryz.f80]) ?_; simp -implicitDefEqProofs only [push_cast, Tryz.f80, Ot.pv, seval])
     refine callE_p hq ?_
     simp -implicitDefEqProofs only [push_cast, h1, h2, seval]
     refine callE_p hm ?_
     simp -implicitDefEqProofs only [push_cast, hE, seval]
     all_goals first | done | exact ⟨_, rfl, by simp [wkL, res2, res1, PV.weak, PV.el, ints]⟩ | simp [wkL, res2, res1, PV.weak, PV.el, ints]
   ·rw [if_pos (.inr (by simpa using h2))]
    (refine Fsp.ofs (nx := 0) mixed Tryz.func80 rfl (by simp [Tryz.f80]) ?_; simp -implicitDefEqProofs only [push_cast, Tryz.f80, Ot.pv, seval])
    refine callE_p hq ?_
    simp -implicitDefEqProofs only [push_cast, h1, h2, seval]
    all_goals first | done | exact ⟨_, rfl, by simp [wkL, res2, res1, PV.weak, PV.el, ints]⟩ | simp [wkL, res2, res1, PV.weak, PV.el, ints]
  ·rw [if_pos (.inl (by simpa using h1))]
   (refine Fsp.ofs (nx := 0) mixed Tryz.func80 rfl (by simp [Tryz.f80]) ?_; simp -implicitDefEqProofs only [push_cast, Tryz.f80, Ot.pv, seval])
   refine callE_p hq ?_
   simp -implicitDefEqProofs only [push_cast, h1, seval]
   all_goals first | done | exact ⟨_, rfl, by simp [wkL, res2, res1, PV.weak, PV.el, ints]⟩ | simp [wkL, res2, res1, PV.weak, PV.el, ints]
theorem tknown_fs (o : Int) : Fsp Tryz.prog 62 [] 0 [.int .i64 o] [] 0 (.bool (isOrd o)) := by
 cases h0 : (o == 0)
 ·(refine Fsp.ofs (nx := 0) mixed Tryz.func62 rfl (by simp [Tryz.f62]) ?_; simp -implicitDefEqProofs only [push_cast, Tryz.f62, h0, seval])
  simp [isOrd, h0]
 ·(refine Fsp.ofs (nx := 0) mixed Tryz.func62 rfl (by simp [Tryz.f62]) ?_; simp -implicitDefEqProofs only [push_cast, Tryz.f62, h0, seval])
  simp [isOrd, h0]
theorem tellPut_fs (o : Int) (r : Ot) (hr : r.Few) : Fsp Tryz.prog 53 [] 0 [.int .i64 o, r.pv] [] 0 (tellR o r) := by
 have hk := tknown_fs o
 cases ho : isOrd o
 ·rw [ho] at hk
  rw [tellR, tellS, if_neg (by rw [ho]; simp)]
  (refine Fsp.ofs (nx := 0) mixed Tryz.func53 rfl (by simp [Tryz.f53]) ?_; simp -implicitDefEqProofs only [push_cast, Tryz.f53, Ot.pv, seval])
  refine callE_p hk ?_
  simp -implicitDefEqProofs only [push_cast, seval]
  all_goals first | done | exact ⟨_, rfl, by simp [wkL, res2, res1, PV.weak, PV.el, ints]⟩ | simp [wkL, res2, res1, PV.weak, PV.el, ints]
 ·rw [ho] at hk
  have hp := tput_fs (isOrd_of ho) r hr
  rw [tellR, tellS, if_pos ho]
  simp only [tellPR, Ot.pv] at hp
  (refine Fsp.ofs (nx := 0) mixed Tryz.func53 rfl (by simp [Tryz.f53]) ?_; simp -implicitDefEqProofs only [push_cast, Tryz.f53, Ot.pv, seval])
  refine callE_p hk ?_
  simp -implicitDefEqProofs only [push_cast, seval]
  refine callE_p hp ?_
  simp -implicitDefEqProofs only [push_cast, seval]
  all_goals first | done | exact ⟨_, rfl, by simp [wkL, res2, res1, PV.weak, PV.el, ints]⟩ | simp [wkL, res2, res1, PV.weak, PV.el, ints]
end Go.Proofs.Sh
set_option maxRecDepth 100000
set_option linter.unusedSimpArgs false
set_option linter.unusedVariables false
namespace Go.Proofs.Sh
open Go.Pv
def ot0 : Ot := ⟨0, 0, 0, [], [], []⟩
def tform (s : List UInt8) : Option Fm := mForm ((s.getD 0 0).toNat : Int) ((s.getD 1 0).toNat : Int)
def terr (s : List UInt8) : Int := mErr ((s.getD 0 0).toNat : Int)
def words (o : Int) (s : List UInt8) : Nat := decU o ((s.drop 4).take 4)
def tlenW (n : Nat) : Int × Int := if n < 2 then (0, 2) else if 16386 < n then (0, 4) else (((4 * n : Nat) : Int), 0)
def tlenR (o : Int) (s : List UInt8) : Int × Int :=
 if isOrd o = true then
  if s.length < 8 then (0, 3) else match tform s with
   | none => (0, terr s)
   | some _ => tlenW (words o s)
 else (0, 8)
theorem tlenR_none {o : Int} {s : List UInt8} (ho : isOrd o = true) (h : ¬ s.length < 8) (hf : tform s = none) : tlenR o s = (0, terr s) := by rw [tlenR, if_pos ho, if_neg h, hf]
theorem tlenR_some {o : Int} {s : List UInt8} {f : Fm} (ho : isOrd o = true) (h : ¬ s.length < 8) (hf : tform s = some f) : tlenR o s = tlenW (words o s) := by rw [tlenR, if_pos ho, if_neg h, hf]
theorem mErr_ne (k : Int) : (mErr k != 0) = true := by unfold mErr; split <;> rfl
theorem four_len {s : List UInt8} (h : 8 ≤ s.length) : ((s.drop 4).take 4).length = 4 := by simp; omega
theorem words_lt {o : Int} {s : List UInt8} (h : 8 ≤ s.length) : words o s < 4294967296 := by
 have := decU_lt o ((s.drop 4).take 4)
 rw [four_len h] at this
 exact this
theorem words_get {o : Int} {s : List UInt8} (h : 8 ≤ s.length) : getV o 4 ((s.drop 4).take 4) = (words o s : Int) ∧ getE 4 ((s.drop 4).take 4) = 0 := by
 have hw := words_lt (o := o) h
 have hl := four_len h
 have hw4 : wid 4 = 4 := rfl
 refine ⟨?_, by rw [getE, if_neg (by omega), if_neg (by omega)]⟩
 rw [getV, if_pos (by omega), readV, if_neg]
 ·rfl
 ·simp only [decide_eq_true_eq]
  rw [show high 4 = 4294967295 by decide]
  show ¬ (4294967295 : Int) < ((words o s : Nat) : Int)
  omega
set_option maxHeartbeats 4000000 in
theorem tellLen_fs (o : Int) (s : List UInt8) : Fsp Tryz.prog 34 [] 0 [.int .i64 o, .str s] [] 0 (.tup [.int .i64 (tlenR o s).1, .int .i64 (tlenR o s).2]) := by
 have hk := tknown_fs o
 cases ho : isOrd o
 ·rw [ho] at hk
  rw [show tlenR o s = (0, 8) by rw [tlenR, if_neg (by rw [ho]; simp)]]
  (refine Fsp.ofs (nx := 0) mixed Tryz.func34 rfl (by simp [Tryz.f34]) ?_; simp -implicitDefEqProofs only [push_cast, Tryz.f34, seval])
  refine callE_p hk ?_
  simp -implicitDefEqProofs only [push_cast, seval]
  (repeat (first | refine ⟨by omega, ?_⟩ | refine ⟨by (unfold drawOk; kernel_rfl), ?_⟩))
  all_goals first | done | exact ⟨_, rfl, by simp [wkL, res2, res1, res3, PV.weak, PV.el, ints, ot0, Ot.pv]⟩ | simp [wkL, res2, res1, res3, PV.weak, PV.el, ints, ot0, Ot.pv]
 ·rw [ho] at hk
  have hor := isOrd_of ho
  cases h1 : decide ((s.length : Int) < 8)
  ·have h1' : ¬ s.length < 8 := by simp at h1; omega
   have h8 : 8 ≤ s.length := by omega
   have hq := mform_fs ((s.getD 0 0).toNat : Int) ((s.getD 1 0).toNat : Int)
   cases hf : tform s with
   | none =>
    have hf' : mForm ((s.getD 0 0).toNat : Int) ((s.getD 1 0).toNat : Int) = none := hf
    rw [mFormR_none hf'] at hq
    rw [tlenR_none ho h1' hf]
    have he : (terr s != 0) = true := mErr_ne _
    unfold terr at he ⊢
    (refine Fsp.ofs (nx := 0) mixed Tryz.func34 rfl (by simp [Tryz.f34]) ?_; simp -implicitDefEqProofs only [push_cast, Tryz.f34, seval])
    refine callE_p hk ?_
    simp -implicitDefEqProofs only [push_cast, h1, wb, seval]
    (repeat (first | refine ⟨by omega, ?_⟩ | refine ⟨by (unfold drawOk; kernel_rfl), ?_⟩))
    refine callE_p hq ?_
    simp -implicitDefEqProofs only [push_cast, he, seval]
    (repeat (first | refine ⟨by omega, ?_⟩ | refine ⟨by (unfold drawOk; kernel_rfl), ?_⟩))
    all_goals first | done | exact ⟨_, rfl, by simp [wkL, res2, res1, res3, PV.weak, PV.el, ints, ot0, Ot.pv]⟩ | simp [wkL, res2, res1, res3, PV.weak, PV.el, ints, ot0, Ot.pv]
   | some f =>
    have hf' : mForm ((s.getD 0 0).toNat : Int) ((s.getD 1 0).toNat : Int) = some f := hf
    rw [mFormR_some hf'] at hq
    simp only [Fm.pv] at hq
    have hg := get_fs hor (s := 4) (by unfold isSize; omega) ((s.drop 4).take 4)
    rw [(words_get (o := o) h8).1, (words_get (o := o) h8).2] at hg
    have hn := words_lt (o := o) h8
    rw [tlenR_some ho h1' hf, tlenW]
    generalize words o s = n at *
    cases h2 : decide ((n : Int) < 2)
    ·have h2' : ¬ n < 2 := by simp at h2; omega
     rw [if_neg h2']
     cases h3 : decide ((16386 : Int) < (n : Int))
     ·have h3' : ¬ 16386 < n := by simp at h3; omega
      have hw : IntKind.i64.wrap (4 * (n : Int)) = 4 * (n : Int) := by rw [wrap_i64_id (by omega) (by omega)]
      rw [if_neg h3']
      (refine Fsp.ofs (nx := 0) mixed Tryz.func34 rfl (by simp [Tryz.f34]) ?_; simp -implicitDefEqProofs only [push_cast, Tryz.f34, seval])
      refine callE_p hk ?_
      simp -implicitDefEqProofs only [push_cast, h1, wb, seval]
      (repeat (first | refine ⟨by omega, ?_⟩ | refine ⟨by (unfold drawOk; kernel_rfl), ?_⟩))
      refine callE_p hq ?_
      simp -implicitDefEqProofs only [push_cast, seval]
      (repeat (first | refine ⟨by omega, ?_⟩ | refine ⟨by (unfold drawOk; kernel_rfl), ?_⟩))
      refine callE_p hg ?_
      simp -implicitDefEqProofs only [push_cast, h2, h3, hw, seval]
      (repeat (first | refine ⟨by omega, ?_⟩ | refine ⟨by (unfold drawOk; kernel_rfl), ?_⟩))
      all_goals first | done | exact ⟨_, rfl, by simp [wkL, res2, res1, res3, PV.weak, PV.el, ints, ot0, Ot.pv]⟩ | simp [wkL, res2, res1, res3, PV.weak, PV.el, ints, ot0, Ot.pv]
     ·have h3' : 16386 < n := by simp at h3; omega
      rw [if_pos h3']
      (refine Fsp.ofs (nx := 0) mixed Tryz.func34 rfl (by simp [Tryz.f34]) ?_; simp -implicitDefEqProofs only [push_cast, Tryz.f34, seval])
      refine callE_p hk ?_
      simp -implicitDefEqProofs only [push_cast, h1, wb, seval]
      (repeat (first | refine ⟨by omega, ?_⟩ | refine ⟨by (unfold drawOk; kernel_rfl), ?_⟩))
      refine callE_p hq ?_
      simp -implicitDefEqProofs only [push_cast, seval]
      (repeat (first | refine ⟨by omega, ?_⟩ | refine ⟨by (unfold drawOk; kernel_rfl), ?_⟩))
      refine callE_p hg ?_
      simp -implicitDefEqProofs only [push_cast, h2, h3, seval]
      (repeat (first | refine ⟨by omega, ?_⟩ | refine ⟨by (unfold drawOk; kernel_rfl), ?_⟩))
      all_goals first | done | exact ⟨_, rfl, by simp [wkL, res2, res1, res3, PV.weak, PV.el, ints, ot0, Ot.pv]⟩ | simp [wkL, res2, res1, res3, PV.weak, PV.el, ints, ot0, Ot.pv]
    ·have h2' : n < 2 := by simp at h2; omega
     rw [if_pos h2']
     (refine Fsp.ofs (nx := 0) mixed Tryz.func34 rfl (by simp [Tryz.f34]) ?_; simp -implicitDefEqProofs only [push_cast, Tryz.f34, seval])
     refine callE_p hk ?_
     simp -implicitDefEqProofs only [push_cast, h1, wb, seval]
     (repeat (first | refine ⟨by omega, ?_⟩ | refine ⟨by (unfold drawOk; kernel_rfl), ?_⟩))
     refine callE_p hq ?_
     simp -implicitDefEqProofs only [push_cast, seval]
     (repeat (first | refine ⟨by omega, ?_⟩ | refine ⟨by (unfold drawOk; kernel_rfl), ?_⟩))
     refine callE_p hg ?_
     simp -implicitDefEqProofs only [push_cast, h2, seval]
     (repeat (first | refine ⟨by omega, ?_⟩ | refine ⟨by (unfold drawOk; kernel_rfl), ?_⟩))
     all_goals first | done | exact ⟨_, rfl, by simp [wkL, res2, res1, res3, PV.weak, PV.el, ints, ot0, Ot.pv]⟩ | simp [wkL, res2, res1, res3, PV.weak, PV.el, ints, ot0, Ot.pv]
  ·have h1' : s.length < 8 := by simp at h1; omega
   rw [show tlenR o s = (0, 3) by rw [tlenR, if_pos ho, if_pos h1']]
   (refine Fsp.ofs (nx := 0) mixed Tryz.func34 rfl (by simp [Tryz.f34]) ?_; simp -implicitDefEqProofs only [push_cast, Tryz.f34, seval])
   refine callE_p hk ?_
   simp -implicitDefEqProofs only [push_cast, h1, seval]
   (repeat (first | refine ⟨by omega, ?_⟩ | refine ⟨by (unfold drawOk; kernel_rfl), ?_⟩))
   all_goals first | done | exact ⟨_, rfl, by simp [wkL, res2, res1, res3, PV.weak, PV.el, ints, ot0, Ot.pv]⟩ | simp [wkL, res2, res1, res3, PV.weak, PV.el, ints, ot0, Ot.pv]
end Go.Proofs.Sh
set_option maxRecDepth 100000
set_option linter.unusedVariables false
namespace Go.Proofs.Sh
open Go.Pv
theorem enc2x (o v : Int) : ∃ a b, encB o 2 v = [a, b] := ⟨_, _, rfl⟩
theorem enc4x (o v : Int) : ∃ a b c d, encB o 4 v = [a, b, c, d] := ⟨_, _, _, _, rfl⟩
theorem tellS_shape {o : Int} {r : Ot} (h : (tellS o r).2 = 0) : ∃ (f : Fm) (c0 c1 q0 q1 w0 w1 w2 w3 : UInt8) (X : List UInt8), isOrd o = true ∧ mForm r.K r.C = some f ∧ (tellS o r).1 = c0 :: c1 :: q0 :: q1 :: w0 :: w1 :: w2 :: w3 :: X ∧
 (c0.toNat : Int) = r.K ∧ (c1.toNat : Int) = r.C ∧ [q0, q1] = encB o 2 (r.Q % 65536) ∧ (decU o [q0, q1] : Int) = r.Q % 65536 ∧ decU o [w0, w1, w2, w3] = X.length / 4 + 2 ∧ [w0, w1, w2, w3] = encB o 4 ((X.length / 4 + 2 : Nat) : Int) ∧ X.length % 4 = 0 ∧ X.length ≤ 65536 ∧ X = fmt o f r.fd ∧ fitsE f r.fd = 0 ∧ 0 ≤ r.Q ∧ r.Q ≤ 1099511627776 := by
 unfold tellS at h ⊢
 split at h
 ·rename_i ho
  rw [if_pos ho]
  cases hf : mForm r.K r.C with
  | none =>
   rw [tellP_none hf] at h
   have := mErr_ne r.K
   simp only at h
   rw [h] at this
   exact absurd this (by decide)
  | some f =>
   obtain ⟨-, hk1, hk2, hc1, hc2⟩ := mForm_some hf
   rw [tellP_some hf] at h ⊢
   unfold tellQ at h ⊢
   split at h
   ·exact absurd h (by decide)
   ·rename_i h1
    rw [if_neg h1]
    split at h
    ·rename_i h2
     simp only at h
     rw [h] at h2
     exact absurd h2 (by decide)
    ·rename_i h2
     rw [if_neg h2]
     split at h
     ·exact absurd h (by decide)
     ·rename_i h3
      rw [if_neg h3]
      have hm := fmt_mod o f r.fd
      have hE : fitsE f r.fd = 0 := by simpa using h2
      have hl : (fmt o f r.fd).length ≤ 65536 := by simp at h3; omega
      have hio := isOrd_of ho
      obtain ⟨q0, q1, hq⟩ := enc2x o (r.Q % 65536)
      obtain ⟨w0, w1, w2, w3, hw⟩ := enc4x o (((fmt o f r.fd).length / 4 + 2 : Nat) : Int)
      have d2 := dec_enc hio (s := 2) (by unfold isSize; omega) (r.Q % 65536)
      have d4 := dec_enc hio (s := 4) (by unfold isSize; omega) (((fmt o f r.fd).length / 4 + 2 : Nat) : Int)
      rw [show wid 2 = 2 from rfl, hq] at d2
      rw [show wid 4 = 4 from rfl, hw] at d4
      obtain ⟨K, hK⟩ := Int.eq_ofNat_of_zero_le hk1
      obtain ⟨C, hC⟩ := Int.eq_ofNat_of_zero_le (show 0 ≤ r.C by omega)
      refine ⟨f, byteAt r.K 0, byteAt r.C 0, q0, q1, w0, w1, w2, w3, fmt o f r.fd, ho, rfl, ?_, ?_, ?_, hq.symm, ?_, ?_, hw.symm, hm, hl, rfl, hE, by omega, by omega⟩
      ·rw [thd, enc_1, enc_1, hq, hw]; rfl
      ·rw [hK, byteAt_of]; omega
      ·rw [hC, byteAt_of]; omega
      ·rw [d2]; omega
      ·omega
 ·exact absurd h (by decide)
theorem tellS_none {o : Int} {r : Ot} (h : ¬ (tellS o r).2 = 0) : (tellS o r).1 = [] := by
 unfold tellS at h ⊢
 split at h
 ·rename_i ho
  rw [if_pos ho]
  cases hf : mForm r.K r.C with
  | none => rw [tellP_none hf]
  | some f =>
   rw [tellP_some hf] at h ⊢
   unfold tellQ at h ⊢
   split at h
   ·rename_i h1
    rw [if_pos h1]
   ·rename_i h1
    rw [if_neg h1]
    split at h
    ·rename_i h2
     rw [if_pos h2]
    ·rename_i h2
     rw [if_neg h2]
     split at h
     ·rename_i h3
      rw [if_pos h3]
     ·exact absurd rfl h
 ·rename_i ho
  rw [if_neg ho]
theorem tlenR_head {o : Int} (ho : isOrd o = true) {c0 c1 q0 q1 w0 w1 w2 w3 : UInt8} {Y : List UInt8} {f : Fm} (hf : mForm (c0.toNat : Int) (c1.toNat : Int) = some f) {n : Nat} (hw : decU o [w0, w1, w2, w3] = n) (h0 : 2 ≤ n) (h1 : n ≤ 16386) :
 tlenR o (c0 :: c1 :: q0 :: q1 :: w0 :: w1 :: w2 :: w3 :: Y) = (((4 * n : Nat) : Int), 0) := by
 have ht : tform (c0 :: c1 :: q0 :: q1 :: w0 :: w1 :: w2 :: w3 :: Y) = some f := hf
 have hwd : words o (c0 :: c1 :: q0 :: q1 :: w0 :: w1 :: w2 :: w3 :: Y) = n := hw
 rw [tlenR_some ho (by simp) ht, hwd, tlenW, if_neg (by omega), if_neg (by omega)]
theorem tell_whole {o : Int} {r : Ot} (h : (tellS o r).2 = 0) (y : List UInt8) : 8 ≤ (tellS o r).1.length ∧ tlenR o ((tellS o r).1 ++ y) = (((tellS o r).1.length : Int), 0) := by
 obtain ⟨f, c0, c1, q0, q1, w0, w1, w2, w3, X, ho, hf, hs, hk', hc, -, hq, hw, -, hm, hl, hX, hE, -, -⟩ := tellS_shape h
 rw [hs]
 refine ⟨by simp only [List.length_cons]; omega, ?_⟩
 show tlenR o (c0 :: c1 :: q0 :: q1 :: w0 :: w1 :: w2 :: w3 :: (X ++ y)) = _
 rw [tlenR_head (f := f) ho (by rw [hk', hc]; exact hf) hw (by omega) (by omega)]
 congr 1
 simp only [List.length_cons]; omega
end Go.Proofs.Sh
