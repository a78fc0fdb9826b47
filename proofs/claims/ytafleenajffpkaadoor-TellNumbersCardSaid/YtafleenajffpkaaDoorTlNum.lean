/- Messages' numbers and bytes. Plain. -/
import Derived.Test.YtafleenajffpkaaDoorTlTrip
set_option maxRecDepth 100000
set_option linter.unusedVariables false
namespace Go.Proofs.Sh
open Go.Pv
theorem putS_len (o o' z v : Int) : (putS o z v).length = (putS o' z v).length := by
  unfold putS
  split
  · rw [encB_length, encB_length]
  · rfl
theorem row_len2 (o o' : Int) (F N : List Int) (k : Nat) : (row o F N k).length = (row o' F N k).length := by
  simp only [row, List.length_flatMap, putS_len o o']
theorem row1_len2 (o o' z : Int) (L : List Int) (k : Nat) : (row1 o z L k).length = (row1 o' z L k).length := by
  simp only [row1, List.length_flatMap, putS_len o o']
theorem p1_len2 {a b : List UInt8} (h : a.length = b.length) : (p1 a).length = (p1 b).length := by
  simp only [p1, List.length_append, zeros, List.length_replicate, h]
theorem fmt_len2 (o o' : Int) (f : Fm) (x : Fd) : (fmt o f x).length = (fmt o' f x).length := by
  have h1 : (fmt1 o f x).length = (fmt1 o' f x).length := p1_len2 (row_len2 o o' _ _ _)
  have h2 : (fmt2 o f x).length = (fmt2 o' f x).length := by
    unfold fmt2
    split
    · apply p1_len2
      rw [List.length_append, List.length_append, List.length_append, List.length_append, h1, putS_len o o']
    · exact h1
  unfold fmt
  split
  · apply p1_len2
    rw [List.length_append, List.length_append, List.length_append, List.length_append, h2, putS_len o o', row1_len2 o o']
  · exact h2
theorem thd_length (o K C Q : Int) (n : Nat) : (thd o K C Q n).length = 8 := by
  rw [thd, List.length_append, List.length_append, List.length_append, encB_length, encB_length, encB_length, encB_length]
/-- The number of a message plays a part in two bytes only. -/
theorem tell_numbers (x : Ot) (a b : Nat) (ha : a < 4294967296) (hb : b < 4294967296) :
    (tellS 0 ⟨x.K, x.C, (a : Int), x.N, x.B, x.L⟩).2 = (tellS 0 ⟨x.K, x.C, (b : Int), x.N, x.B, x.L⟩).2 ∧ (tellS 0 ⟨x.K, x.C, (a : Int), x.N, x.B, x.L⟩).2 = (tellS 1 ⟨x.K, x.C, (a : Int), x.N, x.B, x.L⟩).2 ∧
      (tellS 1 ⟨x.K, x.C, (a : Int), x.N, x.B, x.L⟩).1.length = (tellS 0 ⟨x.K, x.C, (a : Int), x.N, x.B, x.L⟩).1.length ∧
      ((tellS 0 ⟨x.K, x.C, (a : Int), x.N, x.B, x.L⟩).2 = 0 → ((tellS 0 ⟨x.K, x.C, (a : Int), x.N, x.B, x.L⟩).1 == (tellS 0 ⟨x.K, x.C, (b : Int), x.N, x.B, x.L⟩).1) = decide (a % 65536 = b % 65536)) := by
  have o0 : isOrd 0 = true := rfl
  have o1 : isOrd 1 = true := rfl
  simp only [tellS, o0, o1, if_true]
  cases hf : mForm x.K x.C with
  | none =>
    rw [tellP_none (o := 0) (r := ⟨x.K, x.C, (a : Int), x.N, x.B, x.L⟩) hf, tellP_none (o := 0) (r := ⟨x.K, x.C, (b : Int), x.N, x.B, x.L⟩) hf, tellP_none (o := 1) (r := ⟨x.K, x.C, (a : Int), x.N, x.B, x.L⟩) hf]
    have := mErr_ne x.K
    exact ⟨rfl, rfl, rfl, fun h => by simp only at h; rw [h] at this; exact absurd this (by decide)⟩
  | some f =>
    rw [tellP_some (o := 0) (r := ⟨x.K, x.C, (a : Int), x.N, x.B, x.L⟩) hf, tellP_some (o := 0) (r := ⟨x.K, x.C, (b : Int), x.N, x.B, x.L⟩) hf, tellP_some (o := 1) (r := ⟨x.K, x.C, (a : Int), x.N, x.B, x.L⟩) hf]
    have hfd : ∀ q : Int, (⟨x.K, x.C, q, x.N, x.B, x.L⟩ : Ot).fd = x.fd := fun _ => rfl
    have ea : ¬ ((a : Int) < 0 ∨ 1099511627776 < (a : Int)) := by omega
    have eb : ¬ ((b : Int) < 0 ∨ 1099511627776 < (b : Int)) := by omega
    simp only [tellQ, hfd, if_neg ea, if_neg eb]
    have hl := fmt_len2 0 1 f x.fd
    rw [← hl]
    by_cases hE : (fitsE f x.fd != 0) = true
    · rw [if_pos hE, if_pos hE, if_pos hE]
      exact ⟨rfl, rfl, rfl, fun h => by simp only at h; rw [h] at hE; exact absurd hE (by decide)⟩
    · rw [if_neg hE, if_neg hE, if_neg hE]
      by_cases hM : decide ((65536 : Int) < (fmt 0 f x.fd).length) = true
      · rw [if_pos hM, if_pos hM, if_pos hM]
        exact ⟨rfl, rfl, rfl, fun h => absurd h (by decide)⟩
      · rw [if_neg hM, if_neg hM, if_neg hM]
        refine ⟨rfl, rfl, by rw [List.length_append, List.length_append, thd_length, thd_length, hl], fun _ => ?_⟩
        simp only
        rw [Bool.eq_iff_iff, beq_iff_eq, decide_eq_true_eq]
        constructor
        · intro h
          have h1 := List.append_inj_left h (by rw [thd_length, thd_length])
          simp only [thd] at h1
          have h2 := List.append_inj_left h1 (by simp only [List.length_append, encB_length])
          have h3 := List.append_inj_right h2 (by simp only [List.length_append, encB_length])
          have d1 := dec_enc (.inl rfl : isOrder 0) (s := 2) (by unfold isSize; omega) ((a : Int) % 65536)
          have d2 := dec_enc (.inl rfl : isOrder 0) (s := 2) (by unfold isSize; omega) ((b : Int) % 65536)
          rw [show wid 2 = 2 from rfl] at d1 d2
          rw [h3] at d1
          omega
        · intro h
          have : ((a : Int) % 65536) = ((b : Int) % 65536) := by omega
          rw [this]
end Go.Proofs.Sh
