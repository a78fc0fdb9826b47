/- A part of the proof. -/
import Derived.Test.YtjhkaanphpcepaaLkRefPacket
namespace Go.Proofs.Lk
open Go.Pv
theorem next_eq {v : Int} (h : 0 ≤ v) (h2 : v ≤ 4294967295) : next v = v / 256 ∧ 0 ≤ v / 256 ∧ v / 256 ≤ 4294967295 := by
  have h3 : v.tdiv 256 = v / 256 := Int.tdiv_eq_ediv_of_nonneg h
  refine ⟨?_, by omega, by omega⟩
  rw [next, h3, wrap_i64_id (by omega) (by omega)]
theorem by8_eq {v w : Int} (h : 0 ≤ w) (e : v % 256 = w % 256) : by8 v = digit w := by
  have h3 : w.tmod 256 = w % 256 := Int.tmod_eq_emod_of_nonneg h
  unfold by8 digit
  simp only [Pv.byteOf]
  rw [h3, IntKind.wrap_u8', IntKind.wrap_u8', e]
  congr 2
  omega
theorem pkt_eq (k n a : Int) (b : List UInt8) : pkt k n a b = rpkt k n a b := by
  unfold pkt rpkt
  by_cases hn : nb n = true
  · have : (decide (n < 0) || decide (4294967295 < n) || decide (a < 0) || decide (4294967295 < a)) = true := by unfold nb at hn; simp [hn]
    rw [if_pos this, if_pos hn]
    split <;> rfl
  · by_cases ha : nb a = true
    · have : (decide (n < 0) || decide (4294967295 < n) || decide (a < 0) || decide (4294967295 < a)) = true := by
        unfold nb at ha
        simp only [Bool.or_eq_true, decide_eq_true_eq] at ha ⊢
        rcases ha with h | h <;> simp [h]
      rw [if_pos this, if_pos ha, if_neg hn]
      split <;> rfl
    · have h1 : 0 ≤ n ∧ n ≤ 4294967295 := by unfold nb at hn; simp at hn; omega
      have h2 : 0 ≤ a ∧ a ≤ 4294967295 := by unfold nb at ha; simp at ha; omega
      have : ¬ (decide (n < 0) || decide (4294967295 < n) || decide (a < 0) || decide (4294967295 < a)) = true := by
        simp; omega
      rw [if_neg this, if_neg hn, if_neg ha]
      have key : (b.length : Int) ≤ 1024 → pktBytes k n a b = by8 k :: digit (next (next (next n))) :: digit (next (next n)) :: digit (next n) :: digit n :: digit (next (next (next a))) :: digit (next (next a)) :: digit (next a) :: digit a ::
          digit (next (b.length : Int)) :: digit (b.length : Int) :: b := by
        intro hl
        have hb0 : (0 : Int) ≤ b.length := Int.natCast_nonneg _
        obtain ⟨n1, n1a, n1b⟩ := next_eq h1.1 h1.2
        obtain ⟨n2, n2a, n2b⟩ := next_eq n1a n1b
        obtain ⟨n3, n3a, n3b⟩ := next_eq n2a n2b
        obtain ⟨a1, a1a, a1b⟩ := next_eq h2.1 h2.2
        obtain ⟨a2, a2a, a2b⟩ := next_eq a1a a1b
        obtain ⟨a3, a3a, a3b⟩ := next_eq a2a a2b
        obtain ⟨l1, l1a, l1b⟩ := next_eq (v := (b.length : Int)) hb0 (by omega)
        unfold pktBytes
        have f1 : ∀ x : Int, x.fdiv 256 = x / 256 := fun x => Int.fdiv_eq_ediv_of_nonneg x (by omega)
        have f2 : ∀ x : Int, x.fdiv 65536 = x / 65536 := fun x => Int.fdiv_eq_ediv_of_nonneg x (by omega)
        have f3 : ∀ x : Int, x.fdiv 16777216 = x / 16777216 := fun x => Int.fdiv_eq_ediv_of_nonneg x (by omega)
        rw [f1, f1, f1, f2, f2, f3, f3, n1, n2, n3, a1, a2, a3, l1]
        rw [by8_eq (v := n / 16777216) n3a (by omega), by8_eq (v := n / 65536) n2a (by omega), by8_eq (v := n / 256) n1a rfl, by8_eq (v := n) h1.1 rfl,
          by8_eq (v := a / 16777216) a3a (by omega), by8_eq (v := a / 65536) a2a (by omega), by8_eq (v := a / 256) a1a rfl, by8_eq (v := a) h2.1 rfl,
          by8_eq (v := (b.length : Int) / 256) l1a rfl, by8_eq (v := (b.length : Int)) hb0 rfl]
      unfold rpBad
      by_cases k0 : k = 0
      · subst k0
        by_cases hb : (b == [] || decide (1024 < (b.length : Int))) = true
        · rw [if_pos (by decide), if_pos hb, if_pos (by simp only [Bool.or_eq_true] at hb ⊢; rcases hb with h | h <;> simp [h])]
        · rw [if_pos (by decide), if_neg hb]
          simp only [Bool.or_eq_true, not_or, decide_eq_true_eq, Bool.not_eq_true] at hb
          rw [if_neg (by simp [hb.1, hb.2]), key (by omega)]
      · rw [if_neg (by simpa using k0)]
        by_cases k1 : k = 1
        · subst k1
          by_cases hb : (b != [] || n != 0) = true
          · rw [if_pos (by decide), if_pos hb, if_pos (by simp [hb])]
          · rw [if_pos (by decide), if_neg hb]
            have hb' : b = [] := by simp at hb; exact hb.1
            subst hb'
            have hb2 : (([] : List UInt8) != [] || n != 0) = false := by simpa using hb
            have hn0 : n = 0 := by simpa using hb2
            rw [if_neg (by simp [hn0]), key (by simp)]
        · rw [if_neg (by simpa using k1)]
          rw [if_pos]
          simp only [Bool.or_eq_true, decide_eq_true_eq]
          exact .inl (.inl (.inl (by omega)))
end Go.Proofs.Lk
