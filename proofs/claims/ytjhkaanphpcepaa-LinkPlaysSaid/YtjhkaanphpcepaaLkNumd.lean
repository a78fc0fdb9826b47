/- What numbering leaves as it is. -/
import Derived.Test.YtjhkaanphpcepaaLkDue
import Derived.Test.YtjhkaanphpcepaaLkGot
set_option maxRecDepth 100000
set_option linter.unusedSimpArgs false
set_option linter.unusedVariables false
namespace Go.Proofs.Lk
open Go.Pv


def En.tot (e : En) : Nat := pcSum e.way + e.rest.length
theorem pcSum_app (p : Pc) : ∀ l : List Pc, pcSum (l ++ [p]) = pcSum l + p.b.length
  | [] => by simp [pcSum]
  | q :: l => by rw [List.cons_append, pcSum, pcSum, pcSum_app p l]; omega
theorem mn_le (e : En) : e.mn ≤ e.rest.length ∧ e.mn ≤ e.most ∧ (e.mn = e.most ∨ e.mn = e.rest.length) := by
  unfold En.mn
  split <;> omega
theorem num1_tot (e : En) (h : 0 ≤ e.most) : e.num1.tot = e.tot := by
  have := mn_le e
  have h2 : 0 ≤ e.mn := by unfold En.mn; split <;> omega
  unfold En.tot En.num1
  simp only
  rw [pcSum_app, List.length_take, List.length_drop]
  omega
/-- What stays, and what grows, when pieces are numbered. -/
structure Numd (e f : En) (k : Nat) : Prop where
  most : f.most = e.most
  exp : f.exp = e.exp
  aside : f.aside = e.aside
  read : f.read = e.read
  ack : f.ack = e.ack
  way : f.way.length ≤ 16
  le : e.next ≤ f.next
  next : f.next ≤ e.next + k
  rest : f.rest.length ≤ e.rest.length
  tot : f.tot = e.tot
  bs : ∀ N : Nat, (∀ p ∈ e.way, p.b.length ≤ N) → e.most ≤ (N : Int) → ∀ p ∈ f.way, p.b.length ≤ N
  due : (∀ p ∈ e.way, p.due = true) → ∀ p ∈ f.way, p.due = true
theorem numL_numd : ∀ (k : Nat) (e : En), 0 ≤ e.most → e.way.length ≤ 16 → Numd e (numL k e) k
  | 0, e, hm, hw => ⟨rfl, rfl, rfl, rfl, rfl, hw, Int.le_refl _, Int.le_add_of_nonneg_right (by omega), Nat.le_refl _, rfl, fun _ h _ => h, fun h => h⟩
  | k + 1, e, hm, hw => by
    unfold numL
    split
    · rename_i h
      have hlt : e.way.length < 16 := by simp at h; omega
      have mn := mn_le e
      have hw1 : e.num1.way.length ≤ 16 := by simp [En.num1]; omega
      have i := numL_numd k e.num1 hm hw1
      refine ⟨i.most, i.exp, i.aside, i.read, i.ack, i.way, ?_, ?_, ?_, ?_, ?_, ?_⟩
      · have h1 := i.le
        have : e.num1.next = e.next + 1 := rfl
        omega
      · have h1 := i.next
        have : e.num1.next = e.next + 1 := rfl
        omega
      · refine Nat.le_trans i.rest ?_
        simp [En.num1]
      · rw [i.tot, num1_tot e hm]
      · intro N h1 h2
        refine i.bs N ?_ h2
        intro p hp
        rcases List.mem_append.1 hp with hp | hp
        · exact h1 p hp
        · rw [List.mem_singleton] at hp
          subst hp
          simp only [List.length_take]
          omega
      · intro h1
        refine i.due ?_
        intro p hp
        rcases List.mem_append.1 hp with hp | hp
        · exact h1 p hp
        · rw [List.mem_singleton] at hp
          subst hp
          rfl
    · exact ⟨rfl, rfl, rfl, rfl, rfl, hw, Int.le_refl _, by omega, Nat.le_refl _, rfl, fun _ h _ => h, fun h => h⟩
theorem numL_full : ∀ (k : Nat) (e : En), 1 ≤ e.most → e.way.length ≤ 16 → 16 ≤ e.way.length + k → ((16 - e.way.length : Nat) : Int) * e.most ≤ e.rest.length → (numL k e).way.length = 16
  | 0, e, hm, hw, hk, hr => by show e.way.length = 16; omega
  | k + 1, e, hm, hw, hk, hr => by
    unfold numL
    by_cases hlt : e.way.length < 16
    · have e1 : (16 - e.way.length : Nat) = (16 - (e.way.length + 1)) + 1 := by omega
      have hmul : ((16 - e.way.length : Nat) : Int) * e.most = ((16 - (e.way.length + 1) : Nat) : Int) * e.most + e.most := by
        rw [e1, Int.natCast_add, Int.add_mul]; simp
      have hnn : 0 ≤ ((16 - (e.way.length + 1) : Nat) : Int) * e.most := Int.mul_nonneg (by omega) (by omega)
      have hmn : e.mn = e.most := by unfold En.mn; split <;> omega
      have hc : (e.rest != [] && decide ((e.way.length : Int) < 16)) = true := by
        have : e.rest ≠ [] := by intro h; rw [h] at hr; simp at hr; omega
        simp [this]; omega
      rw [if_pos hc]
      refine numL_full k e.num1 hm (by simp [En.num1]; omega) (by simp [En.num1]; omega) ?_
      have hl : e.num1.way.length = e.way.length + 1 := by simp [En.num1]
      have hr1 : (e.num1.rest.length : Int) = e.rest.length - e.most := by
        simp only [En.num1, List.length_drop]; omega
      rw [hl, hr1]
      show _ * e.most ≤ _
      omega
    · have hc : ¬ (e.rest != [] && decide ((e.way.length : Int) < 16)) = true := by simp; omega
      rw [if_neg hc]; omega
end Go.Proofs.Lk
