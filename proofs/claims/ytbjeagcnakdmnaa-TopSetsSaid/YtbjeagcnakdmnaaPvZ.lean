/- Abstract values: contracts told by tables, each place run by the kernel. Nothing of any program. -/
import Derived.Test.YtbjeagcnakdmnaaPvV
set_option linter.unusedSimpArgs false
set_option linter.unusedVariables false
set_option linter.unusedSectionVars false
namespace Go.Pv
variable [GTab]

def u8sEq : List UInt8 → List UInt8 → Bool
  | [], [] => true
  | a :: as, b :: bs => Nat.beq a.toNat b.toNat && u8sEq as bs
  | _, _ => false
theorem u8sEq_eq : ∀ {as bs : List UInt8}, u8sEq as bs = true → as = bs
  | [], [], _ => rfl
  | [], _ :: _, h => by cases h
  | _ :: _, [], h => by cases h
  | a :: as, b :: bs, h => by
    simp only [u8sEq, Bool.and_eq_true] at h
    rw [u8sEq_eq h.2, UInt8.toNat_inj.1 (Nat.eq_of_beq_eq_true h.1)]
def intEq : Int → Int → Bool
  | .ofNat a, .ofNat b => Nat.beq a b
  | .negSucc a, .negSucc b => Nat.beq a b
  | _, _ => false
theorem intEq_eq : ∀ {a b : Int}, intEq a b = true → a = b
  | .ofNat a, .ofNat b, h => congrArg Int.ofNat (Nat.eq_of_beq_eq_true h)
  | .negSucc a, .negSucc b, h => congrArg Int.negSucc (Nat.eq_of_beq_eq_true h)
  | .ofNat _, .negSucc _, h => by cases h
  | .negSucc _, .ofNat _, h => by cases h

mutual
/-- Are two abstract values told to be the same? (Of plain data.) -/
def pvEq : PV → PV → Bool
  | .bool a, .bool b => match a, b with | true, true => true | false, false => true | _, _ => false
  | .int k a, .int k' b => isKind k k' && intEq a b
  | .str a, .str b => u8sEq a b
  | .nilsl, .nilsl => true
  | .nilptr, .nilptr => true
  | .sl n a, .sl m b => Nat.beq n m && pvsEq a b
  | .agg a, .agg b => pvsEq a b
  | .tup a, .tup b => pvsEq a b
  | _, _ => false
def pvsEq : List PV → List PV → Bool
  | [], [] => true
  | p :: ps, q :: qs => pvEq p q && pvsEq ps qs
  | _, _ => false
end

mutual
theorem pvEq_eq : ∀ {p q : PV}, pvEq p q = true → p = q := by
  intro p q h
  cases p <;> cases q <;> simp only [pvEq] at h <;> try (exact absurd h Bool.false_ne_true)
  · rename_i a b; cases a <;> cases b <;> first | rfl | exact absurd h Bool.false_ne_true
  · rw [Bool.and_eq_true] at h; rw [isKind_eq h.1, intEq_eq h.2]
  · rw [u8sEq_eq h]
  · rfl
  · rw [Bool.and_eq_true] at h; rw [Nat.eq_of_beq_eq_true h.1, pvsEq_eq h.2]
  · rfl
  · rw [pvsEq_eq h]
  · rw [pvsEq_eq h]
theorem pvsEq_eq : ∀ {ps qs : List PV}, pvsEq ps qs = true → ps = qs
  | [], [], _ => rfl
  | [], _ :: _, h => by simp [pvsEq] at h
  | _ :: _, [], h => by simp [pvsEq] at h
  | p :: ps, q :: qs, h => by
    simp only [pvsEq, Bool.and_eq_true] at h
    rw [pvEq_eq h.1, pvsEq_eq h.2]
end

theorem ranIs {P : Program} (hm : P.follows .mixedOrders = true) {or : Cl} (hor : or.Ok P) {wbf : Nat → Bool} {n d : Nat} {f : FuncId} {args : List PV} {r : PV} (h : ranTo P or wbf n d f args (pvEq r) = true) : Fsp P f [] 0 args [] 0 r := by
  unfold ranTo at h
  split at h
  · rename_i q hr
    rw [pvEq_eq h]
    exact runI_ok hm hor _ _ _ _ _ _ _ hr
  · cases h

/-- What is told need not be its own. -/
theorem Fsp.untok {P : Program} {f : FuncId} {args : List PV} {nt' : Nat} {r : PV} (h : Fsp P f [] 0 args [] nt' r) : Fsp P f [] 0 args [] 0 r.el where
  len := h.len
  fn := h.fn
  calls := fun g w vs hI hb ht hs ha => (h.calls g w vs hI hb ht hs ha).mono fun e w' ⟨v, g', he, hI', hE, hk, hn, hr⟩ =>
    ⟨v, g', he, ⟨hI'.hw, fun id ps h => by rw [st0_obj] at h; simp at h, fun id id' b h1 => by rw [st0_obj] at h1; simp at h1,
      fun k h => by rw [st0_lv] at h; simp at h, fun k k' b lo hi lo' hi' h => by rw [st0_lv] at h; simp at h, hI'.jnk_of (fun _ _ h => h) (fun _ _ _ => rfl) (fun c m o h => (hI'.jnk c m h).2.1 o) (fun id c m _ h1 h2 => ⟨h1, h2⟩) (fun k c m lo hi _ hk _ _ => by rw [st0_lv] at hk; simp at hk), hI'.tys, hI'.gl⟩,
      ⟨hE.le, hE.ty, hE.new, fun b o hb ho => hE.own b o hb (by
        rcases ho with ⟨id, h1, h2⟩ | ⟨k, lo, hi, h1, h2⟩ | hjn
        · exact .inl ⟨id, h1, h2⟩
        · rw [st0_lv] at h1; simp at h1
        · exact .inr (.inr hjn)), hE.size, hE.keep, hE.os, hE.tape, hE.output⟩, hk, hn, .pure _ _ hr.el⟩

/-- nil, as a slice of its own. -/
theorem Fsp.nilTok {P : Program} {f : FuncId} {args : List PV} {sz : Nat} (h : Fsp P f [] 0 args [] 0 .nilsl) : Fsp P f [] 0 args [] 1 (.slt sz [] 0) where
  len := h.len
  fn := h.fn
  calls := fun g w vs hI hb ht hs ha => (h.calls g w vs hI hb ht hs ha).mono fun e w' ⟨v, g', he, hI', hE, hk, hn, hr⟩ => by
    let g'' : Gh := { g' with tok := fun i => if i = 0 then some (0, 0, 0) else g'.tok i }
    have e0 : v = .slice none 0 0 := hr.nilsl_inv
    refine ⟨v, g'', he, ⟨hI'.hw, fun id ps h => by rw [st0_obj] at h; simp at h, fun id id' b h1 => by rw [st0_obj] at h1; simp at h1, fun k hk => ?_, fun k k' b lo hi lo' hi' h1 h2 h3 h4 h5 => ?_, hI'.jnk_of (fun _ _ h => h) (fun _ _ _ => rfl) (fun c m o h => (hI'.jnk c m h).2.1 o) (fun id c m _ h1 h2 => ⟨h1, h2⟩) (fun k c m lo hi _ hk ht hl => by
      rw [st0_lv] at hk
      have hk0 : k = 0 := by simp at hk; omega
      subst hk0
      have ht' : some (0, 0, 0) = some (c, lo, hi) := ht
      cases ht'; omega), hI'.tys, hI'.gl⟩,
      ⟨hE.le, hE.ty, hE.new, fun b o hb ho => ?_, hE.size, hE.keep, hE.os, hE.tape, hE.output⟩, hk, hn, ?_⟩
    · rw [st0_lv] at hk
      have : k = 0 := by simp at hk; omega
      subst this
      exact ⟨0, 0, 0, rfl, fun h => absurd h (Nat.lt_irrefl _)⟩
    · rw [st0_lv] at h1 h2
      simp at h1 h2
      omega
    · rcases ho with ⟨id, h1, h2⟩ | ⟨k, lo, hi, h1, h2, h3, h4⟩ | hjn
      · exact absurd (by rw [st0_obj]; simp) h1
      · rw [st0_lv] at h1
        have : k = 0 := by simp at h1; omega
        subst this
        have : (some (0, 0, 0) : Option (Nat × Nat × Nat)) = some (b, lo, hi) := h2
        cases this
        omega
      · exact hE.own b o hb (.inr (.inr hjn))
    · subst e0
      exact .slt _ sz [] 0 (.slnil sz) (fun b lo hi h => by simp [spare] at h)

/-- A state that says less: boxes cell by cell. -/
theorem Wk.by (m : Nat) (S T : PS) (β τ : List (Nat × Nat)) (em : List Nat) (n : T.n ≤ S.n) (env : ∀ x ∈ T.env, wkV β τ em (S.get x.1) x.2)
    (objs : ∀ x ∈ T.objs, match x.2 with | none => True | some ps => ∃ i, lko β x.1 = some i ∧ ∃ qs, S.obj i = some qs ∧ wkL (wkC β τ em) qs ps)
    (live : ∀ x ∈ T.live, x.2 = true → x.1 ∈ em ∨ ∃ k, lko τ x.1 = some k ∧ S.lv k = true) (bn : nodupB (β.map (·.2)) = true) (tn : nodupB (τ.map (·.2)) = true) (ed : ∀ k ∈ em, lko τ k = none)
    (bx : ∀ x ∈ β, x.1 < T.nxt) (tx : ∀ x ∈ τ, x.1 < T.nxt) (ex : ∀ k ∈ em, k < T.nxt) (pin : ∀ i, i < m → lko β i = some i) : Wk m S T := by
  refine WkOf.wk (β := β) (τ := τ) (em := em) ⟨n, env, fun x hx => ?_, fun x hx => ?_, live, bn, tn, ed, bx, tx, ex, pin⟩
  · have := objs x hx
    split
    · trivial
    · rename_i ps hps
      rw [hps] at this
      obtain ⟨i, h1, qs, h2, h3⟩ := this
      exact ⟨i, h1, qs, h2, .inr h3⟩
  · have := objs x hx
    split
    · trivial
    · rename_i ps hps
      rw [hps] at this
      obtain ⟨i, h1, qs, h2, h3⟩ := this
      intro i' qs' e1 e2 e3 q hq
      rw [h1] at e1; cases e1
      rw [h2] at e2; cases e2
      subst e3
      obtain ⟨j, hj⟩ := List.mem_iff_getElem?.1 hq
      exact (wkL_get h3).2 j q q hj hj

end Go.Pv
