/- Abstract values: the theorem on a region's orders. Nothing of any program. -/
import Derived.Test.YtbjeagcnakdmnaaPvL
set_option linter.unusedSimpArgs false
set_option linter.unusedVariables false
set_option linter.unusedSectionVars false
namespace Go.Pv
variable [GTab]

section
variable {P : Program} {nid0 : Nat} {full : List Oper}

theorem put_env {g g' : Gh} {S : PS} {tmps : Array Value} (hle : g.le g') (henv : ∀ t, Rel g (tmps.getD t undef) (S.get t)) (o : Oper) (c : Bool) (δ : Dl) (hsz : ∀ d, o.dst = some d → d < tmps.size) {a : Act} (ha : a.tmps = tmps) {v : Value}
    (hv : Rel g' v (dstPV o c δ.p)) : ∀ t, Rel g' ((a.put o.dst v).tmps.getD t undef) ((S.put o c δ).get t) := by
  intro t
  have hat := S.put_at o c δ (.t t)
  simp only [PS.at', Wr] at hat
  cases hd : o.dst with
  | none =>
    rw [hd] at hat
    simp at hat
    rw [hat]
    simpa [Act.put, ha] using (henv t).mono hle
  | some d =>
    rw [hd] at hat
    have hlt := hsz d hd
    by_cases e : d = t
    · subst e
      simp at hat
      rw [hat]
      simpa [Act.put, ha, hlt] using hv
    · simp [e] at hat
      rw [hat]
      have : (a.put (some d) v).tmps.getD t undef = tmps.getD t undef := by
        simp [Act.put, ha, Array.getElem?_setIfInBounds_ne e]
      rw [this]
      exact (henv t).mono hle

theorem put_size (a : Act) (o : Option Tmp) (v : Value) : (a.put o v).tmps.size = a.tmps.size := by cases o <;> simp [Act.put]
theorem put_defers (a : Act) (o : Option Tmp) (v : Value) : (a.put o v).defers = a.defers := by cases o <;> rfl

/-- One operation of a region, at a state that agrees with its own on what it looks at. -/
theorem run_one {ops : Array Oper} (hf : full = ops.toList) {i : Nat} {o : Oper} (ho : ops[i]? = some o) {Q : Exit → Act → World → Prop} {K : Act → World → Prop}
    {g : Gh} {Y S : PS} {c : Bool} {δ : Dl} {a : Act} {w : World} (hI : Inv g Y a.tmps w) (hg : gcond full S o = some c) (ht : c = true → LTripR P (nid0 + 4 * i) o S δ) (hr : c = false → δ.wr = [] ∧ δ.tk = [])
    (hd : ∀ d, o.dst = some d → d < Y.n) (hrd : ∀ l, Rd full o δ l → Y.at' l = S.at' l) (hfr : ∀ j, nid0 + 4 * i ≤ j → j < nid0 + 4 * i + 4 → Fresh g j)
    (hK : ∀ a' g' w', Inv g' (Y.put o c δ) a'.tmps w' → Ext g Y w g' (Y.put o c δ) w' → (∀ j, j < nid0 + 4 * i ∨ nid0 + 4 * i + 4 ≤ j → Fresh g j → Fresh g' j) → a'.defers = a.defers → K a' w') :
    wpOp P ops Q i K a w := by
  unfold wpOp
  rw [ho]
  simp only
  have henvS : ∀ t ∈ readsOf full o, Rel g (a.tmps.getD t undef) (S.get t) := by
    intro t h
    have := hrd (.t t) h
    simp only [PS.at', SV.pv.injEq] at this
    rw [← this]
    exact hI.env t
  have hw := guard_runs hf henvS hg
  have hsame : (Y.app δ).same (Y.put o c δ) ∨ True := .inr trivial
  have hobj : ∀ id, (Y.put o c δ).obj id = (Y.app δ).obj id := by intro id; cases hd : o.dst <;> simp [PS.put, hd, PS.obj, PS.app]
  have hlv : ∀ k, (Y.put o c δ).lv k = (Y.app δ).lv k := by intro k; cases hd : o.dst <;> simp [PS.put, hd, PS.lv, PS.app]
  have hsz : ∀ d, o.dst = some d → d < a.tmps.size := fun d h => Nat.lt_of_lt_of_le (hd d h) hI.size
  have toI : ∀ {g' w'}, InvW g' (Y.app δ) w' → InvW g' (Y.put o c δ) w' := fun h =>
    { gl := h.gl, hw := h.hw, objs := fun id ps hp => h.objs id ps (by rw [← hobj]; exact hp), inj := fun x y b h1 h2 => h.inj x y b (by rw [← hobj]; exact h1) (by rw [← hobj]; exact h2),
      toks := fun k hk => by
        obtain ⟨b, lo, hi, q1, q2⟩ := h.toks k (by rw [← hlv]; exact hk)
        exact ⟨b, lo, hi, q1, fun hl => ⟨(q2 hl).1, (q2 hl).2.1, fun id hid => (q2 hl).2.2 id (by rw [← hobj]; exact hid)⟩⟩,
      jnk := h.jnk_of (fun _ _ h => h) (fun _ _ _ => rfl) (fun c m o e => (h.jnk c m e).2.1 o) (fun id c m _ hid hb => ⟨by rw [← hobj]; exact hid, hb⟩) (fun k c m lo hi _ hk ht _ => ⟨by rw [← hlv]; exact hk, ht⟩)
      tys := h.tys
      tokd := fun x y b l1 h1 l2 h2 p q => h.tokd x y b l1 h1 l2 h2 (by rw [← hlv]; exact p) (by rw [← hlv]; exact q) }
  have ownE : ∀ {g' : Gh} {b o' : Nat}, Own g' (Y.put o c δ) b o' → Own g' (Y.app δ) b o' := by
    intro g' b o' h
    rcases h with ⟨id, h1, h2⟩ | ⟨k, lo, hi, h1, h2⟩ | hj
    · exact .inl ⟨id, by rw [← hobj]; exact h1, h2⟩
    · exact .inr (.inl ⟨k, lo, hi, by rw [← hlv]; exact h1, h2⟩)
    · exact .inr (.inr hj)
  have toE : ∀ {g' w'}, Ext g Y w g' (Y.app δ) w' → Ext g Y w g' (Y.put o c δ) w' := fun h =>
    { le := h.le, new := h.new, own := fun b o' hb ho' => h.own b o' hb (ownE ho'), size := h.size, keep := h.keep, os := h.os, tape := h.tape, output := h.output }
  rw [hw]
  cases c with
  | true =>
    simp only [if_true]
    left
    refine ht rfl g Y a w K Q hI.w ?_ ?_ ?_ hfr ?_
    · intro x hx
      cases x with
      | tmp t =>
        refine henvS t ?_
        simp only [readsOf]
        refine List.mem_append_left _ ?_
        rw [List.mem_filterMap]
        exact ⟨.tmp t, by simpa using hx, rfl⟩
      | const v => exact .pure _ _ (ofC_rel g.h v)
      | global i =>
        show Rel g _ (match gat GTab.tab i with | some ps => .loc ps | none => .any)
        cases hgt : gat GTab.tab i with
        | none => exact .pure _ _ (.any _)
        | some ps => exact .pure _ _ (hI.w.gl i ps hgt)
      | func f => exact .fn f #[] [] rfl (fun i v p hv _ => by simp at hv)
    · intro id hid
      have := hrd (.b id) hid
      simpa [PS.at'] using this
    · intro k hk
      have := hrd (.k k) hk
      simpa [PS.at'] using this
    · intro v g' w' h1 h2 h3 h4
      refine hK _ g' w' ⟨toI h1, put_env h2.le hI.env o true δ hsz rfl ?_, ?_⟩ (toE h2) h3 (put_defers _ _ _)
      · unfold dstPV
        split
        · exact h4
        · exact .given v true δ.p (fun _ => h4) (fun h => by cases h)
      · rw [put_size, PS.put_n]; exact hI.size
  | false =>
    simp only [Bool.false_eq_true, if_false]
    have hgd : o.guard ≠ none := by
      intro e
      unfold gcond at hg
      rw [e] at hg
      simp at hg
    obtain ⟨hwr, htk⟩ := hr rfl
    have happ : Y.app δ = Y := by simp [PS.app, hwr, htk]
    refine hK _ g w ⟨toI (by rw [happ]; exact hI.w), put_env (Gh.le_refl _) hI.env o false δ hsz rfl ?_, ?_⟩ (toE (by rw [happ]; exact Ext.refl _ _ _)) (fun _ _ h => h) (put_defers _ _ _)
    · unfold dstPV
      cases hgg : o.guard with
      | none => exact absurd hgg hgd
      | some jb => exact .given undef false δ.p (fun h => by cases h) (fun _ => rfl)
    · rw [put_size, PS.put_n]; exact hI.size

/-! ### In the text's order -/
theorem run_order {ops : Array Oper} (hf : full = ops.toList) {Q : Exit → Act → World → Prop} {S' : PS} {L : List Lk} {S₀ : PS} (hC : Chain P nid0 full full 0 S₀ L S') :
    ∀ (m i : Nat), i + m = full.length → ∀ (g : Gh) (a : Act) (w : World), Inv g (stAt S' L i) a.tmps w → (∀ j, nid0 + 4 * i ≤ j → Fresh g j) →
      (∀ a' g' w', Inv g' S' a'.tmps w' → Ext g (stAt S' L i) w g' S' w' → (∀ j, nid0 + 4 * full.length ≤ j → Fresh g' j) → a'.defers = a.defers → Q .normal a' w') →
      wpOps P ops Q (List.range' i m) a w
  | 0, i, him, g, a, w, hI, hfr, hQ => by
    simp only [List.range', wpOps]
    have hS : stAt S' L i = S' := by
      have := hC.length
      simp [stAt, List.getElem?_eq_none (show L.length ≤ i by omega)]
    rw [hS] at hI hQ
    exact hQ a g w hI (Ext.refl _ _ _) (fun j hj => hfr j (by omega)) rfl
  | m + 1, i, him, g, a, w, hI, hfr, hQ => by
    have hi : i < full.length := by omega
    have hfo : full[i]? = some full[i] := List.getElem?_eq_getElem hi
    obtain ⟨x, h1, h2, h3, h4, h5, h6, h7⟩ := hC.link.2 i full[i] hfo
    have hSi : stAt S' L i = x.S := by simp [stAt, h1]
    rw [hSi] at hI
    have hoo : ops[i]? = some full[i] := by rw [← hfo, hf]; simp
    rw [List.range'_succ, wpOps_cons]
    rw [Nat.zero_add] at h3
    refine run_one hf hoo hI h2 h3 h4 (fun d hd => by rw [h7]; exact h5 d hd) (fun _ _ => rfl) (fun j hj _ => hfr j hj) ?_
    intro a' g' w' hI' hE hF hdf
    refine run_order hf hC m (i + 1) (by omega) g' a' w' (by rw [h6]; exact hI') (fun j hj => hF j (by omega) (hfr j (by omega))) ?_
    intro a₂ g₂ w₂ hI₂ hE₂ hF₂ hd₂
    refine hQ a₂ g₂ w₂ hI₂ ?_ hF₂ (hd₂.trans hdf)
    rw [h6] at hE₂
    rw [hSi]
    exact hE.trans hE₂

/-! ### What must come first -/
inductive Bef (ops : Array Oper) : Nat → Nat → Prop
  | direct (i j o e) (h : ops[j]? = some o) (he : e ∈ o.after) (hb : Region.binds .any e = true) (hi : e.on = i) (hlt : i < j) : Bef ops i j
  | trans (i j k) (h : Bef ops i j) (h' : Bef ops j k) : Bef ops i k

theorem Bef.lt {ops : Array Oper} {i j : Nat} (h : Bef ops i j) : i < j := by
  induction h with
  | direct _ _ _ _ _ _ _ _ h => exact h
  | trans _ _ _ _ _ a b => omega

/-- The edges go back. -/
def edgesBack (ops : List Oper) : Bool := (ops.zipIdx).all fun (o, j) => o.after.toList.all fun e => !Region.binds .any e || decide (e.on < j)

def befStep (acc : Array Nat) (o : Oper) : Array Nat := acc.push (o.after.foldl (fun s e => if Region.binds .any e then s ||| 2 ^ e.on ||| acc.getD e.on 0 else s) 0)

theorem testBit_pow' (i j : Nat) : (2 ^ j).testBit i = true → i = j := by
  intro h
  rw [Nat.testBit_two_pow] at h
  simp at h; omega

theorem before_sound (ops : Array Oper) (hb : edgesBack ops.toList = true) : ∀ (j i : Nat), ((Region.before ops).getD j 0).testBit i = true → Bef ops i j := by
  have hgen : ∀ (l : List Oper) (k : Nat) (acc : Array Nat), acc.size = k → (∀ m o, l[m]? = some o → ops[k + m]? = some o) → (∀ j i, (acc.getD j 0).testBit i = true → Bef ops i j) →
      ∀ j i, ((l.foldl befStep acc).getD j 0).testBit i = true → Bef ops i j := by
    intro l
    induction l with
    | nil => intro k acc _ _ h; exact h
    | cons o l ih =>
      intro k acc hk hl hacc
      rw [List.foldl_cons]
      refine ih (k + 1) _ (by simp [befStep, hk]) (fun m o' h => by rw [show k + 1 + m = k + (m + 1) by omega]; exact hl (m + 1) o' (by simpa using h)) ?_
      intro j i hj
      unfold befStep at hj
      by_cases hjk : j < k
      · rw [Array.getD_eq_getD_getElem?, Array.getElem?_push, if_neg (by omega), ← Array.getD_eq_getD_getElem?] at hj
        exact hacc j i hj
      · by_cases hjk' : j = k
        · subst hjk'
          rw [Array.getD_eq_getD_getElem?, Array.getElem?_push, if_pos hk.symm, Option.getD_some] at hj
          have hok := hl 0 o rfl
          rw [Nat.add_zero] at hok
          have hfold : ∀ (es : List Edge), (∀ e ∈ es, e ∈ o.after) → ∀ s : Nat, (es.foldl (fun s e => if Region.binds .any e then s ||| 2 ^ e.on ||| acc.getD e.on 0 else s) s).testBit i = true → s.testBit i = true ∨ Bef ops i j := by
            intro es
            induction es with
            | nil => intro _ s h; exact .inl h
            | cons e es ih2 =>
              intro hes s h
              rw [List.foldl_cons] at h
              rcases ih2 (fun e he => hes e (List.mem_cons_of_mem _ he)) _ h with h | h
              · split at h
                · rename_i hbi
                  have hlt : e.on < j := by
                    have hz : (o, j) ∈ ops.toList.zipIdx := by
                      rw [List.mem_zipIdx_iff_getElem?]
                      simpa using hok
                    have := List.all_eq_true.1 hb _ hz
                    have := List.all_eq_true.1 this e (by simpa using hes e (List.mem_cons_self ..))
                    simpa [hbi] using this
                  have hd : Bef ops e.on j := .direct _ _ o e hok (hes e (List.mem_cons_self ..)) hbi rfl hlt
                  rw [Nat.testBit_or, Nat.testBit_or, Bool.or_eq_true, Bool.or_eq_true] at h
                  rcases h with (h | h) | h
                  · exact .inl h
                  · have := testBit_pow' i e.on h; subst this; exact .inr hd
                  · exact .inr (.trans _ _ _ (hacc e.on i h) hd)
                · exact .inl h
              · exact .inr h
          rw [← Array.foldl_toList] at hj
          rcases hfold o.after.toList (fun e he => by simpa using he) 0 hj with h | h
          · simp at h
          · exact h
        · have : (acc.push (o.after.foldl (fun s e => if Region.binds .any e then s ||| 2 ^ e.on ||| acc.getD e.on 0 else s) 0)).getD j 0 = 0 := by
            rw [Array.getD_eq_getD_getElem?, Array.getElem?_push, if_neg (by omega), Array.getElem?_eq_none (by omega)]; rfl
          rw [this] at hj
          simp at hj
  intro j i h
  refine hgen ops.toList 0 #[] rfl (fun m o h => by rw [Nat.zero_add]; simpa using h) (fun j i h => by simp at h) j i ?_
  have : Region.before ops = ops.toList.foldl befStep #[] := by
    unfold Region.before
    rw [← Array.foldl_toList]
    rfl
  rw [← this]
  exact h

end
end Go.Pv
