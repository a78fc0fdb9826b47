/- Abstract values: a region that draws its order, and ends in operations that come last in every order. Nothing of any program. -/
import Derived.Test.YtbjeagcnakdmnaaPvIn
import Derived.OrdersIn
set_option linter.unusedSimpArgs false
set_option linter.unusedVariables false
set_option linter.unusedSectionVars false
namespace Go.Pv
variable [GTab]

theorem ready_spec {ops : Array Oper} {listed : Array Bool} {i : Nat} (h : i ∈ Region.ready .any ops listed) : i < ops.size ∧ listed.getD i true = false ∧ ∃ o, ops[i]? = some o ∧ ∀ e ∈ o.after, Region.binds .any e = true → listed.getD e.on false = true := by
  unfold Region.ready at h
  rw [List.mem_filter, Bool.and_eq_true] at h
  obtain ⟨h1, h2, h3⟩ := h
  have hi : i < ops.size := by simpa using h1
  refine ⟨hi, by simpa using h2, ops[i], by simp [hi], fun e he hb => ?_⟩
  rw [show ops[i]? = some ops[i] by simp [hi]] at h3
  simp only [Option.map_some, Option.getD_some, Array.all_eq_true'] at h3
  have := h3 e he
  simpa [hb] using this
theorem ready_of {ops : Array Oper} {listed : Array Bool} {i : Nat} {o : Oper} (hi : ops[i]? = some o) (hl : listed.getD i true = false) (h : ∀ e ∈ o.after, Region.binds .any e = true → listed.getD e.on false = true) : i ∈ Region.ready .any ops listed := by
  unfold Region.ready
  rw [List.mem_filter]
  refine ⟨by simpa using (Array.getElem?_eq_some_iff.1 hi).1, ?_⟩
  simp only [hl, Bool.not_false, Bool.true_and, hi, Option.map_some, Option.getD_some, Array.all_eq_true']
  intro e he
  by_cases hb : Region.binds .any e = true
  · rw [h e he hb]; simp
  · simp [hb]
theorem getD_ft {l : Array Bool} {i : Nat} (h : i < l.size) : l.getD i false = l.getD i true := by
  rw [Array.getD_eq_getD_getElem?, Array.getD_eq_getD_getElem?, Array.getElem?_eq_getElem h]; rfl
theorem edge_lt {ops : Array Oper} (heb : edgesBack ops.toList = true) {i : Nat} {o : Oper} (hi : ops[i]? = some o) {e : Edge} (he : e ∈ o.after) (hb : Region.binds .any e = true) : e.on < i := by
  have hz : (o, i) ∈ ops.toList.zipIdx := by rw [List.mem_zipIdx_iff_getElem?]; simpa using hi
  have h1 := List.all_eq_true.1 heb _ hz
  have h2 := List.all_eq_true.1 h1 e (by simpa using he)
  simpa [hb] using h2
theorem ready_bef {ops : Array Oper} (heb : edgesBack ops.toList = true) {listed : Array Bool} (hdown : ∀ a b, Bef ops a b → b < ops.size → listed.getD b true = true → listed.getD a true = true) {i : Nat} (hi : i ∈ Region.ready .any ops listed) : ∀ j, Bef ops j i → listed.getD j true = true := by
  obtain ⟨h1, h2, o, h3, h4⟩ := ready_spec hi
  have key : ∀ j k, Bef ops j k → k = i → listed.getD j true = true := by
    intro j k h
    induction h with
    | direct j k o' e ho he hb hji hlt =>
      intro e1; subst e1
      rw [h3] at ho; cases ho
      have := h4 e he hb
      subst hji
      rw [Array.getD_eq_getD_getElem?] at this ⊢
      cases hx : listed[e.on]? with
      | none => rfl
      | some b => rw [hx] at this; exact this
    | trans j m k hjm hmk _ ih2 =>
      intro e1
      have := hmk.lt
      exact hdown j m hjm (by omega) (ih2 e1)
  exact fun j h => key j i h rfl
theorem ready_all {ops : Array Oper} (heb : edgesBack ops.toList = true) {listed : Array Bool} (hls : listed.size = ops.size) {i : Nat} (hi : i < ops.size) (hl : listed.getD i true = false) (hall : ∀ j, j < i → listed.getD j true = true) : i ∈ Region.ready .any ops listed :=
  ready_of (o := ops[i]) (Array.getElem?_eq_getElem hi) hl (fun e he hb => by
    have := edge_lt heb (Array.getElem?_eq_getElem hi) he hb
    rw [getD_ft (by omega)]; exact hall _ this)
theorem set_getD (l : Array Bool) (i j : Nat) (h : i < l.size) : (l.setIfInBounds i true).getD j true = if j = i then true else l.getD j true := by
  rw [Array.getD_eq_getD_getElem?, Array.getElem?_setIfInBounds, Array.getD_eq_getD_getElem?]
  by_cases e : j = i
  · subst e; simp [h]
  · simp [Ne.symm e, e]

theorem tail_any {F : Fence} {n : Nat} {P : Program} {ops : Array Oper} {Q : Exit → Act → World → Prop} (heb : edgesBack ops.toList = true) {p : Nat} (hB : ∀ j, p ≤ j → j < ops.size → ∀ i, i < j → Bef ops i j) :
    ∀ (m k fuel : Nat) (listed : Array Bool) (a : Act) (w : World), k + m = ops.size → p ≤ k → m ≤ fuel → listed.size = ops.size → (∀ i, i < k → listed.getD i true = true) → (∀ i, k ≤ i → i < ops.size → listed.getD i true = false) →
      wpOpsIn F n P ops Q (List.range' k m) a w → wpAnyIn F n P .any ops Q fuel listed a w
  | 0, k, fuel, listed, a, w, hk, hp, hf, hls, h1, h2, h => by
    have hr : Region.ready .any ops listed = [] := by
      rw [List.eq_nil_iff_forall_not_mem]
      intro i hi
      obtain ⟨q1, q2, _⟩ := ready_spec hi
      rw [h1 i (by omega)] at q2; cases q2
    cases fuel with
    | zero => exact ⟨hr, h⟩
    | succ fuel => exact ⟨fun _ => h, fun i hi => by rw [hr] at hi; cases hi⟩
  | m + 1, k, fuel, listed, a, w, hk, hp, hf, hls, h1, h2, h => by
    cases fuel with
    | zero => omega
    | succ fuel =>
      have hkm : k ∈ Region.ready .any ops listed := ready_all heb hls (by omega) (h2 k (Nat.le_refl _) (by omega)) h1
      refine ⟨fun hr => (by rw [hr] at hkm; cases hkm), fun i hi => ?_⟩
      have hik : i = k := by
        obtain ⟨q1, q2, _⟩ := ready_spec hi
        by_cases e : i < k
        · rw [h1 i e] at q2; cases q2
        · by_cases e2 : i = k
          · exact e2
          · have hb := hB i (by omega) q1 k (by omega)
            have := ready_bef heb (fun x y hxy hy hly => by
              have := hxy.lt
              by_cases hyk : y < k
              · exact h1 x (by omega)
              · rw [h2 y (by omega) hy] at hly; cases hly) hi k hb
            rw [h2 k (Nat.le_refl _) (by omega)] at this; cases this
      subst hik
      rw [List.range'_succ, wpOpsIn_cons] at h
      refine wpOpIn_mono (fun a w hh => tail_any heb hB m (i + 1) fuel _ a w (by omega) (by omega) (by omega) (by simp [hls]) (fun j hj => ?_) (fun j hj1 hj2 => ?_) hh) h
      · rw [set_getD _ _ _ (by omega)]
        split
        · rfl
        · exact h1 j (by omega)
      · rw [set_getD _ _ _ (by omega), if_neg (by omega)]
        exact h2 j (by omega) hj2

theorem split_any {P : Program} {ops opsA : Array Oper} {p : Nat} {Q QA : Exit → Act → World → Prop} (hA : ∀ i, i < p → opsA[i]? = ops[i]?) (hsA : opsA.size = p) (hp : p ≤ ops.size) (heb : edgesBack ops.toList = true)
    (hB : ∀ j, p ≤ j → j < ops.size → ∀ i, i < j → Bef ops i j) (hg : ∀ i o j b, i < p → ops[i]? = some o → o.guard = some (j, b) → j < p)
    (hfin : ∀ a w, QA .normal a w → wpOpsIn Fence.wide 2 P ops Q (List.range' p (ops.size - p)) a w) (hno : ∀ a w, ¬ QA .outgrown a w) (hpn : ∀ c a w, ¬ QA (.panic c) a w) :
    ∀ (fuel : Nat) (lA listed : Array Bool) (a : Act) (w : World), lA.size = p → listed.size = ops.size → (∀ i, i < p → listed.getD i true = lA.getD i true) → (∀ i, p ≤ i → i < ops.size → listed.getD i true = false) →
      (∀ x y, Bef ops x y → y < ops.size → listed.getD y true = true → listed.getD x true = true) → wpAny P .any opsA QA fuel lA a w → wpAnyIn Fence.wide 2 P .any ops Q (fuel + (ops.size - p)) listed a w := by
  have hAe : ∀ (lA listed : Array Bool), lA.size = p → listed.size = ops.size → (∀ i, i < p → listed.getD i true = lA.getD i true) → ∀ i, i < p → (i ∈ Region.ready .any ops listed ↔ i ∈ Region.ready .any opsA lA) := by
    intro lA listed hl1 hl2 hle i hi
    constructor
    · intro h
      obtain ⟨h1, h2, o, h3, h4⟩ := ready_spec h
      refine ready_of (o := o) ((hA i hi).trans h3) (by rw [← hle i hi]; exact h2) (fun e he hb => ?_)
      have := edge_lt heb h3 he hb
      rw [getD_ft (by omega), ← hle e.on (by omega), ← getD_ft (by omega)]
      exact h4 e he hb
    · intro h
      obtain ⟨h1, h2, o, h3, h4⟩ := ready_spec h
      have h3' : ops[i]? = some o := (hA i hi).symm.trans h3
      refine ready_of (o := o) h3' (by rw [hle i hi]; exact h2) (fun e he hb => ?_)
      have := edge_lt heb h3' he hb
      rw [getD_ft (by omega), hle e.on (by omega), ← getD_ft (by omega)]
      exact h4 e he hb
  have hallA : ∀ (lA listed : Array Bool), lA.size = p → listed.size = ops.size → (∀ i, i < p → listed.getD i true = lA.getD i true) → Region.ready .any opsA lA = [] → ∀ i, i < p → listed.getD i true = true := by
    intro lA listed hl1 hl2 hle hr i
    induction i using Nat.strongRecOn with
    | _ i ih =>
      intro hi
      cases hli : listed.getD i true with
      | true => rfl
      | false =>
        have := (hAe lA listed hl1 hl2 hle i hi).1 (ready_all heb hl2 (by omega) hli (fun j hj => ih j hj (by omega)))
        rw [hr] at this; cases this
  intro fuel
  induction fuel with
  | zero =>
    intro lA listed a w hl1 hl2 hle hlB hdn h
    exact tail_any heb hB _ p _ listed a w (by omega) (Nat.le_refl _) (by omega) hl2 (hallA lA listed hl1 hl2 hle h.1) hlB (hfin a w h.2)
  | succ fuel ih =>
    intro lA listed a w hl1 hl2 hle hlB hdn h
    by_cases hr : Region.ready .any opsA lA = []
    · exact tail_any heb hB _ p _ listed a w (by omega) (Nat.le_refl _) (by omega) hl2 (hallA lA listed hl1 hl2 hle hr) hlB (hfin a w (h.1 hr))
    · rw [show fuel + 1 + (ops.size - p) = (fuel + (ops.size - p)) + 1 by omega]
      obtain ⟨i0, hi0⟩ := List.exists_mem_of_ne_nil _ hr
      have hi0p : i0 < p := by have := (ready_spec hi0).1; omega
      refine ⟨fun hr' => ?_, fun i hi => ?_⟩
      · have := (hAe lA listed hl1 hl2 hle i0 hi0p).2 hi0
        rw [hr'] at this; cases this
      · by_cases hip : i < p
        · have h2 := h.2 i ((hAe lA listed hl1 hl2 hle i hip).1 hi)
          have hri := ready_spec hi
          have hset : ∀ (K : Act → World → Prop), (∀ a' w', wpAny P .any opsA QA fuel (lA.setIfInBounds i true) a' w' → wpAnyIn Fence.wide 2 P .any ops Q (fuel + (ops.size - p)) (listed.setIfInBounds i true) a' w') := by
            intro _ a' w' hh
            refine ih _ _ a' w' (by simp [hl1]) (by simp [hl2]) (fun j hj => ?_) (fun j hj1 hj2 => ?_) (fun x y hxy hy hly => ?_) hh
            · rw [set_getD _ _ _ (by omega), set_getD _ _ _ (by omega), hle j hj]
            · rw [set_getD _ _ _ (by omega), if_neg (by omega)]; exact hlB j hj1 hj2
            · rw [set_getD _ _ _ (by omega)] at hly ⊢
              split
              · rfl
              · split at hly
                · rename_i e; subst e; exact ready_bef heb hdn hi x hxy
                · exact hdn x y hxy hy hly
          unfold wpOp at h2
          unfold wpOpIn
          rw [hA i hip] at h2
          obtain ⟨_, _, o, ho, _⟩ := hri
          rw [ho] at h2 ⊢
          simp only at h2 ⊢
          have hw : Region.wanted o (yielded opsA a.tmps) = Region.wanted o (yielded ops a.tmps) := by
            unfold Region.wanted
            cases hgd : o.guard with
            | none => rfl
            | some jb =>
              obtain ⟨j, b⟩ := jb
              simp only
              unfold yielded
              rw [hA j (hg i o j b hip ho hgd)]
          rw [hw] at h2
          split at h2
          · rename_i hww
            rw [if_pos hww]
            rcases h2 with h2 | ⟨-, a', w', h2⟩
            · exact Oper.wp_wide (fun _ _ h => h) (Oper.wp_next (Q := QA) (fun ds v w hh => hset (fun _ _ => True) _ w hh) (fun ch w hh => absurd hh (hpn ch _ w)) (fun ⟨a', w', hh⟩ => absurd hh (hno a' w')) h2)
            · exact absurd h2 (hno a' w')
          · rename_i hww
            rw [if_neg hww]
            exact ⟨fun _ _ => trivial, hset (fun _ _ => True) _ _ h2⟩
        · have hb := ready_bef heb hdn hi i0 (hB i (by omega) (ready_spec hi).1 i0 (by omega))
          have := (ready_spec hi0).2.1
          rw [← hle i0 hi0p, hb] at this; cases this

/-- Operations that come last, in every order. -/
def splitB (ops : Array Oper) (p : Nat) : Bool :=
  Nat.ble p ops.toList.length && edgesBack ops.toList &&
  ((List.range ops.toList.length).all fun j => Nat.blt j p || ((List.range j).all fun i => ((Region.before ops).getD j 0).testBit i)) &&
  ((ops.toList.take p).all fun o => match o.guard with | some (j, _) => Nat.blt j p | none => true)
section
variable {P : Program} {K : Yc} {Q : YPost} {S : PS} {pe : Option Code}
theorem YWP.region_split (hm : P.follows .mixedOrders = true) {id : Nat} {ops : Array Oper} {p : Nat} (hs : splitB ops p = true) {L : List Lk} {S' : PS} (hC : Chain P S.nxt (ops.toList.take p) (ops.toList.take p) 0 S L S')
    (hd : (edgesBack (ops.toList.take p) && drawOkB (ops.toList.take p) (Region.before (ops.toList.take p).toArray) (L.map fun x => Tr.of x.δ)) = true)
    (h : YOps P K ops Q (List.range' p (ops.size - p)) { S' with nxt := S.nxt + 4 * p } (S.nxt + 4 * p) pe) : YWP P K (.region id ops true) Q S pe := by
  simp only [splitB, Bool.and_eq_true, Nat.ble_eq, List.all_eq_true, List.mem_range, Bool.or_eq_true, Nat.blt_eq] at hs
  obtain ⟨⟨⟨h1, h2⟩, h3⟩, h4⟩ := hs
  have hp : p ≤ ops.size := by simpa using h1
  have hlen : (ops.toList.take p).length = p := by simp; omega
  intro Lc g0 S0 w0 hB g a w hY
  have hdf : Df w a.defers := by rw [hY.df]; exact ⟨by simp, by simp⟩
  have key := reg_any2 (m := K.k) (Q := fun e T => e = .normal ∧ T = { S' with nxt := S.nxt + 4 * p }) (ops := (ops.toList.take p).toArray) (S := S) (by simpa using hC) ⟨fun _ => by simpa using hd, ⟨rfl, by simp [hlen]⟩⟩ g a w hY.inv hdf hY.fresh (hY.pins hB)
  have hsz : (ops.toList.take p).toArray.size = p := by simp; omega
  refine wpIn_wide.1 (wpIn_region_any (n := 2) hm ?_)
  have := split_any (P := P) (ops := ops) (opsA := (ops.toList.take p).toArray) (p := p) (Q := ypost K Lc g0 S0 w0 Q) (fun i hi => by simp [List.getElem?_take, hi]) hsz hp h2
    (fun j hj1 hj2 i hi => before_sound ops h2 j i ((h3 j (by simpa using hj2)).resolve_left (by omega) i hi))
    (fun i o j b hi ho hgd => by
      have := h4 o (by
        rw [List.mem_iff_getElem?]
        exact ⟨i, by rw [List.getElem?_take, if_pos hi]; simpa using ho⟩)
      rw [hgd] at this
      simpa using this)
    (fun a1 w1 hq => by
      obtain ⟨⟨g', S'', ⟨-, rfl⟩, hI', -, hF', hE'⟩, hde⟩ := hq
      exact h Lc g0 S0 w0 hB g' a1 w1 ⟨hI', hF', hY.ext.trans hE', hE'.e.ld hY.inv.w hY.lp rfl, hE'.e.ld hY.inv.w hY.dd rfl, hde.trans hY.df⟩)
    (fun a w hq => by obtain ⟨⟨g', S'', ⟨he, -⟩, -⟩, -⟩ := hq; cases he)
    (fun c a w hq => by obtain ⟨⟨g', S'', ⟨he, -⟩, -⟩, -⟩ := hq; cases he)
    (ops.toList.take p).toArray.size (Array.replicate (ops.toList.take p).toArray.size false) (Array.replicate ops.size false) a _ (by rw [Array.size_replicate, hsz]) (by simp) (fun i hi => by
      rw [Array.getD_eq_getD_getElem?, Array.getD_eq_getD_getElem?, Array.getElem?_replicate, Array.getElem?_replicate, if_pos (by omega), if_pos (by omega)])
    (fun i _ hi => by rw [Array.getD_eq_getD_getElem?, Array.getElem?_replicate, if_pos hi]; rfl)
    (fun x y _ hy hly => by rw [Array.getD_eq_getD_getElem?, Array.getElem?_replicate, if_pos hy] at hly; cases hly) key
  rwa [hsz, show p + (ops.size - p) = ops.size by omega] at this
end
end Go.Pv
