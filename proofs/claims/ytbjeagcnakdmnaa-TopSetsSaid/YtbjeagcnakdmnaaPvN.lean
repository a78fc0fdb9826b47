/- Abstract values: a region in any order. Nothing of any program. -/
import Derived.Test.YtbjeagcnakdmnaaPvM
set_option linter.unusedSimpArgs false
set_option linter.unusedVariables false
set_option linter.unusedSectionVars false
namespace Go.Pv
variable [GTab]

theorem countP_lt {α : Type} {p q : α → Bool} : ∀ {l : List α}, (∀ x ∈ l, q x = true → p x = true) → (∃ x ∈ l, p x = true ∧ q x = false) → l.countP q < l.countP p
  | [], _, h => by obtain ⟨x, hx, _⟩ := h; simp at hx
  | y :: l, h, ⟨x, hx, hp, hq⟩ => by
    have hle : l.countP q ≤ l.countP p := List.countP_mono_left fun x hx hq => h x (List.mem_cons_of_mem _ hx) hq
    rw [List.countP_cons, List.countP_cons]
    rcases List.mem_cons.1 hx with e | hx
    · subst e; simp [hp, hq]; omega
    · have := countP_lt (fun x hx hq => h x (List.mem_cons_of_mem _ hx) hq) ⟨x, hx, hp, hq⟩
      have hy := h y (List.mem_cons_self ..)
      cases hqy : q y <;> cases hpy : p y <;> simp [hqy, hpy] at hy ⊢ <;> omega

section
variable {P : Program} {nid0 : Nat} {full : List Oper}

def Wf (full : List Oper) (L : List Lk) (i : Nat) (l : Loc) : Option SV :=
  match full[i]?, L[i]? with
  | some o, some x => Wr o x.c x.δ l
  | _, _ => none
def Rf (full : List Oper) (L : List Lk) (i : Nat) (l : Loc) : Prop :=
  match full[i]?, L[i]? with
  | some o, some x => Rd full o x.δ l
  | _, _ => False

theorem wf_link {i : Nat} {o : Oper} {x : Lk} {L : List Lk} (ho : full[i]? = some o) (hx : L[i]? = some x) (l : Loc) : Wf full L i l = Wr o x.c x.δ l := by simp [Wf, ho, hx]
theorem rf_link {i : Nat} {o : Oper} {x : Lk} {L : List Lk} (ho : full[i]? = some o) (hx : L[i]? = some x) (l : Loc) : Rf full L i l = Rd full o x.δ l := by simp [Rf, ho, hx]

theorem run_any {ops : Array Oper} (hf : full = ops.toList) {Q : Exit → Act → World → Prop} {S' : PS} {L : List Lk} {S₀ : PS} (hC : Chain P nid0 full full 0 S₀ L S')
    (heb : edgesBack full = true) (hok : drawOkB full (Region.before ops) (L.map fun x => Tr.of x.δ) = true) {g₀ : Gh} {w₀ : World} {df : List Deferred}
    (hQ : ∀ (a : Act) g' w', Inv g' S' a.tmps w' → Ext g₀ S₀ w₀ g' S' w' → (∀ j, nid0 + 4 * full.length ≤ j → Fresh g' j) → a.defers = df → Q .normal a w') :
    ∀ (fuel : Nat) (listed : Array Bool) (Y : PS) (g : Gh) (a : Act) (w : World), listed.size = full.length → Behind full.length (Wf full L) (fun i => (stAt S' L i).at') (fun i => i < full.length ∧ listed.getD i true = true) Y.at' →
      (∀ i j, Bef ops i j → j < full.length → listed.getD j true = true → listed.getD i true = true) → (List.range full.length).countP (fun i => !listed.getD i true) ≤ fuel →
      Inv g Y a.tmps w → Y.n = S₀.n → (∀ i, i < full.length → listed.getD i true = false → ∀ j, nid0 + 4 * i ≤ j → j < nid0 + 4 * i + 4 → Fresh g j) → (∀ j, nid0 + 4 * full.length ≤ j → Fresh g j) → Ext g₀ S₀ w₀ g Y w → a.defers = df →
      wpAny P .any ops Q fuel listed a w := by
  have hlen := hC.length
  have hsz : ops.size = full.length := by rw [hf]; simp
  have hlink := hC.link
  have hX : ∀ i, i < full.length → ∀ l, (stAt S' L (i + 1)).at' l = (Wf full L i l).getD ((stAt S' L i).at' l) := by
    intro i hi l
    obtain ⟨x, h1, h2, h3, h4, h5, h6, h7⟩ := hlink.2 i _ (List.getElem?_eq_getElem hi)
    rw [h6, PS.put_at, wf_link (List.getElem?_eq_getElem hi) h1]
    simp [stAt, h1]
  have hpair : ∀ i j, i < j → j < full.length → ¬ Bef ops i j → (∀ l, Rf full L i l → Wf full L j l = none) ∧ (∀ l, Rf full L j l → Wf full L i l = none) ∧ (∀ l, Wf full L i l ≠ none → Wf full L j l = none) := by
    intro i j hij hj hb
    have hi : i < full.length := by omega
    obtain ⟨x, hx, _⟩ := hlink.2 i _ (List.getElem?_eq_getElem hi)
    obtain ⟨y, hy, _⟩ := hlink.2 j _ (List.getElem?_eq_getElem hj)
    have h1 := List.all_eq_true.1 hok j (by simpa using hj)
    have h2 := List.all_eq_true.1 h1 i (by simpa using hij)
    rw [Bool.or_eq_true] at h2
    rcases h2 with h2 | h2
    · exact absurd (before_sound ops (by rw [← hf]; exact heb) j i h2) hb
    · rw [List.getElem?_eq_getElem hi, List.getElem?_eq_getElem hj, List.getElem?_map, List.getElem?_map, hx, hy] at h2
      simp only [Option.map_some] at h2
      have := indep_rw (c := x.c) (d := y.c) h2
      refine ⟨fun l hl => ?_, fun l hl => ?_, fun l hl => ?_⟩
      · rw [rf_link (List.getElem?_eq_getElem hi) hx] at hl
        rw [wf_link (List.getElem?_eq_getElem hj) hy]; exact this.1 l hl
      · rw [rf_link (List.getElem?_eq_getElem hj) hy] at hl
        rw [wf_link (List.getElem?_eq_getElem hi) hx]; exact this.2.1 l hl
      · rw [wf_link (List.getElem?_eq_getElem hi) hx] at hl
        rw [wf_link (List.getElem?_eq_getElem hj) hy]; exact this.2.2 l hl
  have hind : ∀ i j, i < full.length → j < full.length → i ≠ j → ¬ Bef ops i j → ¬ Bef ops j i → ∀ l, Rf full L i l → Wf full L j l = none := by
    intro i j hi hj hne h1 h2 l hl
    rcases Nat.lt_or_gt_of_ne hne with h | h
    · exact (hpair i j h hj h1).1 l hl
    · exact (hpair j i h hi h2).2.1 l hl
  have hww : ∀ i j, i < full.length → j < full.length → i ≠ j → ¬ Bef ops i j → ¬ Bef ops j i → ∀ l, Wf full L i l ≠ none → Wf full L j l = none := by
    intro i j hi hj hne h1 h2 l hl
    rcases Nat.lt_or_gt_of_ne hne with h | h
    · exact (hpair i j h hj h1).2.2 l hl
    · cases hw : Wf full L j l with
      | none => rfl
      | some v => exact absurd ((hpair j i h hi h2).2.2 l (by rw [hw]; simp)) hl
  have hfin : ∀ (listed : Array Bool) (Y : PS) (g : Gh) (a : Act) (w : World), Behind full.length (Wf full L) (fun i => (stAt S' L i).at') (fun i => i < full.length ∧ listed.getD i true = true) Y.at' → Inv g Y a.tmps w → Y.n = S₀.n →
      (∀ j, nid0 + 4 * full.length ≤ j → Fresh g j) → Ext g₀ S₀ w₀ g Y w → a.defers = df → (∀ i, i < full.length → listed.getD i true = true) → Q .normal a w := by
    intro listed Y g a w hB hI hn hF hE hd hall
    have hsame : Y.same S' := by
      intro l
      have := behind_all hX hB (fun i hi => ⟨hi, hall i hi⟩) l
      rw [this]
      simp [stAt, List.getElem?_eq_none (show L.length ≤ full.length by omega)]
    have hS'n : S'.n = S₀.n := by
      by_cases h0 : full.length = 0
      · have h0' : L.length = 0 := by omega
        have := hlink.1
        simp only [stAt, List.getElem?_eq_none (show L.length ≤ 0 by omega)] at this
        rw [← this]; rfl
      · obtain ⟨x, q1, q2, q3, q4, q5, q6, q7⟩ := hlink.2 (full.length - 1) _ (List.getElem?_eq_getElem (by omega))
        have : stAt S' L (full.length - 1 + 1) = S' := by simp [stAt, List.getElem?_eq_none (show L.length ≤ full.length - 1 + 1 by omega)]
        rw [this] at q6
        rw [q6, PS.put_n, q7]
    exact hQ a g w ⟨InvW.same hsame hI.w, fun t => by rw [← hsame.get]; exact hI.env t, by rw [hS'n, ← hn]; exact hI.size⟩ (Ext.same hE (fun _ => rfl) hsame) hF hd
  have hready : ∀ (listed : Array Bool), (∀ i j, Bef ops i j → j < full.length → listed.getD j true = true → listed.getD i true = true) → Region.ready .any ops listed = [] → ∀ i, i < full.length → listed.getD i true = true := by
    intro listed _ hr i
    induction i using Nat.strongRecOn with
    | _ i ih =>
      intro hi
      cases hli : listed.getD i true with
      | true => rfl
      | false =>
        have hmem : i ∈ Region.ready .any ops listed := by
          unfold Region.ready
          rw [List.mem_filter]
          refine ⟨by simp; omega, ?_⟩
          have hoi : ops[i]? = some full[i] := by rw [← List.getElem?_eq_getElem hi, hf]; simp
          simp only [hli, Bool.not_false, Bool.true_and, hoi, Option.map_some, Option.getD_some, Array.all_eq_true']
          intro e he
          by_cases hbi : Region.binds .any e = true
          · have hlt : e.on < i := by
              have hz : (full[i], i) ∈ full.zipIdx := by rw [List.mem_zipIdx_iff_getElem?]; simp [hi]
              have := List.all_eq_true.1 heb _ hz
              have := List.all_eq_true.1 this e (by simpa using he)
              simpa [hbi] using this
            have := ih e.on hlt (by omega)
            have hls : listed.getD e.on false = true := by
              rw [Array.getD_eq_getD_getElem?] at this ⊢
              cases hx : listed[e.on]? with
              | none =>
                exfalso
                rw [Array.getD_eq_getD_getElem?] at hli
                cases hy : listed[i]? with
                | none => rw [hy] at hli; cases hli
                | some b =>
                  have h1 := (Array.getElem?_eq_some_iff.1 hy).1
                  rw [Array.getElem?_eq_none_iff] at hx; omega
              | some b => rw [hx] at this; exact this
            simp [hls]
          · simp [hbi]
        rw [hr] at hmem
        cases hmem
  intro fuel
  induction fuel with
  | zero =>
    intro listed Y g a w hls hB hdown hcnt hI hn hfr hF hE hd
    have hall : ∀ i, i < full.length → listed.getD i true = true := by
      intro i hi
      have h0 : (List.range full.length).countP (fun i => !listed.getD i true) = 0 := by omega
      rw [List.countP_eq_zero] at h0
      have := h0 i (by simpa using hi)
      simpa using this
    refine ⟨?_, hfin listed Y g a w hB hI hn hF hE hd hall⟩
    unfold Region.ready
    rw [List.filter_eq_nil_iff]
    intro i hi
    rw [hall i (by simp at hi; omega)]
    simp
  | succ fuel ih =>
    intro listed Y g a w hls hB hdown hcnt hI hn hfr hF hE hd
    refine ⟨fun hr => hfin listed Y g a w hB hI hn hF hE hd (hready listed hdown hr), fun i hi => ?_⟩
    unfold Region.ready at hi
    rw [List.mem_filter] at hi
    obtain ⟨hi1, hi2⟩ := hi
    have hil : i < full.length := by simp at hi1; omega
    have hoi : ops[i]? = some full[i] := by rw [← List.getElem?_eq_getElem hil, hf]; simp
    rw [hoi, Bool.and_eq_true] at hi2
    obtain ⟨hi3, hi4⟩ := hi2
    simp only [Option.map_some, Option.getD_some, Array.all_eq_true'] at hi4
    have hli : listed.getD i true = false := by simpa using hi3
    obtain ⟨x, h1, h2, h3, h4, h5, h6, h7⟩ := hlink.2 i _ (List.getElem?_eq_getElem hil)
    rw [Nat.zero_add] at h3
    have hpred : ∀ j k, Bef ops j k → k = i → listed.getD j true = true := by
      intro j k h
      induction h with
      | direct j k o e ho he hb hji hlt =>
        intro e1; subst e1
        rw [hoi] at ho; cases ho
        have := hi4 e he
        rw [hb] at this
        simp only [Bool.not_true, Bool.false_or] at this
        subst hji
        rw [Array.getD_eq_getD_getElem?] at this ⊢
        cases hx : listed[e.on]? with
        | none => rfl
        | some b => rw [hx] at this; exact this
      | trans j m k hjm hmk _ ih2 =>
        intro e1
        have hm := ih2 e1
        have hmlt := hmk.lt
        exact hdown j m hjm (by omega) hm
    have hni : ¬ (i < full.length ∧ listed.getD i true = true) := by rw [hli]; simp
    have hdown' : ∀ a b, Bef ops a b → (b < full.length ∧ listed.getD b true = true) → (a < full.length ∧ listed.getD a true = true) := by
      intro a b h ⟨hb1, hb2⟩
      have := h.lt
      exact ⟨by omega, hdown a b h hb1 hb2⟩
    have hreads : ∀ l, Rd full full[i] x.δ l → Y.at' l = x.S.at' l := by
      intro l hl
      have := behind_reads hX (fun a b h => h.lt) hind hB hdown' hil hni (fun j h => ⟨by have := h.lt; omega, hpred j i h rfl⟩) (by rw [rf_link (List.getElem?_eq_getElem hil) h1]; exact hl)
      rw [this]
      simp [stAt, h1]
    have hset : ∀ j, (listed.setIfInBounds i true).getD j true = if j = i then true else listed.getD j true := by
      intro j
      rw [Array.getD_eq_getD_getElem?, Array.getElem?_setIfInBounds, Array.getD_eq_getD_getElem?]
      by_cases e : i = j
      · subst e; rw [if_pos rfl, if_pos (by omega)]; simp
      · rw [if_neg e, if_neg (Ne.symm e)]
    refine run_one hf hoi hI h2 h3 h4 (fun d hd => by rw [hn]; exact h5 d hd) hreads (hfr i hil hli) ?_
    intro a' g' w' hI' hE' hF' hdf
    refine ih _ (Y.put full[i] x.c x.δ) g' a' w' (by simpa using hls) ?_ ?_ ?_ hI' (by rw [PS.put_n]; exact hn) ?_ ?_ (hE.trans hE') (hdf.trans hd)
    · have := behind_step hX (fun a b h => h.lt) hww hB hdown' hil hni (Y' := (Y.put full[i] x.c x.δ).at') (fun l => by rw [PS.put_at, wf_link (List.getElem?_eq_getElem hil) h1])
      intro l
      rcases this l with ⟨j, v, q1, q2, q3, q4, q5⟩ | ⟨q1, q2⟩
      · refine .inl ⟨j, v, q1, ⟨q1, ?_⟩, q3, fun k hk hk2 hlt => q4 k hk ?_ hlt, q5⟩
        · rw [hset]; rcases q2 with e | e
          · rw [if_pos e]
          · by_cases e2 : j = i
            · rw [if_pos e2]
            · rw [if_neg e2]; exact e.2
        · by_cases e : k = i
          · exact .inl e
          · right; have := hk2.2; rw [hset, if_neg e] at this; exact ⟨hk, this⟩
      · refine .inr ⟨fun k hk hk2 => q1 k hk ?_, q2⟩
        by_cases e : k = i
        · exact .inl e
        · right; have := hk2.2; rw [hset, if_neg e] at this; exact ⟨hk, this⟩
    · intro j k hjk hk hlk
      rw [hset] at hlk ⊢
      by_cases e : k = i
      · split
        · rfl
        · exact hpred j k hjk e
      · rw [if_neg e] at hlk
        split
        · rfl
        · exact hdown j k hjk hk hlk
    · have := countP_lt (p := fun j => !listed.getD j true) (q := fun j => !(listed.setIfInBounds i true).getD j true) (l := List.range full.length)
        (fun j _ h => by
          have h' : (!(listed.setIfInBounds i true).getD j true) = true := h
          rw [hset] at h'
          show (!listed.getD j true) = true
          split at h'
          · cases h'
          · exact h') ⟨i, by simpa using hil, by simp [hli], by show (!(listed.setIfInBounds i true).getD i true) = false; rw [hset, if_pos rfl]; rfl⟩
      omega
    · intro j hj hlj
      rw [hset] at hlj
      split at hlj
      · cases hlj
      · rename_i e; intro k hk1 hk2; exact hF' _ (by omega) (hfr j hj hlj k hk1 hk2)
    · intro j hj; exact hF' _ (by omega) (hF j hj)

end
end Go.Pv
