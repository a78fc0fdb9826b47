/- Bytes of numbers; fields' bytes are as many as a multiple of four. Plain. -/
import Derived.Test.YtafleenajffpkaaDoorPkGet
import Derived.Test.YtafleenajffpkaaDoorPkPut
import Derived.Test.YtafleenajffpkaaDoorTlCode
set_option maxRecDepth 100000
namespace Go.Proofs.Sh
open Go.Pv
theorem fmt_mod (o : Int) (f : Fm) (x : Fd) : (fmt o f x).length % 4 = 0 := by
  have hp : ∀ l : List UInt8, (p1 l).length % 4 = 0 := fun l => by
    simp only [p1, zeros, List.length_append, List.length_replicate, padN]; omega
  unfold fmt
  split
  · exact hp _
  · unfold fmt2
    split
    · exact hp _
    · exact hp _
theorem byteAt_of {n k : Nat} : (byteAt (n : Int) k).toNat = n / 256 ^ k % 256 := by
  have := byteAt_toNat (n : Int) k
  have h : ((256 : Int) ^ k) = ((256 ^ k : Nat) : Int) := by rw [Int.natCast_pow]; rfl
  rw [h, ← Int.natCast_ediv] at this
  omega
theorem enc2_0 (n : Int) : encB 0 2 n = [byteAt n 0, byteAt n 1] := rfl
theorem enc2_1 (n : Int) : encB 1 2 n = [byteAt n 1, byteAt n 0] := rfl
theorem enc_1 (o v : Int) : encB o 1 v = [byteAt v 0] := by
  unfold encB
  cases (o == 1) <;> rfl
end Go.Proofs.Sh

/- Numbers as bytes, and back. Plain. -/
set_option maxRecDepth 100000
namespace Go.Proofs.Sh
open Go.Pv
theorem byteAt_nat (v : Int) (k : Nat) : ((byteAt v k).toNat : Int) = (v / 256 ^ k) % 256 := byteAt_toNat v k
theorem dec_enc {o : Int} (ho : isOrder o) {s : Int} (hs : isSize s) (v : Int) : (decU o (encB o (wid s) v) : Int) = v % 256 ^ wid s := by
  have h0 := byteAt_nat v 0
  have h1 := byteAt_nat v 1
  have h2 := byteAt_nat v 2
  have h3 := byteAt_nat v 3
  simp only [Int.reducePow] at h0 h1 h2 h3
  rcases ho with rfl | rfl <;> rcases hs with rfl | rfl | rfl | rfl | rfl | rfl <;>
    simp [encB, decU, little, wid, List.range_succ] <;> omega
theorem read_enc {o : Int} (ho : isOrder o) {s : Int} (hs : isSize s) {v : Int} (hf : fitsN s v = true) : readV o s (encB o (wid s) v) = v := by
  have h := dec_enc ho hs v
  unfold readV
  rcases hs with rfl | rfl | rfl | rfl | rfl | rfl <;> simp [fitsN, low, high, wid] at hf h ⊢ <;> split <;> omega
theorem fits_read {o : Int} {s : Int} (hs : isSize s) {b : List UInt8} (hb : b.length = wid s) : fitsN s (readV o s b) = true := by
  have h := decU_lt o b
  rw [hb] at h
  unfold readV
  rcases hs with rfl | rfl | rfl | rfl | rfl | rfl <;> simp [fitsN, low, high, wid] at h ⊢ <;> split <;> omega
theorem byteAt_eq {v : Int} {k : Nat} {x : UInt8} (h : (v / 256 ^ k) % 256 = (x.toNat : Int)) : byteAt v k = x := by
  apply UInt8.toNat_inj.1
  have := byteAt_nat v k
  omega
theorem enc_read {o : Int} (ho : isOrder o) {s : Int} (hs : isSize s) {b : List UInt8} (hb : b.length = wid s) : encB o (wid s) (readV o s b) = b := by
  have key : ∀ (k : Nat) (x : UInt8), k < 4 → ((decU o b : Int) / 256 ^ k) % 256 = (x.toNat : Int) → k < wid s → byteAt (readV o s b) k = x := by
    intro k x hk h hw
    apply byteAt_eq
    rw [← h]
    unfold readV
    split
    · have : k = 0 ∨ k = 1 ∨ k = 2 ∨ k = 3 := by omega
      rcases hs with rfl | rfl | rfl | rfl | rfl | rfl <;> rcases this with rfl | rfl | rfl | rfl <;> simp [wid] at hw ⊢ <;> omega
    · rfl
  rcases ho with rfl | rfl <;> rcases hs with rfl | rfl | rfl | rfl | rfl | rfl
  · match b, hb with
    | [b0], _ =>
      have h_b0 := b0.toNat_lt
      have e_b0 := key 0 b0 (by decide) (by simp [decU, little]; omega) (by decide)
      show [byteAt _ 0] = _
      rw [e_b0]
  · match b, hb with
    | [b0, b1], _ =>
      have h_b0 := b0.toNat_lt
      have h_b1 := b1.toNat_lt
      have e_b0 := key 0 b0 (by decide) (by simp [decU, little]; omega) (by decide)
      have e_b1 := key 1 b1 (by decide) (by simp [decU, little]; omega) (by decide)
      show [byteAt _ 0, byteAt _ 1] = _
      rw [e_b0, e_b1]
  · match b, hb with
    | [b0, b1, b2, b3], _ =>
      have h_b0 := b0.toNat_lt
      have h_b1 := b1.toNat_lt
      have h_b2 := b2.toNat_lt
      have h_b3 := b3.toNat_lt
      have e_b0 := key 0 b0 (by decide) (by simp [decU, little]; omega) (by decide)
      have e_b1 := key 1 b1 (by decide) (by simp [decU, little]; omega) (by decide)
      have e_b2 := key 2 b2 (by decide) (by simp [decU, little]; omega) (by decide)
      have e_b3 := key 3 b3 (by decide) (by simp [decU, little]; omega) (by decide)
      show [byteAt _ 0, byteAt _ 1, byteAt _ 2, byteAt _ 3] = _
      rw [e_b0, e_b1, e_b2, e_b3]
  · match b, hb with
    | [b0], _ =>
      have h_b0 := b0.toNat_lt
      have e_b0 := key 0 b0 (by decide) (by simp [decU, little]; omega) (by decide)
      show [byteAt _ 0] = _
      rw [e_b0]
  · match b, hb with
    | [b0, b1], _ =>
      have h_b0 := b0.toNat_lt
      have h_b1 := b1.toNat_lt
      have e_b0 := key 0 b0 (by decide) (by simp [decU, little]; omega) (by decide)
      have e_b1 := key 1 b1 (by decide) (by simp [decU, little]; omega) (by decide)
      show [byteAt _ 0, byteAt _ 1] = _
      rw [e_b0, e_b1]
  · match b, hb with
    | [b0, b1, b2, b3], _ =>
      have h_b0 := b0.toNat_lt
      have h_b1 := b1.toNat_lt
      have h_b2 := b2.toNat_lt
      have h_b3 := b3.toNat_lt
      have e_b0 := key 0 b0 (by decide) (by simp [decU, little]; omega) (by decide)
      have e_b1 := key 1 b1 (by decide) (by simp [decU, little]; omega) (by decide)
      have e_b2 := key 2 b2 (by decide) (by simp [decU, little]; omega) (by decide)
      have e_b3 := key 3 b3 (by decide) (by simp [decU, little]; omega) (by decide)
      show [byteAt _ 0, byteAt _ 1, byteAt _ 2, byteAt _ 3] = _
      rw [e_b0, e_b1, e_b2, e_b3]
  · match b, hb with
    | [b0], _ =>
      have h_b0 := b0.toNat_lt
      have e_b0 := key 0 b0 (by decide) (by simp [decU, little]; omega) (by decide)
      show [byteAt _ 0] = _
      rw [e_b0]
  · match b, hb with
    | [b0, b1], _ =>
      have h_b0 := b0.toNat_lt
      have h_b1 := b1.toNat_lt
      have e_b0 := key 1 b0 (by decide) (by simp [decU, little]; omega) (by decide)
      have e_b1 := key 0 b1 (by decide) (by simp [decU, little]; omega) (by decide)
      show [byteAt _ 1, byteAt _ 0] = _
      rw [e_b0, e_b1]
  · match b, hb with
    | [b0, b1, b2, b3], _ =>
      have h_b0 := b0.toNat_lt
      have h_b1 := b1.toNat_lt
      have h_b2 := b2.toNat_lt
      have h_b3 := b3.toNat_lt
      have e_b0 := key 3 b0 (by decide) (by simp [decU, little]; omega) (by decide)
      have e_b1 := key 2 b1 (by decide) (by simp [decU, little]; omega) (by decide)
      have e_b2 := key 1 b2 (by decide) (by simp [decU, little]; omega) (by decide)
      have e_b3 := key 0 b3 (by decide) (by simp [decU, little]; omega) (by decide)
      show [byteAt _ 3, byteAt _ 2, byteAt _ 1, byteAt _ 0] = _
      rw [e_b0, e_b1, e_b2, e_b3]
  · match b, hb with
    | [b0], _ =>
      have h_b0 := b0.toNat_lt
      have e_b0 := key 0 b0 (by decide) (by simp [decU, little]; omega) (by decide)
      show [byteAt _ 0] = _
      rw [e_b0]
  · match b, hb with
    | [b0, b1], _ =>
      have h_b0 := b0.toNat_lt
      have h_b1 := b1.toNat_lt
      have e_b0 := key 1 b0 (by decide) (by simp [decU, little]; omega) (by decide)
      have e_b1 := key 0 b1 (by decide) (by simp [decU, little]; omega) (by decide)
      show [byteAt _ 1, byteAt _ 0] = _
      rw [e_b0, e_b1]
  · match b, hb with
    | [b0, b1, b2, b3], _ =>
      have h_b0 := b0.toNat_lt
      have h_b1 := b1.toNat_lt
      have h_b2 := b2.toNat_lt
      have h_b3 := b3.toNat_lt
      have e_b0 := key 3 b0 (by decide) (by simp [decU, little]; omega) (by decide)
      have e_b1 := key 2 b1 (by decide) (by simp [decU, little]; omega) (by decide)
      have e_b2 := key 1 b2 (by decide) (by simp [decU, little]; omega) (by decide)
      have e_b3 := key 0 b3 (by decide) (by simp [decU, little]; omega) (by decide)
      show [byteAt _ 3, byteAt _ 2, byteAt _ 1, byteAt _ 0] = _
      rw [e_b0, e_b1, e_b2, e_b3]
end Go.Proofs.Sh

/- Numbers taken at their places. Plain. -/
set_option maxRecDepth 100000
namespace Go.Proofs.Sh
open Go.Pv
theorem num_at {o : Int} (ho : isOrder o) {z : Int} (hz : isSize z) {v : Int} (hf : fitsN z v = true) (P B : List UInt8) : num o (P ++ encB o (wid z) v ++ B) z ⟨P.length, 0⟩ = (v, ⟨P.length + wid z, 0⟩) := by
  have he := encB_length o (wid z) v
  rw [num, if_pos rfl, if_neg (by simp only [List.length_append, he]; omega)]
  have ht : ((P ++ encB o (wid z) v ++ B).drop P.length).take (wid z) = encB o (wid z) v := by
    rw [List.append_assoc, List.drop_left]
    exact List.take_left' he
  simp only [ht, read_enc ho hz hf]
theorem filP_zeros (P B : List UInt8) : ∀ k j : Nat, k + j ≤ 4 → filP (P ++ zeros (k + j) ++ B) k (P.length + j) = ⟨P.length + j + k, 0⟩
  | 0, j, _ => rfl
  | k + 1, j, h => by
    unfold filP
    rw [if_neg (by simp [zeros]; omega), if_pos (by
      have : (P ++ zeros (k + 1 + j) ++ B).getD (P.length + j) 0 = 0 := by
        rw [List.append_assoc, List.getD_eq_getElem?_getD, List.getElem?_append_right (by omega), List.getElem?_append_left (by simp [zeros])]
        simp [zeros]
      exact this)]
    have := filP_zeros P B k (j + 1) (by omega)
    rw [show k + 1 + j = k + (j + 1) by omega, show P.length + j + 1 = P.length + (j + 1) by omega, this]
    congr 1; omega
theorem fil_at (P B : List UInt8) : fil (P ++ zeros (padN P.length) ++ B) ⟨P.length, 0⟩ = ⟨P.length + padN P.length, 0⟩ := by
  rw [fil, if_pos rfl]
  exact filP_zeros P B (padN P.length) 0 (by have := padN_le P.length; omega)
theorem fil_p1 (P B : List UInt8) : fil (p1 P ++ B) ⟨P.length, 0⟩ = ⟨(p1 P).length, 0⟩ := by
  have h := fil_at P B
  rw [show (p1 P).length = P.length + padN P.length by simp [p1, zeros]]
  exact h
theorem row_cons (o z v : Int) (F N : List Int) (k : Nat) : row o (z :: F) (v :: N) (k + 1) = putS o z v ++ row o F N k := by
  simp only [row, List.range_succ_eq_map, List.flatMap_cons, List.flatMap_map]
  rfl
theorem allFit_cons {z v : Int} {F N : List Int} {k : Nat} : allFit (z :: F) (v :: N) (k + 1) = (fitsN z v && allFit F N k) := by
  simp only [allFit, List.range_succ_eq_map, List.all_cons, List.all_map]
  rfl
theorem nums_row {o : Int} (ho : isOrder o) : ∀ (F N : List Int) (P B : List UInt8), N.length = F.length → (∀ z ∈ F, isSize z) → allFit F N N.length = true →
    nums o (P ++ row o F N N.length ++ B) F ⟨P.length, 0⟩ = (N, ⟨(P ++ row o F N N.length).length, 0⟩)
  | [], [], P, B, _, _, _ => by simp [nums, row]
  | [], _ :: _, _, _, h, _, _ => by simp at h
  | _ :: _, [], _, _, h, _, _ => by simp at h
  | z :: F, v :: N, P, B, hl, hs, hf => by
    rw [List.length_cons, allFit_cons, Bool.and_eq_true] at hf
    have hz := hs z (List.mem_cons_self ..)
    have hp : putS o z v = encB o (wid z) v := by rw [putS, if_pos hf.1]
    rw [List.length_cons, row_cons, hp]
    have h1 := num_at ho hz hf.1 P (row o F N N.length ++ B)
    have h2 := nums_row ho F N (P ++ encB o (wid z) v) B (by simpa using hl) (fun y hy => hs y (List.mem_cons_of_mem _ hy)) hf.2
    have e1 : P ++ (encB o (wid z) v ++ row o F N N.length) ++ B = P ++ encB o (wid z) v ++ (row o F N N.length ++ B) := by simp
    have e2 : P ++ encB o (wid z) v ++ row o F N N.length ++ B = P ++ encB o (wid z) v ++ (row o F N N.length ++ B) := by simp
    rw [e2] at h2
    rw [e1]
    have e3 : (P ++ encB o (wid z) v).length = P.length + wid z := by rw [List.length_append, encB_length]
    rw [e3] at h2
    simp only [nums, h1, h2]
    simp
theorem row1_row (o z : Int) : ∀ (L : List Int), row1 o z L L.length = row o (List.replicate L.length z) L L.length := by
  intro L
  simp only [row1, row, List.flatMap_def]
  congr 1
  apply List.map_congr_left
  intro j hj
  rw [List.mem_range] at hj
  rw [show (List.replicate L.length z).getD j 0 = z by simp [List.getD_eq_getElem?_getD, hj]]
theorem rowFit_all (z : Int) (L : List Int) (h : rowFit z L L.length = true) : allFit (List.replicate L.length z) L L.length = true := by
  unfold allFit
  unfold rowFit at h
  rw [List.all_eq_true] at h ⊢
  intro j hj
  have hj' := List.mem_range.1 hj
  rw [show (List.replicate L.length z).getD j 0 = z by simp [List.getD_eq_getElem?_getD, hj']]
  exact h j hj
/-- What fits, part by part. -/
structure FitsR (f : Fm) (x : Fd) : Prop where
  n : x.N.length = f.F.length
  a : allFit f.F x.N x.N.length = true
  b : f.B = true ∨ x.B = []
  bl : x.B.length ≤ 65536
  l : f.L ≠ 0 ∨ x.L = []
  ll : x.L.length ≤ 65536
  r : rowFit f.L x.L x.L.length = true
theorem fitsE_parts {f : Fm} {x : Fd} (h : fitsE f x = 0) : FitsR f x := by
  unfold fitsE at h
  split at h
  · exact absurd h (by decide)
  rename_i h1
  split at h
  · exact absurd h (by decide)
  rename_i h2
  split at h
  · exact absurd h (by decide)
  rename_i h3
  split at h
  · exact absurd h (by decide)
  rename_i h4
  split at h
  · exact absurd h (by decide)
  rename_i h5
  split at h
  · exact absurd h (by decide)
  rename_i h6
  split at h
  · exact absurd h (by decide)
  rename_i h7
  refine ⟨by simp at h1; omega, by simpa using h2, ?_, by simp at h4; omega, ?_, by simp at h6; omega, by simpa using h7⟩
  · cases hb : f.B
    · right
      rw [hb] at h3
      simpa using h3
    · exact .inl rfl
  · rcases Decidable.em (f.L = 0) with hl | hl
    · right
      rw [hl] at h5
      simp at h5
      exact List.eq_nil_of_length_eq_zero (by simpa using h5)
    · exact .inl hl
theorem putS4 {o : Int} {n : Nat} (h : n ≤ 65536) : fitsN 4 (n : Int) = true ∧ putS o 4 (n : Int) = encB o (wid 4) (n : Int) := by
  have hf : fitsN 4 (n : Int) = true := by simp [fitsN, low, high]; omega
  exact ⟨hf, by rw [putS, if_pos hf]⟩
/-- The text, taken where it was put. -/
theorem stB_at {o : Int} (ho : isOrder o) (P t B : List UInt8) (ht : t.length ≤ 65536) :
    stB o (p1 (P ++ putS o 4 t.length ++ t) ++ B) true ⟨P.length, 0⟩ = (true, t, ⟨(p1 (P ++ putS o 4 t.length ++ t)).length, 0⟩) := by
  obtain ⟨hf, hp⟩ := putS4 (o := o) ht
  have hz : isSize 4 := by unfold isSize; omega
  have hw : wid 4 = 4 := rfl
  have he := encB_length o (wid 4) (t.length : Int)
  have e1 : p1 (P ++ putS o 4 t.length ++ t) ++ B = P ++ encB o (wid 4) (t.length : Int) ++ (t ++ (zeros (padN (P ++ putS o 4 t.length ++ t).length) ++ B)) := by
    rw [p1, hp]; simp only [List.append_assoc]
  have hn := num_at ho hz hf P (t ++ (zeros (padN (P ++ putS o 4 t.length ++ t).length) ++ B))
  have hfl := fil_p1 (P ++ putS o 4 t.length ++ t) B
  rw [← e1] at hn
  rw [stB, if_pos rfl, hn]
  simp only [if_true]
  have hlen : (p1 (P ++ putS o 4 t.length ++ t) ++ B).length = P.length + wid 4 + (t.length + (padN (P ++ putS o 4 t.length ++ t).length + B.length)) := by
    rw [e1]; simp only [List.length_append, he, zeros, List.length_replicate]
  rw [if_neg (by rw [hlen]; omega)]
  have hd : (p1 (P ++ putS o 4 t.length ++ t) ++ B).drop (P.length + wid 4) = t ++ (zeros (padN (P ++ putS o 4 t.length ++ t).length) ++ B) := by
    rw [e1]
    exact List.drop_left' (by rw [List.length_append, he])
  have hl2 : (P ++ putS o 4 t.length ++ t).length = P.length + wid 4 + t.length := by rw [hp]; simp only [List.length_append, he]
  rw [hl2] at hfl
  rw [hd, Int.toNat_natCast, List.take_left, hfl]
theorem row_len {o : Int} {z : Int} : ∀ (L : List Int), allFit (List.replicate L.length z) L L.length = true → (row o (List.replicate L.length z) L L.length).length = L.length * wid z
  | [], _ => by simp [row]
  | v :: L, h => by
    rw [List.length_cons, List.replicate_succ, allFit_cons, Bool.and_eq_true] at h
    rw [List.length_cons, List.replicate_succ, row_cons, List.length_append, row_len L h.2, putS, if_pos h.1, encB_length, Nat.succ_mul]
    omega
/-- The row, taken where it was put. -/
theorem stL_at {o : Int} (ho : isOrder o) {z : Int} (hz : isSize z) (P : List UInt8) (L : List Int) (hL : L.length ≤ 65536) (hf : rowFit z L L.length = true) :
    stL o (p1 (P ++ putS o 4 L.length ++ row1 o z L L.length)) z ⟨P.length, 0⟩ = (L, ⟨(p1 (P ++ putS o 4 L.length ++ row1 o z L L.length)).length, 0⟩) := by
  obtain ⟨hf4, hp⟩ := putS4 (o := o) hL
  have hz4 : isSize 4 := by unfold isSize; omega
  have hz0 : ¬ z = 0 := by rcases hz with rfl | rfl | rfl | rfl | rfl | rfl <;> decide
  have he := encB_length o (wid 4) (L.length : Int)
  have hr := row1_row o z L
  have hall := rowFit_all z L hf
  have hnr := nums_row ho (List.replicate L.length z) L (P ++ putS o 4 L.length) (zeros (padN (P ++ putS o 4 L.length ++ row1 o z L L.length).length)) (by simp) (fun y hy => by rw [List.eq_of_mem_replicate hy]; exact hz) hall
  rw [← hr] at hnr
  have hfl := fil_p1 (P ++ putS o 4 L.length ++ row1 o z L L.length) []
  rw [List.append_nil] at hfl
  have e1 : p1 (P ++ putS o 4 L.length ++ row1 o z L L.length) = P ++ encB o (wid 4) (L.length : Int) ++ (row1 o z L L.length ++ zeros (padN (P ++ putS o 4 L.length ++ row1 o z L L.length).length)) := by
    rw [p1, hp]; simp only [List.append_assoc]
  have hn := num_at ho hz4 hf4 P (row1 o z L L.length ++ zeros (padN (P ++ putS o 4 L.length ++ row1 o z L L.length).length))
  rw [← e1] at hn
  rw [show P ++ putS o 4 ↑L.length ++ row1 o z L L.length ++ zeros (padN (P ++ putS o 4 ↑L.length ++ row1 o z L L.length).length) = p1 (P ++ putS o 4 L.length ++ row1 o z L L.length) from rfl] at hnr
  rw [show (P ++ putS o 4 (L.length : Int)).length = P.length + wid 4 by rw [hp, List.length_append, he]] at hnr
  rw [stL, if_neg hz0, hn]
  simp only [if_true, Int.toNat_natCast]
  have hrl := row_len (o := o) L hall
  rw [← hr] at hrl
  have hlen : (p1 (P ++ putS o 4 L.length ++ row1 o z L L.length)).length = P.length + wid 4 + (L.length * wid z + padN (P ++ putS o 4 L.length ++ row1 o z L L.length).length) := by
    rw [e1]; simp only [List.length_append, he, zeros, List.length_replicate, hrl]
  have hm : (L.length : Int) * (wid z : Int) = ((L.length * wid z : Nat) : Int) := (Int.natCast_mul _ _).symm
  rw [hm, if_neg (by rw [hlen]; omega), hnr]
  simp only
  rw [hfl]
end Go.Proofs.Sh

/- What is put is got, and what is got is put. Plain. -/
set_option maxRecDepth 100000
namespace Go.Proofs.Sh
open Go.Pv
theorem p1_eq (l : List UInt8) : p1 l = l ++ zeros (padN l.length) := rfl
theorem stB_none {o : Int} {s : List UInt8} {c : Cu} : stB o s false c = (true, [], c) := by rw [stB, if_neg (by decide)]
theorem stL_none {o : Int} {s : List UInt8} {c : Cu} : stL o s 0 c = ([], c) := by rw [stL, if_pos rfl]
/-- The text of fields, taken where it was put. -/
theorem stB_fmt {o : Int} (ho : isOrder o) {f : Fm} {x : Fd} (h : FitsR f x) (B : List UInt8) :
    stB o (fmt2 o f x ++ B) f.B ⟨(fmt1 o f x).length, 0⟩ = (true, x.B, ⟨(fmt2 o f x).length, 0⟩) := by
  cases hb : f.B
  · have hx : x.B = [] := by rcases h.b with h1 | h1
                             · rw [hb] at h1; cases h1
                             · exact h1
    have h2 : fmt2 o f x = fmt1 o f x := by rw [fmt2, if_neg (by rw [hb]; decide)]
    rw [stB_none, hx, h2]
  · have h2 : fmt2 o f x = p1 (fmt1 o f x ++ putS o 4 x.B.length ++ x.B) := by rw [fmt2, if_pos hb]
    rw [h2]
    exact stB_at ho (fmt1 o f x) x.B B h.bl
theorem stL_fmt {o : Int} (ho : isOrder o) {f : Fm} (hf : f.Ok) {x : Fd} (h : FitsR f x) :
    stL o (fmt o f x) f.L ⟨(fmt2 o f x).length, 0⟩ = (x.L, ⟨(fmt o f x).length, 0⟩) := by
  rcases Decidable.em (f.L = 0) with hl | hl
  · have hx : x.L = [] := by rcases h.l with h1 | h1
                             · exact absurd hl h1
                             · exact h1
    have h2 : fmt o f x = fmt2 o f x := by rw [fmt, if_neg (by simp [hl])]
    rw [h2, hl, stL_none, hx]
  · have h2 : fmt o f x = p1 (fmt2 o f x ++ putS o 4 x.L.length ++ row1 o f.L x.L x.L.length) := by rw [fmt, if_pos (by simpa using hl)]
    have hz : isSize f.L := hf.l.resolve_left hl
    rw [h2]
    exact stL_at ho hz (fmt2 o f x) x.L h.ll h.r
theorem fmt2_ext (o : Int) (f : Fm) (x : Fd) : ∃ C, fmt2 o f x = fmt1 o f x ++ C := by
  unfold fmt2
  split
  · exact ⟨putS o 4 x.B.length ++ x.B ++ zeros (padN (fmt1 o f x ++ putS o 4 x.B.length ++ x.B).length), by rw [p1]; simp only [List.append_assoc]⟩
  · exact ⟨[], (List.append_nil _).symm⟩
theorem fmt_ext (o : Int) (f : Fm) (x : Fd) : ∃ C, fmt o f x = fmt2 o f x ++ C := by
  unfold fmt
  split
  · exact ⟨putS o 4 x.L.length ++ row1 o f.L x.L x.L.length ++ zeros (padN (fmt2 o f x ++ putS o 4 x.L.length ++ row1 o f.L x.L x.L.length).length), by rw [p1]; simp only [List.append_assoc]⟩
  · exact ⟨[], (List.append_nil _).symm⟩
/-- What is put is got. -/
theorem body_fmt {o : Int} (ho : isOrder o) {f : Fm} (hf : f.Ok) {x : Fd} (h : fitsE f x = 0) : body o (fmt o f x) f ⟨0, 0⟩ = (x, ⟨(fmt o f x).length, 0⟩) := by
  have hp := fitsE_parts h
  obtain ⟨C1, hC1⟩ := fmt2_ext o f x
  obtain ⟨C2, hC2⟩ := fmt_ext o f x
  have hn : nums o (fmt o f x) f.F ⟨0, 0⟩ = (x.N, ⟨(row o f.F x.N x.N.length).length, 0⟩) := by
    have := nums_row ho f.F x.N [] (zeros (padN (row o f.F x.N x.N.length).length) ++ (C1 ++ C2)) hp.n hf.s hp.a
    have e : [] ++ row o f.F x.N x.N.length ++ (zeros (padN (row o f.F x.N x.N.length).length) ++ (C1 ++ C2)) = fmt o f x := by
      rw [hC2, hC1, fmt1, p1]; simp only [List.append_assoc, List.nil_append]
    rw [e] at this
    exact this
  have hfl : fil (fmt o f x) ⟨(row o f.F x.N x.N.length).length, 0⟩ = ⟨(fmt1 o f x).length, 0⟩ := by
    have := fil_p1 (row o f.F x.N x.N.length) (C1 ++ C2)
    have e : p1 (row o f.F x.N x.N.length) ++ (C1 ++ C2) = fmt o f x := by
      rw [hC2, hC1, fmt1]; simp only [List.append_assoc]
    rw [e] at this
    exact this
  have hB := stB_fmt ho hp C2
  rw [← hC2] at hB
  have hL := stL_fmt ho hf hp
  unfold body
  simp only [hn, hfl, hB, hL, if_true]
theorem getF_fmt {o : Int} (ho : isOrder o) {f : Fm} (hf : f.Ok) {x : Fd} (h : fitsE f x = 0) (hl : (fmt o f x).length ≤ 65536) : getF o f (fmt o f x) = (x, 0) := by
  have hb := body_fmt ho hf h
  have hX : getX (fmt o f x) ⟨(fmt o f x).length, 0⟩ = 0 := by rw [getX, if_neg (by simp)]
  rw [getF, if_neg (by omega), hb]
  simp only [hX, if_true]
/-- Back: a number. -/
theorem num_back {o : Int} (ho : isOrder o) {z : Int} (hz : isSize z) {s : List UInt8} {c : Cu} (h : (num o s z c).2.e = 0) :
    c.e = 0 ∧ (num o s z c).2.a ≤ s.length ∧ (num o s z c).2.a = c.a + wid z ∧ fitsN z (num o s z c).1 = true ∧ s.take (num o s z c).2.a = s.take c.a ++ putS o z (num o s z c).1 := by
  unfold num at h ⊢
  split at h
  · rename_i h0
    rw [if_pos h0]
    split at h
    · exact absurd h (by simp)
    · rename_i h1
      rw [if_neg h1]
      have hb : ((s.drop c.a).take (wid z)).length = wid z := by simp; omega
      have hfit := fits_read (o := o) hz hb
      refine ⟨h0, by simp only; omega, rfl, hfit, ?_⟩
      simp only [putS, if_pos hfit, enc_read ho hz hb, List.take_add]
  · rename_i h0
    exact absurd h h0
theorem nums_back {o : Int} (ho : isOrder o) {s : List UInt8} : ∀ (F : List Int) {c : Cu}, (∀ z ∈ F, isSize z) → (nums o s F c).2.e = 0 → c.a ≤ s.length →
    c.e = 0 ∧ (nums o s F c).2.a ≤ s.length ∧ allFit F (nums o s F c).1 (nums o s F c).1.length = true ∧ s.take (nums o s F c).2.a = s.take c.a ++ row o F (nums o s F c).1 (nums o s F c).1.length
  | [], c, _, h, ha => ⟨h, ha, by simp [nums, allFit], by simp [nums, row]⟩
  | z :: F, c, hs, h, ha => by
    have h' : (nums o s F (num o s z c).2).2.e = 0 := h
    obtain ⟨h1, h2, h3, h4⟩ := nums_back ho F (fun y hy => hs y (List.mem_cons_of_mem _ hy)) h' (num_le ha)
    obtain ⟨g1, g2, g3, g4, g5⟩ := num_back ho (hs z (List.mem_cons_self ..)) h1
    refine ⟨g1, h2, ?_, ?_⟩
    · show allFit (z :: F) ((num o s z c).1 :: (nums o s F (num o s z c).2).1) ((nums o s F (num o s z c).2).1.length + 1) = true
      rw [allFit_cons, g4, h3]; rfl
    · show s.take (nums o s F (num o s z c).2).2.a = s.take c.a ++ row o (z :: F) ((num o s z c).1 :: (nums o s F (num o s z c).2).1) ((nums o s F (num o s z c).2).1.length + 1)
      rw [row_cons, h4, g5, List.append_assoc]
theorem filP_back {s : List UInt8} : ∀ (k a : Nat), a ≤ s.length → (filP s k a).e = 0 → (filP s k a).a = a + k ∧ a + k ≤ s.length ∧ s.take (a + k) = s.take a ++ zeros k
  | 0, a, ha, _ => ⟨rfl, ha, by simp [zeros]⟩
  | k + 1, a, ha, h => by
    unfold filP at h ⊢
    split at h
    · exact absurd h (by simp)
    · rename_i h1
      split at h
      · rename_i h2
        obtain ⟨g1, g2, g3⟩ := filP_back k (a + 1) (by omega) h
        rw [if_neg h1, if_pos h2]
        refine ⟨by rw [g1]; omega, by omega, ?_⟩
        rw [show a + (k + 1) = a + 1 + k by omega, g3]
        have hlt : a < s.length := by omega
        rw [List.take_add_one, List.getElem?_eq_getElem hlt]
        have h3 : s[a] = 0 := by
          rw [List.getD_eq_getElem?_getD, List.getElem?_eq_getElem hlt] at h2; exact h2
        rw [h3]
        simp [zeros, List.replicate_succ]
      · exact absurd h (by simp)
theorem fil_back {s : List UInt8} {c : Cu} (ha : c.a ≤ s.length) (h : (fil s c).e = 0) : c.e = 0 ∧ (fil s c).a ≤ s.length ∧ s.take (fil s c).a = p1 (s.take c.a) := by
  unfold fil at h ⊢
  split at h
  · rename_i h0
    rw [if_pos h0]
    obtain ⟨g1, g2, g3⟩ := filP_back _ _ ha h
    refine ⟨h0, by rw [g1]; exact g2, ?_⟩
    rw [g1, g3, p1, List.length_take, Nat.min_eq_left ha]
  · rename_i h0
    exact absurd h h0
theorem stB_back {o : Int} (ho : isOrder o) {s : List UInt8} {b : Bool} {c : Cu} (ha : c.a ≤ s.length) (hs : s.length ≤ 65536) (h : (stB o s b c).2.2.e = 0) :
    c.e = 0 ∧ (stB o s b c).1 = true ∧ (stB o s b c).2.2.a ≤ s.length ∧ (b = true ∨ (stB o s b c).2.1 = []) ∧ (stB o s b c).2.1.length ≤ 65536 ∧
      s.take (stB o s b c).2.2.a = if b = true then p1 (s.take c.a ++ putS o 4 (stB o s b c).2.1.length ++ (stB o s b c).2.1) else s.take c.a := by
  cases b
  · rw [stB_none] at h ⊢
    exact ⟨h, rfl, ha, .inr rfl, by simp, rfl⟩
  · have h4 := num4 (s := s) ho c
    have hz4 : isSize 4 := by unfold isSize; omega
    unfold stB at h ⊢
    rw [if_pos rfl] at h ⊢
    split at h
    · rename_i h1
      rw [if_pos h1]
      obtain ⟨g1, g2, g3, g4, g5⟩ := num_back ho hz4 h1
      split at h
      · exact absurd h (by simp)
      · rename_i h2
        rw [if_neg h2]
        obtain ⟨n, hn⟩ := Int.eq_ofNat_of_zero_le h4.1
        have hlen : ((s.drop (num o s 4 c).2.a).take (num o s 4 c).1.toNat).length = n := by
          rw [hn]; rw [hn] at h2; simp; omega
        have hle : (num o s 4 c).2.a + (num o s 4 c).1.toNat ≤ s.length := by rw [hn]; rw [hn] at h2; simp; omega
        obtain ⟨k1, k2, k3⟩ := fil_back (c := ⟨(num o s 4 c).2.a + (num o s 4 c).1.toNat, 0⟩) hle h
        refine ⟨g1, rfl, k2, .inl rfl, by rw [hlen]; rw [hn] at hle; simp at hle; omega, ?_⟩
        simp only [if_true]
        rw [k3, hlen, List.take_add, g5]
        rw [hn]
        try rfl
    · rename_i h1
      exact absurd h h1
theorem allFit_rep (z : Int) (L : List Int) (h : allFit (List.replicate L.length z) L L.length = true) : rowFit z L L.length = true := by
  unfold allFit at h
  unfold rowFit
  rw [List.all_eq_true] at h ⊢
  intro j hj
  have hj' := List.mem_range.1 hj
  have := h j hj
  rwa [show (List.replicate L.length z).getD j 0 = z by simp [List.getD_eq_getElem?_getD, hj']] at this
theorem stL_back {o : Int} (ho : isOrder o) {s : List UInt8} {z : Int} (hz : z = 0 ∨ isSize z) {c : Cu} (ha : c.a ≤ s.length) (hs : s.length ≤ 65536) (h : (stL o s z c).2.e = 0) :
    c.e = 0 ∧ (stL o s z c).2.a ≤ s.length ∧ (z ≠ 0 ∨ (stL o s z c).1 = []) ∧ (stL o s z c).1.length ≤ 65536 ∧ rowFit z (stL o s z c).1 (stL o s z c).1.length = true ∧
      s.take (stL o s z c).2.a = if (z != 0) = true then p1 (s.take c.a ++ putS o 4 (stL o s z c).1.length ++ row1 o z (stL o s z c).1 (stL o s z c).1.length) else s.take c.a := by
  rcases Decidable.em (z = 0) with rfl | hz0
  · rw [stL_none] at h ⊢
    exact ⟨h, ha, .inr rfl, by simp, by simp [rowFit], rfl⟩
  · have hzs := hz.resolve_left hz0
    have hw := wid_pos hzs
    have h4 := num4 (s := s) ho c
    have hz4 : isSize 4 := by unfold isSize; omega
    unfold stL at h ⊢
    rw [if_neg hz0] at h ⊢
    split at h
    · rename_i h1
      rw [if_pos h1]
      obtain ⟨g1, g2, g3, g4, g5⟩ := num_back ho hz4 h1
      split at h
      · exact absurd h (by simp)
      · rename_i h2
        rw [if_neg h2]
        obtain ⟨n, hn⟩ := Int.eq_ofNat_of_zero_le h4.1
        have hlen := nums_length (o := o) (s := s) (List.replicate (num o s 4 c).1.toNat z) (num o s 4 c).2
        rw [List.length_replicate] at hlen
        have hnn : (num o s 4 c).1.toNat = n := by rw [hn]; rfl
        rw [hnn] at h hlen
        have hle : (nums o s (List.replicate n z) (num o s 4 c).2).2.a ≤ s.length := nums_le _ g2
        obtain ⟨k1, k2, k3⟩ := fil_back hle h
        obtain ⟨q1, q2, q3, q4⟩ := nums_back ho (List.replicate n z) (fun y hy => by rw [List.eq_of_mem_replicate hy]; exact hzs) k1 g2
        rw [hnn]
        have hnl : n ≤ 65536 := by
          rw [hn] at h2
          have : (n : Int) ≤ (n : Int) * (wid z : Int) := by
            have := Int.mul_le_mul_of_nonneg_left (show (1 : Int) ≤ (wid z : Int) by omega) (Int.natCast_nonneg n)
            omega
          try simp only [Int.ofNat_eq_natCast] at h2
          omega
        rw [hlen] at q3 q4
        have hr : List.replicate n z = List.replicate (nums o s (List.replicate n z) (num o s 4 c).2).1.length z := by rw [hlen]
        refine ⟨g1, k2, .inl hz0, by rw [hlen]; exact hnl, ?_, ?_⟩
        · apply allFit_rep
          rw [hlen]; exact q3
        · rw [if_pos (by simpa using hz0), k3, q4, g5, hlen]
          rw [hn]
          congr 2
          have := row1_row o z (nums o s (List.replicate n z) (num o s 4 c).2).1
          rw [hlen] at this
          exact this.symm
    · rename_i h1
      exact absurd h h1
/-- What is got is put as just these bytes. -/
theorem body_back {o : Int} (ho : isOrder o) {f : Fm} (hf : f.Ok) {s : List UInt8} (hs : s.length ≤ 65536) {x : Fd} {c : Cu} (h : body o s f ⟨0, 0⟩ = (x, c)) (he : c.e = 0) :
    c.a ≤ s.length ∧ s.take c.a = fmt o f x ∧ fitsE f x = 0 := by
  unfold body at h
  split at h
  · rename_i h1
    obtain ⟨rfl, rfl⟩ := Prod.mk.inj h
    have a0 : (0 : Nat) ≤ s.length := Nat.zero_le _
    have a1 : (fil s (nums o s f.F ⟨0, 0⟩).2).a ≤ s.length := fil_le (nums_le f.F (c := ⟨0, 0⟩) a0)
    have a2 : (stB o s f.B (fil s (nums o s f.F ⟨0, 0⟩).2)).2.2.a ≤ s.length := by
      have : ∀ b (c : Cu), c.a ≤ s.length → (stB o s b c).2.2.a ≤ s.length := by
        intro b c hc
        cases b
        · rw [stB_none]; exact hc
        · have h4 := num4 (s := s) ho c
          unfold stB
          rw [if_pos rfl]
          split
          · split
            · exact num_le hc
            · rename_i h2
              have := num_le (o := o) (z := 4) hc
              exact fil_le (by simp only; omega)
          · exact num_le hc
      exact this _ _ a1
    obtain ⟨l1, l2, l3, l4, l5, l6⟩ := stL_back ho hf.l a2 hs he
    obtain ⟨b1, b2, b3, b4, b5, b6⟩ := stB_back ho a1 hs l1
    obtain ⟨f1, f2, f3⟩ := fil_back (nums_le f.F (c := ⟨0, 0⟩) a0) b1
    obtain ⟨n1, n2, n3, n4⟩ := nums_back ho f.F (c := ⟨0, 0⟩) hf.s f1 a0
    have hN := nums_length (o := o) (s := s) f.F ⟨0, 0⟩
    rw [List.take_zero, List.nil_append] at n4
    refine ⟨l2, ?_, ?_⟩
    · rw [l6, b6, f3, n4]
      rfl
    · generalize (nums o s f.F ⟨0, 0⟩).1 = N at *
      generalize (stL o s f.L (stB o s f.B (fil s (nums o s f.F ⟨0, 0⟩).2)).2.2).1 = L at *
      generalize (stB o s f.B (fil s (nums o s f.F ⟨0, 0⟩).2)).2.1 = B at *
      unfold fitsE
      rw [if_neg (by simp [hN]), if_neg (by rw [n3]; decide), if_neg (by rcases b4 with h | h <;> simp [h]), if_neg (by simp; omega), if_neg (by rcases l3 with h | h <;> simp [h]), if_neg (by simp; omega), if_neg (by rw [l5]; decide)]
  · rename_i h1
    obtain ⟨rfl, rfl⟩ := Prod.mk.inj h
    have a1 : (fil s (nums o s f.F ⟨0, 0⟩).2).a ≤ s.length := fil_le (nums_le f.F (c := ⟨0, 0⟩) (Nat.zero_le _))
    exact absurd (stB_back ho a1 hs he).2.1 h1
theorem getF_back {o : Int} (ho : isOrder o) {f : Fm} (hf : f.Ok) {s : List UInt8} (h : (getF o f s).2 = 0) : fmt o f (getF o f s).1 = s ∧ fitsE f (getF o f s).1 = 0 := by
  unfold getF at h ⊢
  split at h
  · exact absurd h (by decide)
  · rename_i h1
    rw [if_neg h1]
    split at h
    · rename_i h2
      rw [if_pos h2]
      cases hb : body o s f ⟨0, 0⟩ with
      | mk x c =>
        rw [hb] at h2
        unfold getX at h2
        split at h2
        · exact absurd h2 (by decide)
        · rename_i h3
          obtain ⟨g1, g2, g3⟩ := body_back ho hf (by omega) hb h2
          refine ⟨?_, g3⟩
          rw [← g2]
          apply List.take_of_length_le
          have : ¬ c.a < s.length := fun h4 => h3 ⟨h2, h4⟩
          omega
    · rename_i h2
      exact absurd h h2
end Go.Proofs.Sh

/- Package tell: Put, Check. -/
set_option maxRecDepth 100000
set_option linter.unusedSimpArgs false
set_option linter.unusedVariables false
namespace Go.Proofs.Sh
open Go.Pv

/-- A message. -/
structure Ot where
  K : Int
  C : Int
  Q : Int
  N : List Int
  B : List UInt8
  L : List Int
def Ot.fd (r : Ot) : Fd := ⟨r.N, r.B, r.L⟩
def Ot.pv (r : Ot) : PV := .agg [.int .i64 r.K, .int .i64 r.C, .int .i64 r.Q, .sl 1 (ints r.N), .str r.B, .sl 1 (ints r.L)]
structure Ot.Few (r : Ot) : Prop where
  n : r.N.length ≤ 1000000
  b : r.B.length ≤ 1000000
  l : r.L.length ≤ 1000000
def isOrd (o : Int) : Bool := o == 0 || o == 1
theorem isOrd_of {o : Int} (h : isOrd o = true) : isOrder o := by simpa [isOrd, isOrder] using h
def mErr (k : Int) : Int := if k = 0 ∨ k = 1 ∨ k = 2 then 6 else 10
def fault0 : Fm := ⟨[-4, 1], false, 0⟩
/-- A message's form, by its kind and code. -/
def mForm (k n : Int) : Option Fm :=
  if k = 0 then (if 1 ≤ n ∧ n ≤ 255 then some fault0 else none) else if k = 1 then replyOf n else if k = 2 then eventOf n else none
def mFormR (k n : Int) : PV := match mForm k n with
  | some f => .tup [f.pv, .int .i64 0]
  | none => .tup [.agg [.sl 1 [], .bool false, .int .i64 0], .int .i64 (mErr k)]
theorem mFormR_some {k n : Int} {f : Fm} (h : mForm k n = some f) : mFormR k n = .tup [f.pv, .int .i64 0] := by rw [mFormR, h]
theorem mFormR_none {k n : Int} (h : mForm k n = none) : mFormR k n = .tup [.agg [.sl 1 [], .bool false, .int .i64 0], .int .i64 (mErr k)] := by rw [mFormR, h]
theorem mForm_some {k n : Int} {f : Fm} (h : mForm k n = some f) : f.Ok ∧ 0 ≤ k ∧ k ≤ 2 ∧ 1 ≤ n ∧ n ≤ 255 := by
  unfold mForm at h
  split at h
  · split at h
    · cases h
      exact ⟨⟨by decide, fun x hx => by (simp [fault0] at hx; unfold isSize; omega), .inl rfl⟩, by omega, by omega, by omega, by omega⟩
    · cases h
  · split at h
    · obtain ⟨h1, h2, h3⟩ := replyOf_some h
      exact ⟨h1, by omega, by omega, by omega, by omega⟩
    · split at h
      · obtain ⟨h1, h2, h3⟩ := eventOf_some h
        exact ⟨h1, by omega, by omega, by omega, by omega⟩
      · cases h
set_option maxHeartbeats 2000000 in
theorem mform_fs (k n : Int) : Fsp Tryd.prog 23 [] 0 [.int .i64 k, .int .i64 n] [] 0 (mFormR k n) := by
  cases h0 : (k == 0)
  · have h0' : ¬ k = 0 := by simpa using h0
    cases h1 : (k == 1)
    · have h1' : ¬ k = 1 := by simpa using h1
      cases h2 : (k == 2)
      · have h2' : ¬ k = 2 := by simpa using h2
        rw [mFormR_none (by rw [mForm, if_neg h0', if_neg h1', if_neg h2']), show mErr k = 10 by rw [mErr, if_neg (by omega)]]
        (refine Fsp.of (nx := 0) mixed Tryd.func23 rfl (by decide) (by first | exact Nat.le_refl _ | simp) (by simp [Tryd.f23]) ⟨by decide, by decide⟩ ?_; simp -implicitDefEqProofs only [push_cast, Tryd.f23, h0, h1, h2, Int.reduceBEq, Int.reduceBNe, Int.reduceEq, Int.reduceNe, Int.reducePow, Nat.reduceAdd, Nat.reduceMul, Nat.reduceSub, Nat.reduceLT, Nat.reduceLeDiff, Nat.reduceEqDiff, Nat.reduceBEq, Int.reduceLT, Int.reduceLE, Int.reduceAdd, Int.reduceSub, Int.reduceMul, Int.reduceToNat, Int.reduceNeg, reduceIte, reduceCtorEq, reduceBEq])
        all_goals first | done | exact ⟨_, rfl, by simp [wkL, res2, res1, PV.weak, PV.el, ints]⟩ | simp [wkL, res2, res1, PV.weak, PV.el, ints]
      · obtain rfl : k = 2 := by simpa using h2
        have hq := event_fs n
        have hm : mForm 2 n = eventOf n := by rw [mForm, if_neg h0', if_neg h1', if_pos rfl]
        cases hf : eventOf n with
        | none =>
          rw [hf] at hq
          simp only [optT, form0] at hq
          rw [mFormR_none (by rw [hm, hf]), show mErr 2 = 6 by decide]
          (refine Fsp.of (nx := 0) mixed Tryd.func23 rfl (by decide) (by first | exact Nat.le_refl _ | simp) (by simp [Tryd.f23]) ⟨by decide, by decide⟩ ?_; simp -implicitDefEqProofs only [push_cast, Tryd.f23, h0, h1, h2, Int.reduceBEq, Int.reduceBNe, Int.reduceEq, Int.reduceNe, Int.reducePow, Nat.reduceAdd, Nat.reduceMul, Nat.reduceSub, Nat.reduceLT, Nat.reduceLeDiff, Nat.reduceEqDiff, Nat.reduceBEq, Int.reduceLT, Int.reduceLE, Int.reduceAdd, Int.reduceSub, Int.reduceMul, Int.reduceToNat, Int.reduceNeg, reduceIte, reduceCtorEq, reduceBEq])
          refine callE_pure hq (by rfl) (by rfl) (by rfl) (by decide) (by rfl) (fun _ => by rfl) (by first | rfl | simp [gdOk, newToks]) ?_
          simp -implicitDefEqProofs only [push_cast, Int.reduceBEq, Int.reduceBNe, Int.reduceEq, Int.reduceNe, Int.reducePow, Nat.reduceAdd, Nat.reduceMul, Nat.reduceSub, Nat.reduceLT, Nat.reduceLeDiff, Nat.reduceEqDiff, Nat.reduceBEq, Int.reduceLT, Int.reduceLE, Int.reduceAdd, Int.reduceSub, Int.reduceMul, Int.reduceToNat, Int.reduceNeg, reduceIte, reduceCtorEq, reduceBEq]
          all_goals first | done | exact ⟨_, rfl, by simp [wkL, res2, res1, PV.weak, PV.el, ints]⟩ | simp [wkL, res2, res1, PV.weak, PV.el, ints]
        | some f =>
          rw [hf] at hq
          simp only [optT, formT, Fm.pv] at hq
          rw [mFormR_some (by rw [hm, hf]), Fm.pv]
          (refine Fsp.of (nx := 0) mixed Tryd.func23 rfl (by decide) (by first | exact Nat.le_refl _ | simp) (by simp [Tryd.f23]) ⟨by decide, by decide⟩ ?_; simp -implicitDefEqProofs only [push_cast, Tryd.f23, h0, h1, h2, Int.reduceBEq, Int.reduceBNe, Int.reduceEq, Int.reduceNe, Int.reducePow, Nat.reduceAdd, Nat.reduceMul, Nat.reduceSub, Nat.reduceLT, Nat.reduceLeDiff, Nat.reduceEqDiff, Nat.reduceBEq, Int.reduceLT, Int.reduceLE, Int.reduceAdd, Int.reduceSub, Int.reduceMul, Int.reduceToNat, Int.reduceNeg, reduceIte, reduceCtorEq, reduceBEq])
          refine callE_pure hq (by rfl) (by rfl) (by rfl) (by decide) (by rfl) (fun _ => by rfl) (by first | rfl | simp [gdOk, newToks]) ?_
          simp -implicitDefEqProofs only [push_cast, Int.reduceBEq, Int.reduceBNe, Int.reduceEq, Int.reduceNe, Int.reducePow, Nat.reduceAdd, Nat.reduceMul, Nat.reduceSub, Nat.reduceLT, Nat.reduceLeDiff, Nat.reduceEqDiff, Nat.reduceBEq, Int.reduceLT, Int.reduceLE, Int.reduceAdd, Int.reduceSub, Int.reduceMul, Int.reduceToNat, Int.reduceNeg, reduceIte, reduceCtorEq, reduceBEq]
          all_goals first | done | exact ⟨_, rfl, by simp [wkL, res2, res1, PV.weak, PV.el, ints]⟩ | simp [wkL, res2, res1, PV.weak, PV.el, ints]
    · obtain rfl : k = 1 := by simpa using h1
      have hq := reply_fs n
      have hm : mForm 1 n = replyOf n := by rw [mForm, if_neg h0', if_pos rfl]
      cases hf : replyOf n with
      | none =>
        rw [hf] at hq
        simp only [optT, form0] at hq
        rw [mFormR_none (by rw [hm, hf]), show mErr 1 = 6 by decide]
        (refine Fsp.of (nx := 0) mixed Tryd.func23 rfl (by decide) (by first | exact Nat.le_refl _ | simp) (by simp [Tryd.f23]) ⟨by decide, by decide⟩ ?_; simp -implicitDefEqProofs only [push_cast, Tryd.f23, h0, h1, Int.reduceBEq, Int.reduceBNe, Int.reduceEq, Int.reduceNe, Int.reducePow, Nat.reduceAdd, Nat.reduceMul, Nat.reduceSub, Nat.reduceLT, Nat.reduceLeDiff, Nat.reduceEqDiff, Nat.reduceBEq, Int.reduceLT, Int.reduceLE, Int.reduceAdd, Int.reduceSub, Int.reduceMul, Int.reduceToNat, Int.reduceNeg, reduceIte, reduceCtorEq, reduceBEq])
        refine callE_pure hq (by rfl) (by rfl) (by rfl) (by decide) (by rfl) (fun _ => by rfl) (by first | rfl | simp [gdOk, newToks]) ?_
        simp -implicitDefEqProofs only [push_cast, Int.reduceBEq, Int.reduceBNe, Int.reduceEq, Int.reduceNe, Int.reducePow, Nat.reduceAdd, Nat.reduceMul, Nat.reduceSub, Nat.reduceLT, Nat.reduceLeDiff, Nat.reduceEqDiff, Nat.reduceBEq, Int.reduceLT, Int.reduceLE, Int.reduceAdd, Int.reduceSub, Int.reduceMul, Int.reduceToNat, Int.reduceNeg, reduceIte, reduceCtorEq, reduceBEq]
        all_goals first | done | exact ⟨_, rfl, by simp [wkL, res2, res1, PV.weak, PV.el, ints]⟩ | simp [wkL, res2, res1, PV.weak, PV.el, ints]
      | some f =>
        rw [hf] at hq
        simp only [optT, formT, Fm.pv] at hq
        rw [mFormR_some (by rw [hm, hf]), Fm.pv]
        (refine Fsp.of (nx := 0) mixed Tryd.func23 rfl (by decide) (by first | exact Nat.le_refl _ | simp) (by simp [Tryd.f23]) ⟨by decide, by decide⟩ ?_; simp -implicitDefEqProofs only [push_cast, Tryd.f23, h0, h1, Int.reduceBEq, Int.reduceBNe, Int.reduceEq, Int.reduceNe, Int.reducePow, Nat.reduceAdd, Nat.reduceMul, Nat.reduceSub, Nat.reduceLT, Nat.reduceLeDiff, Nat.reduceEqDiff, Nat.reduceBEq, Int.reduceLT, Int.reduceLE, Int.reduceAdd, Int.reduceSub, Int.reduceMul, Int.reduceToNat, Int.reduceNeg, reduceIte, reduceCtorEq, reduceBEq])
        refine callE_pure hq (by rfl) (by rfl) (by rfl) (by decide) (by rfl) (fun _ => by rfl) (by first | rfl | simp [gdOk, newToks]) ?_
        simp -implicitDefEqProofs only [push_cast, Int.reduceBEq, Int.reduceBNe, Int.reduceEq, Int.reduceNe, Int.reducePow, Nat.reduceAdd, Nat.reduceMul, Nat.reduceSub, Nat.reduceLT, Nat.reduceLeDiff, Nat.reduceEqDiff, Nat.reduceBEq, Int.reduceLT, Int.reduceLE, Int.reduceAdd, Int.reduceSub, Int.reduceMul, Int.reduceToNat, Int.reduceNeg, reduceIte, reduceCtorEq, reduceBEq]
        all_goals first | done | exact ⟨_, rfl, by simp [wkL, res2, res1, PV.weak, PV.el, ints]⟩ | simp [wkL, res2, res1, PV.weak, PV.el, ints]
  · obtain rfl : k = 0 := by simpa using h0
    by_cases hn : 1 ≤ n ∧ n ≤ 255
    · have hd1 : decide (n < 1) = false := by simp; omega
      have hd2 : decide (255 < n) = false := by simp; omega
      have hd3 : decide (1 ≤ n) = true := by simp; omega
      have hd4 : decide (n ≤ 255) = true := by simp; omega
      rw [mFormR_some (f := fault0) (by rw [mForm, if_pos rfl, if_pos hn]), Fm.pv, fault0]
      (refine Fsp.of (nx := 0) mixed Tryd.func23 rfl (by decide) (by first | exact Nat.le_refl _ | simp) (by simp [Tryd.f23]) ⟨by decide, by decide⟩ ?_; simp -implicitDefEqProofs only [push_cast, Tryd.f23, hd1, hd2, hd3, hd4, Int.reduceBEq, Int.reduceBNe, Int.reduceEq, Int.reduceNe, Int.reducePow, Nat.reduceAdd, Nat.reduceMul, Nat.reduceSub, Nat.reduceLT, Nat.reduceLeDiff, Nat.reduceEqDiff, Nat.reduceBEq, Int.reduceLT, Int.reduceLE, Int.reduceAdd, Int.reduceSub, Int.reduceMul, Int.reduceToNat, Int.reduceNeg, reduceIte, reduceCtorEq, reduceBEq])
      all_goals first | done | exact ⟨_, rfl, by simp [wkL, res2, res1, PV.weak, PV.el, ints]⟩ | simp [wkL, res2, res1, PV.weak, PV.el, ints]
    · rw [mFormR_none (by rw [mForm, if_pos rfl, if_neg hn]), show mErr 0 = 6 by decide]
      rcases Int.lt_or_le n 1 with h1 | h1
      · have hd1 : decide (1 ≤ n) = false := by simp; omega
        have hd2 : decide (n < 1) = true := by simp; omega
        (refine Fsp.of (nx := 0) mixed Tryd.func23 rfl (by decide) (by first | exact Nat.le_refl _ | simp) (by simp [Tryd.f23]) ⟨by decide, by decide⟩ ?_; simp -implicitDefEqProofs only [push_cast, Tryd.f23, hd1, hd2, Int.reduceBEq, Int.reduceBNe, Int.reduceEq, Int.reduceNe, Int.reducePow, Nat.reduceAdd, Nat.reduceMul, Nat.reduceSub, Nat.reduceLT, Nat.reduceLeDiff, Nat.reduceEqDiff, Nat.reduceBEq, Int.reduceLT, Int.reduceLE, Int.reduceAdd, Int.reduceSub, Int.reduceMul, Int.reduceToNat, Int.reduceNeg, reduceIte, reduceCtorEq, reduceBEq])
        all_goals first | done | exact ⟨_, rfl, by simp [wkL, res2, res1, PV.weak, PV.el, ints]⟩ | simp [wkL, res2, res1, PV.weak, PV.el, ints]
      · have hd1 : decide (1 ≤ n) = true := by simp; omega
        have hd2 : decide (n < 1) = false := by simp; omega
        have hd3 : decide (n ≤ 255) = false := by simp; omega
        have hd4 : decide (255 < n) = true := by simp; omega
        (refine Fsp.of (nx := 0) mixed Tryd.func23 rfl (by decide) (by first | exact Nat.le_refl _ | simp) (by simp [Tryd.f23]) ⟨by decide, by decide⟩ ?_; simp -implicitDefEqProofs only [push_cast, Tryd.f23, hd1, hd2, hd3, hd4, Int.reduceBEq, Int.reduceBNe, Int.reduceEq, Int.reduceNe, Int.reducePow, Nat.reduceAdd, Nat.reduceMul, Nat.reduceSub, Nat.reduceLT, Nat.reduceLeDiff, Nat.reduceEqDiff, Nat.reduceBEq, Int.reduceLT, Int.reduceLE, Int.reduceAdd, Int.reduceSub, Int.reduceMul, Int.reduceToNat, Int.reduceNeg, reduceIte, reduceCtorEq, reduceBEq])
        all_goals first | done | exact ⟨_, rfl, by simp [wkL, res2, res1, PV.weak, PV.el, ints]⟩ | simp [wkL, res2, res1, PV.weak, PV.el, ints]
/-- What stands ahead of the fields. -/
def thd (o K C Q : Int) (n : Nat) : List UInt8 := encB o 1 K ++ encB o 1 C ++ encB o 2 Q ++ encB o 4 (n : Int)
def tellQ (o : Int) (r : Ot) (f : Fm) : List UInt8 × Int :=
  if r.Q < 0 ∨ 1099511627776 < r.Q then ([], 22)
  else if (fitsE f r.fd != 0) = true then ([], fitsE f r.fd)
  else if decide ((65536 : Int) < (fmt o f r.fd).length) = true then ([], 4)
  else (thd o r.K r.C (r.Q % 65536) ((fmt o f r.fd).length / 4 + 2) ++ fmt o f r.fd, 0)
/-- A message's bytes, and what is wrong with it: in an order. -/
def tellP (o : Int) (r : Ot) : List UInt8 × Int :=
  match mForm r.K r.C with
  | none => ([], mErr r.K)
  | some f => tellQ o r f
def tellS (o : Int) (r : Ot) : List UInt8 × Int := if isOrd o = true then tellP o r else ([], 8)
def tellPR (o : Int) (r : Ot) : PV := .tup [.str (tellP o r).1, .int .i64 (tellP o r).2]
def tellR (o : Int) (r : Ot) : PV := .tup [.str (tellS o r).1, .int .i64 (tellS o r).2]
theorem tellP_none {o : Int} {r : Ot} (h : mForm r.K r.C = none) : tellP o r = ([], mErr r.K) := by rw [tellP, h]
theorem tellP_some {o : Int} {r : Ot} {f : Fm} (h : mForm r.K r.C = some f) : tellP o r = tellQ o r f := by rw [tellP, h]
theorem putS_fits {o s : Int} {n : Int} (h : fitsN s n = true) : putS o s n = encB o (wid s) n ∧ putE s n = 0 := by
  rw [putS, putE, if_pos h, if_pos h]
  exact ⟨rfl, rfl⟩
theorem rowS_fits {o a b : Int} (ha : 0 ≤ a) (ha2 : a ≤ 255) (hb : 0 ≤ b) (hb2 : b ≤ 255) : rowS o a b = encB o 1 a ++ encB o 1 b ∧ rowE a b = 0 := by
  have hf : (fitsN 1 a && fitsN 1 b) = true := by simp [fitsN, low, high]; omega
  rw [rowS, rowE, if_pos hf, if_pos hf]
  exact ⟨rfl, rfl⟩
set_option maxHeartbeats 4000000 in
theorem tput_fs {o : Int} (hor : isOrder o) (r : Ot) (hr : r.Few) : Fsp Tryd.prog 31 [] 0 [.int .i64 o, r.pv] [] 0 (tellPR o r) := by
  have hq := mform_fs r.K r.C
  cases hf : mForm r.K r.C with
  | none =>
    rw [mFormR_none hf] at hq
    rw [tellPR, tellP_none hf]
    have he : (mErr r.K != 0) = true := by unfold mErr; split <;> rfl
    (refine Fsp.of (nx := 0) mixed Tryd.func31 rfl (by decide) (by first | exact Nat.le_refl _ | simp) (by simp [Tryd.f31]) ⟨by decide, by decide⟩ ?_; simp -implicitDefEqProofs only [push_cast, Tryd.f31, Ot.pv, Int.reduceBEq, Int.reduceBNe, Int.reduceEq, Int.reduceNe, Int.reducePow, Nat.reduceAdd, Nat.reduceMul, Nat.reduceSub, Nat.reduceLT, Nat.reduceLeDiff, Nat.reduceEqDiff, Nat.reduceBEq, Int.reduceLT, Int.reduceLE, Int.reduceAdd, Int.reduceSub, Int.reduceMul, Int.reduceToNat, Int.reduceNeg, reduceIte, reduceCtorEq, reduceBEq])
    refine callE_pure hq (by rfl) (by rfl) (by rfl) (by decide) (by rfl) (fun _ => by rfl) (by first | rfl | simp [gdOk, newToks]) ?_
    simp -implicitDefEqProofs only [push_cast, he, Int.reduceBEq, Int.reduceBNe, Int.reduceEq, Int.reduceNe, Int.reducePow, Nat.reduceAdd, Nat.reduceMul, Nat.reduceSub, Nat.reduceLT, Nat.reduceLeDiff, Nat.reduceEqDiff, Nat.reduceBEq, Int.reduceLT, Int.reduceLE, Int.reduceAdd, Int.reduceSub, Int.reduceMul, Int.reduceToNat, Int.reduceNeg, reduceIte, reduceCtorEq, reduceBEq]
    all_goals first | done | exact ⟨_, rfl, by simp [wkL, res2, res1, PV.weak, PV.el, ints]⟩ | simp [wkL, res2, res1, PV.weak, PV.el, ints]
  | some f =>
    rw [mFormR_some hf] at hq
    simp only [Fm.pv] at hq
    obtain ⟨hok, hk1, hk2, hc1, hc2⟩ := mForm_some hf
    rw [tellPR, tellP_some hf, tellQ]
    cases h1 : decide (r.Q < 0)
    · cases h2 : decide (1099511627776 < r.Q)
      · have h12 : ¬ (r.Q < 0 ∨ 1099511627776 < r.Q) := by simp at h1 h2; omega
        rw [if_neg h12]
        have hm := format_fs hor f hok r.fd hr.n hr.l hr.b
        simp only [Fm.pv, Fd.pv] at hm
        cases hE : (fitsE f r.fd != 0)
        · rw [if_neg Bool.false_ne_true]
          cases hM : decide ((65536 : Int) < (fmt o f r.fd).length)
          · rw [if_neg Bool.false_ne_true]
            rw [fmtR, if_neg (by rw [hE]; simp), if_neg (by rw [hM]; simp)] at hm
            have hfl : (fmt o f r.fd).length ≤ 65536 := by simp at hM; omega
            have hrw := row_fs hor r.K r.C
            rw [(rowS_fits (o := o) hk1 (by omega) (by omega) hc2).1, (rowS_fits (o := o) hk1 (by omega) (by omega) hc2).2] at hrw
            have hx2 : fitsN 2 (r.Q % 65536) = true := by simp [fitsN, low, high]; omega
            have hp2 := put_fs hor (s := 2) (by unfold isSize; omega) (r.Q % 65536)
            rw [(putS_fits (o := o) hx2).1, (putS_fits (o := o) hx2).2] at hp2
            have hmod := fmt_mod o f r.fd
            have hx4 : fitsN 4 (((fmt o f r.fd).length / 4 + 2 : Nat) : Int) = true := by simp [fitsN, low, high]; omega
            have hp4 := put_fs hor (s := 4) (by unfold isSize; omega) (((fmt o f r.fd).length / 4 + 2 : Nat) : Int)
            rw [(putS_fits (o := o) hx4).1, (putS_fits (o := o) hx4).2] at hp4
            have w1 : Int.tmod r.Q 65536 = r.Q % 65536 := Int.tmod_eq_emod_of_nonneg (by omega)
            have w2 : IntKind.i64.wrap (r.Q % 65536) = r.Q % 65536 := by rw [wrap_i64_id (by omega) (by omega)]
            have w3 : IntKind.i64.wrap (8 + ((fmt o f r.fd).length : Int)) = 8 + ((fmt o f r.fd).length : Int) := by rw [wrap_i64_id (by omega) (by omega)]
            have w4 : IntKind.i64.wrap (Int.tdiv (8 + ((fmt o f r.fd).length : Int)) 4) = (((fmt o f r.fd).length / 4 + 2 : Nat) : Int) := by
              rw [Int.tdiv_eq_ediv_of_nonneg (by omega), wrap_i64_id (by omega) (by omega)]; omega
            have l1 : (encB o 1 r.K ++ encB o 1 r.C).length = 2 := by simp [encB_length]
            have l2 : (encB o (wid 2) (r.Q % 65536)).length = 2 := encB_length ..
            have l3 : (encB o (wid 4) (((fmt o f r.fd).length / 4 + 2 : Nat) : Int)).length = 4 := encB_length ..
            rw [thd, show encB o 2 (r.Q % 65536) = encB o (wid 2) (r.Q % 65536) from rfl, show encB o 4 (((fmt o f r.fd).length / 4 + 2 : Nat) : Int) = encB o (wid 4) (((fmt o f r.fd).length / 4 + 2 : Nat) : Int) from rfl]
            generalize hH : encB o 1 r.K ++ encB o 1 r.C = H at *
            generalize hG : encB o (wid 2) (r.Q % 65536) = G at *
            generalize hI : encB o (wid 4) (((fmt o f r.fd).length / 4 + 2 : Nat) : Int) = I at *
            generalize hX : fmt o f r.fd = X at *
            have hq4 : (X.length / 4 + 2 : Nat) = (X.length / 4 + 2 : Nat) := rfl
            obtain ⟨nw, hnw⟩ : ∃ nw : Int, nw = ((X.length / 4 + 2 : Nat) : Int) := ⟨_, rfl⟩
            rw [← hnw] at w4 hp4
            obtain ⟨qw, hqw⟩ : ∃ qw : Int, qw = r.Q % 65536 := ⟨_, rfl⟩
            rw [← hqw] at w1 w2 hp2
            (refine Fsp.of (nx := 0) mixed Tryd.func31 rfl (by decide) (by first | exact Nat.le_refl _ | simp) (by simp [Tryd.f31]) ⟨by decide, by decide⟩ ?_; simp -implicitDefEqProofs only [push_cast, Tryd.f31, Ot.pv, Int.reduceBEq, Int.reduceBNe, Int.reduceEq, Int.reduceNe, Int.reducePow, Nat.reduceAdd, Nat.reduceMul, Nat.reduceSub, Nat.reduceLT, Nat.reduceLeDiff, Nat.reduceEqDiff, Nat.reduceBEq, Int.reduceLT, Int.reduceLE, Int.reduceAdd, Int.reduceSub, Int.reduceMul, Int.reduceToNat, Int.reduceNeg, reduceIte, reduceCtorEq, reduceBEq])
            refine callE_pure hq (by rfl) (by rfl) (by rfl) (by decide) (by rfl) (fun _ => by rfl) (by first | rfl | simp [gdOk, newToks]) ?_
            simp -implicitDefEqProofs only [push_cast, h1, h2, Int.reduceBEq, Int.reduceBNe, Int.reduceEq, Int.reduceNe, Int.reducePow, Nat.reduceAdd, Nat.reduceMul, Nat.reduceSub, Nat.reduceLT, Nat.reduceLeDiff, Nat.reduceEqDiff, Nat.reduceBEq, Int.reduceLT, Int.reduceLE, Int.reduceAdd, Int.reduceSub, Int.reduceMul, Int.reduceToNat, Int.reduceNeg, reduceIte, reduceCtorEq, reduceBEq]
            refine callE_pure hm (by rfl) (by rfl) (by rfl) (by decide) (by rfl) (fun _ => by rfl) (by first | rfl | simp [gdOk, newToks]) ?_
            simp -implicitDefEqProofs only [push_cast, Int.reduceBEq, Int.reduceBNe, Int.reduceEq, Int.reduceNe, Int.reducePow, Nat.reduceAdd, Nat.reduceMul, Nat.reduceSub, Nat.reduceLT, Nat.reduceLeDiff, Nat.reduceEqDiff, Nat.reduceBEq, Int.reduceLT, Int.reduceLE, Int.reduceAdd, Int.reduceSub, Int.reduceMul, Int.reduceToNat, Int.reduceNeg, reduceIte, reduceCtorEq, reduceBEq]
            refine callE_pure hrw (by rfl) (by rfl) (by rfl) (by decide) (by rfl) (fun _ => by rfl) (by first | rfl | simp [gdOk, newToks]) ?_
            simp -implicitDefEqProofs only [push_cast, w1, w2, Int.reduceBEq, Int.reduceBNe, Int.reduceEq, Int.reduceNe, Int.reducePow, Nat.reduceAdd, Nat.reduceMul, Nat.reduceSub, Nat.reduceLT, Nat.reduceLeDiff, Nat.reduceEqDiff, Nat.reduceBEq, Int.reduceLT, Int.reduceLE, Int.reduceAdd, Int.reduceSub, Int.reduceMul, Int.reduceToNat, Int.reduceNeg, reduceIte, reduceCtorEq, reduceBEq]
            refine callE_pure hp2 (by rfl) (by rfl) (by rfl) (by decide) (by rfl) (fun _ => by rfl) (by first | rfl | simp [gdOk, newToks]) ?_
            simp -implicitDefEqProofs only [push_cast, w3, w4, Int.reduceBEq, Int.reduceBNe, Int.reduceEq, Int.reduceNe, Int.reducePow, Nat.reduceAdd, Nat.reduceMul, Nat.reduceSub, Nat.reduceLT, Nat.reduceLeDiff, Nat.reduceEqDiff, Nat.reduceBEq, Int.reduceLT, Int.reduceLE, Int.reduceAdd, Int.reduceSub, Int.reduceMul, Int.reduceToNat, Int.reduceNeg, reduceIte, reduceCtorEq, reduceBEq]
            refine callE_pure hp4 (by rfl) (by rfl) (by rfl) (by decide) (by rfl) (fun _ => by rfl) (by first | rfl | simp [gdOk, newToks]) ?_
            simp -implicitDefEqProofs only [push_cast, Int.reduceBEq, Int.reduceBNe, Int.reduceEq, Int.reduceNe, Int.reducePow, Nat.reduceAdd, Nat.reduceMul, Nat.reduceSub, Nat.reduceLT, Nat.reduceLeDiff, Nat.reduceEqDiff, Nat.reduceBEq, Int.reduceLT, Int.reduceLE, Int.reduceAdd, Int.reduceSub, Int.reduceMul, Int.reduceToNat, Int.reduceNeg, reduceIte, reduceCtorEq, reduceBEq]
            (repeat (refine ⟨by first | omega | (simp only [List.length_append]; omega), ?_⟩))
            all_goals first | done | exact ⟨_, rfl, by simp [wkL, res2, res1, PV.weak, PV.el, ints]⟩ | simp [wkL, res2, res1, PV.weak, PV.el, ints]
          · rw [if_pos rfl]
            rw [fmtR, if_neg (by rw [hE]; simp), if_pos hM] at hm
            (refine Fsp.of (nx := 0) mixed Tryd.func31 rfl (by decide) (by first | exact Nat.le_refl _ | simp) (by simp [Tryd.f31]) ⟨by decide, by decide⟩ ?_; simp -implicitDefEqProofs only [push_cast, Tryd.f31, Ot.pv, Int.reduceBEq, Int.reduceBNe, Int.reduceEq, Int.reduceNe, Int.reducePow, Nat.reduceAdd, Nat.reduceMul, Nat.reduceSub, Nat.reduceLT, Nat.reduceLeDiff, Nat.reduceEqDiff, Nat.reduceBEq, Int.reduceLT, Int.reduceLE, Int.reduceAdd, Int.reduceSub, Int.reduceMul, Int.reduceToNat, Int.reduceNeg, reduceIte, reduceCtorEq, reduceBEq])
            refine callE_pure hq (by rfl) (by rfl) (by rfl) (by decide) (by rfl) (fun _ => by rfl) (by first | rfl | simp [gdOk, newToks]) ?_
            simp -implicitDefEqProofs only [push_cast, h1, h2, Int.reduceBEq, Int.reduceBNe, Int.reduceEq, Int.reduceNe, Int.reducePow, Nat.reduceAdd, Nat.reduceMul, Nat.reduceSub, Nat.reduceLT, Nat.reduceLeDiff, Nat.reduceEqDiff, Nat.reduceBEq, Int.reduceLT, Int.reduceLE, Int.reduceAdd, Int.reduceSub, Int.reduceMul, Int.reduceToNat, Int.reduceNeg, reduceIte, reduceCtorEq, reduceBEq]
            refine callE_pure hm (by rfl) (by rfl) (by rfl) (by decide) (by rfl) (fun _ => by rfl) (by first | rfl | simp [gdOk, newToks]) ?_
            simp -implicitDefEqProofs only [push_cast, Int.reduceBEq, Int.reduceBNe, Int.reduceEq, Int.reduceNe, Int.reducePow, Nat.reduceAdd, Nat.reduceMul, Nat.reduceSub, Nat.reduceLT, Nat.reduceLeDiff, Nat.reduceEqDiff, Nat.reduceBEq, Int.reduceLT, Int.reduceLE, Int.reduceAdd, Int.reduceSub, Int.reduceMul, Int.reduceToNat, Int.reduceNeg, reduceIte, reduceCtorEq, reduceBEq]
            all_goals first | done | exact ⟨_, rfl, by simp [wkL, res2, res1, PV.weak, PV.el, ints]⟩ | simp [wkL, res2, res1, PV.weak, PV.el, ints]
        · rw [if_pos rfl]
          rw [fmtR, if_pos hE] at hm
          (refine Fsp.of (nx := 0) mixed Tryd.func31 rfl (by decide) (by first | exact Nat.le_refl _ | simp) (by simp [Tryd.f31]) ⟨by decide, by decide⟩ ?_; simp -implicitDefEqProofs only [push_cast, Tryd.f31, Ot.pv, Int.reduceBEq, Int.reduceBNe, Int.reduceEq, Int.reduceNe, Int.reducePow, Nat.reduceAdd, Nat.reduceMul, Nat.reduceSub, Nat.reduceLT, Nat.reduceLeDiff, Nat.reduceEqDiff, Nat.reduceBEq, Int.reduceLT, Int.reduceLE, Int.reduceAdd, Int.reduceSub, Int.reduceMul, Int.reduceToNat, Int.reduceNeg, reduceIte, reduceCtorEq, reduceBEq])
          refine callE_pure hq (by rfl) (by rfl) (by rfl) (by decide) (by rfl) (fun _ => by rfl) (by first | rfl | simp [gdOk, newToks]) ?_
          simp -implicitDefEqProofs only [push_cast, h1, h2, Int.reduceBEq, Int.reduceBNe, Int.reduceEq, Int.reduceNe, Int.reducePow, Nat.reduceAdd, Nat.reduceMul, Nat.reduceSub, Nat.reduceLT, Nat.reduceLeDiff, Nat.reduceEqDiff, Nat.reduceBEq, Int.reduceLT, Int.reduceLE, Int.reduceAdd, Int.reduceSub, Int.reduceMul, Int.reduceToNat, Int.reduceNeg, reduceIte, reduceCtorEq, reduceBEq]
          refine callE_pure hm (by rfl) (by rfl) (by rfl) (by decide) (by rfl) (fun _ => by rfl) (by first | rfl | simp [gdOk, newToks]) ?_
          simp -implicitDefEqProofs only [push_cast, hE, Int.reduceBEq, Int.reduceBNe, Int.reduceEq, Int.reduceNe, Int.reducePow, Nat.reduceAdd, Nat.reduceMul, Nat.reduceSub, Nat.reduceLT, Nat.reduceLeDiff, Nat.reduceEqDiff, Nat.reduceBEq, Int.reduceLT, Int.reduceLE, Int.reduceAdd, Int.reduceSub, Int.reduceMul, Int.reduceToNat, Int.reduceNeg, reduceIte, reduceCtorEq, reduceBEq]
          all_goals first | done | exact ⟨_, rfl, by simp [wkL, res2, res1, PV.weak, PV.el, ints]⟩ | simp [wkL, res2, res1, PV.weak, PV.el, ints]
      · rw [if_pos (.inr (by simpa using h2))]
        (refine Fsp.of (nx := 0) mixed Tryd.func31 rfl (by decide) (by first | exact Nat.le_refl _ | simp) (by simp [Tryd.f31]) ⟨by decide, by decide⟩ ?_; simp -implicitDefEqProofs only [push_cast, Tryd.f31, Ot.pv, Int.reduceBEq, Int.reduceBNe, Int.reduceEq, Int.reduceNe, Int.reducePow, Nat.reduceAdd, Nat.reduceMul, Nat.reduceSub, Nat.reduceLT, Nat.reduceLeDiff, Nat.reduceEqDiff, Nat.reduceBEq, Int.reduceLT, Int.reduceLE, Int.reduceAdd, Int.reduceSub, Int.reduceMul, Int.reduceToNat, Int.reduceNeg, reduceIte, reduceCtorEq, reduceBEq])
        refine callE_pure hq (by rfl) (by rfl) (by rfl) (by decide) (by rfl) (fun _ => by rfl) (by first | rfl | simp [gdOk, newToks]) ?_
        simp -implicitDefEqProofs only [push_cast, h1, h2, Int.reduceBEq, Int.reduceBNe, Int.reduceEq, Int.reduceNe, Int.reducePow, Nat.reduceAdd, Nat.reduceMul, Nat.reduceSub, Nat.reduceLT, Nat.reduceLeDiff, Nat.reduceEqDiff, Nat.reduceBEq, Int.reduceLT, Int.reduceLE, Int.reduceAdd, Int.reduceSub, Int.reduceMul, Int.reduceToNat, Int.reduceNeg, reduceIte, reduceCtorEq, reduceBEq]
        all_goals first | done | exact ⟨_, rfl, by simp [wkL, res2, res1, PV.weak, PV.el, ints]⟩ | simp [wkL, res2, res1, PV.weak, PV.el, ints]
    · rw [if_pos (.inl (by simpa using h1))]
      (refine Fsp.of (nx := 0) mixed Tryd.func31 rfl (by decide) (by first | exact Nat.le_refl _ | simp) (by simp [Tryd.f31]) ⟨by decide, by decide⟩ ?_; simp -implicitDefEqProofs only [push_cast, Tryd.f31, Ot.pv, Int.reduceBEq, Int.reduceBNe, Int.reduceEq, Int.reduceNe, Int.reducePow, Nat.reduceAdd, Nat.reduceMul, Nat.reduceSub, Nat.reduceLT, Nat.reduceLeDiff, Nat.reduceEqDiff, Nat.reduceBEq, Int.reduceLT, Int.reduceLE, Int.reduceAdd, Int.reduceSub, Int.reduceMul, Int.reduceToNat, Int.reduceNeg, reduceIte, reduceCtorEq, reduceBEq])
      refine callE_pure hq (by rfl) (by rfl) (by rfl) (by decide) (by rfl) (fun _ => by rfl) (by first | rfl | simp [gdOk, newToks]) ?_
      simp -implicitDefEqProofs only [push_cast, h1, Int.reduceBEq, Int.reduceBNe, Int.reduceEq, Int.reduceNe, Int.reducePow, Nat.reduceAdd, Nat.reduceMul, Nat.reduceSub, Nat.reduceLT, Nat.reduceLeDiff, Nat.reduceEqDiff, Nat.reduceBEq, Int.reduceLT, Int.reduceLE, Int.reduceAdd, Int.reduceSub, Int.reduceMul, Int.reduceToNat, Int.reduceNeg, reduceIte, reduceCtorEq, reduceBEq]
      all_goals first | done | exact ⟨_, rfl, by simp [wkL, res2, res1, PV.weak, PV.el, ints]⟩ | simp [wkL, res2, res1, PV.weak, PV.el, ints]
theorem tknown_fs (o : Int) : Fsp Tryd.prog 29 [] 0 [.int .i64 o] [] 0 (.bool (isOrd o)) := by
  cases h0 : (o == 0)
  · (refine Fsp.of (nx := 0) mixed Tryd.func29 rfl (by decide) (by first | exact Nat.le_refl _ | simp) (by simp [Tryd.f29]) ⟨by decide, by decide⟩ ?_; simp -implicitDefEqProofs only [push_cast, Tryd.f29, h0, Int.reduceBEq, Int.reduceBNe, Int.reduceEq, Int.reduceNe, Int.reducePow, Nat.reduceAdd, Nat.reduceMul, Nat.reduceSub, Nat.reduceLT, Nat.reduceLeDiff, Nat.reduceEqDiff, Nat.reduceBEq, Int.reduceLT, Int.reduceLE, Int.reduceAdd, Int.reduceSub, Int.reduceMul, Int.reduceToNat, Int.reduceNeg, reduceIte, reduceCtorEq, reduceBEq])
    simp [isOrd, h0]
  · (refine Fsp.of (nx := 0) mixed Tryd.func29 rfl (by decide) (by first | exact Nat.le_refl _ | simp) (by simp [Tryd.f29]) ⟨by decide, by decide⟩ ?_; simp -implicitDefEqProofs only [push_cast, Tryd.f29, h0, Int.reduceBEq, Int.reduceBNe, Int.reduceEq, Int.reduceNe, Int.reducePow, Nat.reduceAdd, Nat.reduceMul, Nat.reduceSub, Nat.reduceLT, Nat.reduceLeDiff, Nat.reduceEqDiff, Nat.reduceBEq, Int.reduceLT, Int.reduceLE, Int.reduceAdd, Int.reduceSub, Int.reduceMul, Int.reduceToNat, Int.reduceNeg, reduceIte, reduceCtorEq, reduceBEq])
    simp [isOrd, h0]
theorem tellPut_fs (o : Int) (r : Ot) (hr : r.Few) : Fsp Tryd.prog 17 [] 0 [.int .i64 o, r.pv] [] 0 (tellR o r) := by
  have hk := tknown_fs o
  cases ho : isOrd o
  · rw [ho] at hk
    rw [tellR, tellS, if_neg (by rw [ho]; simp)]
    (refine Fsp.of (nx := 0) mixed Tryd.func17 rfl (by decide) (by first | exact Nat.le_refl _ | simp) (by simp [Tryd.f17]) ⟨by decide, by decide⟩ ?_; simp -implicitDefEqProofs only [push_cast, Tryd.f17, Ot.pv, Int.reduceBEq, Int.reduceBNe, Int.reduceEq, Int.reduceNe, Int.reducePow, Nat.reduceAdd, Nat.reduceMul, Nat.reduceSub, Nat.reduceLT, Nat.reduceLeDiff, Nat.reduceEqDiff, Nat.reduceBEq, Int.reduceLT, Int.reduceLE, Int.reduceAdd, Int.reduceSub, Int.reduceMul, Int.reduceToNat, Int.reduceNeg, reduceIte, reduceCtorEq, reduceBEq])
    refine callE_pure hk (by rfl) (by rfl) (by rfl) (by decide) (by rfl) (fun _ => by rfl) (by first | rfl | simp [gdOk, newToks]) ?_
    simp -implicitDefEqProofs only [push_cast, Int.reduceBEq, Int.reduceBNe, Int.reduceEq, Int.reduceNe, Int.reducePow, Nat.reduceAdd, Nat.reduceMul, Nat.reduceSub, Nat.reduceLT, Nat.reduceLeDiff, Nat.reduceEqDiff, Nat.reduceBEq, Int.reduceLT, Int.reduceLE, Int.reduceAdd, Int.reduceSub, Int.reduceMul, Int.reduceToNat, Int.reduceNeg, reduceIte, reduceCtorEq, reduceBEq]
    all_goals first | done | exact ⟨_, rfl, by simp [wkL, res2, res1, PV.weak, PV.el, ints]⟩ | simp [wkL, res2, res1, PV.weak, PV.el, ints]
  · rw [ho] at hk
    have hp := tput_fs (isOrd_of ho) r hr
    rw [tellR, tellS, if_pos ho]
    simp only [tellPR, Ot.pv] at hp
    (refine Fsp.of (nx := 0) mixed Tryd.func17 rfl (by decide) (by first | exact Nat.le_refl _ | simp) (by simp [Tryd.f17]) ⟨by decide, by decide⟩ ?_; simp -implicitDefEqProofs only [push_cast, Tryd.f17, Ot.pv, Int.reduceBEq, Int.reduceBNe, Int.reduceEq, Int.reduceNe, Int.reducePow, Nat.reduceAdd, Nat.reduceMul, Nat.reduceSub, Nat.reduceLT, Nat.reduceLeDiff, Nat.reduceEqDiff, Nat.reduceBEq, Int.reduceLT, Int.reduceLE, Int.reduceAdd, Int.reduceSub, Int.reduceMul, Int.reduceToNat, Int.reduceNeg, reduceIte, reduceCtorEq, reduceBEq])
    refine callE_pure hk (by rfl) (by rfl) (by rfl) (by decide) (by rfl) (fun _ => by rfl) (by first | rfl | simp [gdOk, newToks]) ?_
    simp -implicitDefEqProofs only [push_cast, Int.reduceBEq, Int.reduceBNe, Int.reduceEq, Int.reduceNe, Int.reducePow, Nat.reduceAdd, Nat.reduceMul, Nat.reduceSub, Nat.reduceLT, Nat.reduceLeDiff, Nat.reduceEqDiff, Nat.reduceBEq, Int.reduceLT, Int.reduceLE, Int.reduceAdd, Int.reduceSub, Int.reduceMul, Int.reduceToNat, Int.reduceNeg, reduceIte, reduceCtorEq, reduceBEq]
    refine callE_pure hp (by rfl) (by rfl) (by rfl) (by decide) (by rfl) (fun _ => by rfl) (by first | rfl | simp [gdOk, newToks]) ?_
    simp -implicitDefEqProofs only [push_cast, Int.reduceBEq, Int.reduceBNe, Int.reduceEq, Int.reduceNe, Int.reducePow, Nat.reduceAdd, Nat.reduceMul, Nat.reduceSub, Nat.reduceLT, Nat.reduceLeDiff, Nat.reduceEqDiff, Nat.reduceBEq, Int.reduceLT, Int.reduceLE, Int.reduceAdd, Int.reduceSub, Int.reduceMul, Int.reduceToNat, Int.reduceNeg, reduceIte, reduceCtorEq, reduceBEq]
    all_goals first | done | exact ⟨_, rfl, by simp [wkL, res2, res1, PV.weak, PV.el, ints]⟩ | simp [wkL, res2, res1, PV.weak, PV.el, ints]
theorem tellCheck_fs (r : Ot) (hr : r.Few) : Fsp Tryd.prog 19 [] 0 [r.pv] [] 0 (.int .i64 (tellP 0 r).2) := by
  have hp := tput_fs (o := 0) (.inl rfl) r hr
  simp only [tellPR, Ot.pv] at hp
  (refine Fsp.of (nx := 0) mixed Tryd.func19 rfl (by decide) (by first | exact Nat.le_refl _ | simp) (by simp [Tryd.f19]) ⟨by decide, by decide⟩ ?_; simp -implicitDefEqProofs only [push_cast, Tryd.f19, Ot.pv, Int.reduceBEq, Int.reduceBNe, Int.reduceEq, Int.reduceNe, Int.reducePow, Nat.reduceAdd, Nat.reduceMul, Nat.reduceSub, Nat.reduceLT, Nat.reduceLeDiff, Nat.reduceEqDiff, Nat.reduceBEq, Int.reduceLT, Int.reduceLE, Int.reduceAdd, Int.reduceSub, Int.reduceMul, Int.reduceToNat, Int.reduceNeg, reduceIte, reduceCtorEq, reduceBEq])
  refine callE_pure hp (by rfl) (by rfl) (by rfl) (by decide) (by rfl) (fun _ => by rfl) (by first | rfl | simp [gdOk, newToks]) ?_
  simp -implicitDefEqProofs only [push_cast, Int.reduceBEq, Int.reduceBNe, Int.reduceEq, Int.reduceNe, Int.reducePow, Nat.reduceAdd, Nat.reduceMul, Nat.reduceSub, Nat.reduceLT, Nat.reduceLeDiff, Nat.reduceEqDiff, Nat.reduceBEq, Int.reduceLT, Int.reduceLE, Int.reduceAdd, Int.reduceSub, Int.reduceMul, Int.reduceToNat, Int.reduceNeg, reduceIte, reduceCtorEq, reduceBEq]

end Go.Proofs.Sh

/- Package tell: Length, Get. -/
set_option maxRecDepth 100000
set_option linter.unusedSimpArgs false
set_option linter.unusedVariables false
namespace Go.Proofs.Sh
open Go.Pv

def ot0 : Ot := ⟨0, 0, 0, [], [], []⟩
theorem wb (x : UInt8) : IntKind.i64.wrap (x.toNat : Int) = (x.toNat : Int) := by
  have := x.toNat_lt
  rw [wrap_i64_id (by omega) (by omega)]
def tform (s : List UInt8) : Option Fm := mForm ((s.getD 0 0).toNat : Int) ((s.getD 1 0).toNat : Int)
def terr (s : List UInt8) : Int := mErr ((s.getD 0 0).toNat : Int)
def words (o : Int) (s : List UInt8) : Nat := decU o ((s.drop 4).take 4)
def tlenW (n : Nat) : Int × Int := if n < 2 then (0, 2) else if 16386 < n then (0, 4) else (((4 * n : Nat) : Int), 0)
def tlenR (o : Int) (s : List UInt8) : Int × Int :=
  if isOrd o = true then
    if s.length < 8 then (0, 3) else match tform s with
      | none => (0, terr s)
      | some _ => tlenW (words o s)
  else (0, 8)
theorem tlenR_none {o : Int} {s : List UInt8} (ho : isOrd o = true) (h : ¬ s.length < 8) (hf : tform s = none) : tlenR o s = (0, terr s) := by rw [tlenR, if_pos ho, if_neg h, hf]
theorem tlenR_some {o : Int} {s : List UInt8} {f : Fm} (ho : isOrd o = true) (h : ¬ s.length < 8) (hf : tform s = some f) : tlenR o s = tlenW (words o s) := by rw [tlenR, if_pos ho, if_neg h, hf]
theorem mErr_ne (k : Int) : (mErr k != 0) = true := by unfold mErr; split <;> rfl
theorem four_len {s : List UInt8} (h : 8 ≤ s.length) : ((s.drop 4).take 4).length = 4 := by simp; omega
theorem words_lt {o : Int} {s : List UInt8} (h : 8 ≤ s.length) : words o s < 4294967296 := by
  have := decU_lt o ((s.drop 4).take 4)
  rw [four_len h] at this
  exact this
theorem words_get {o : Int} {s : List UInt8} (h : 8 ≤ s.length) : getV o 4 ((s.drop 4).take 4) = (words o s : Int) ∧ getE 4 ((s.drop 4).take 4) = 0 := by
  have hw := words_lt (o := o) h
  have hl := four_len h
  have hw4 : wid 4 = 4 := rfl
  refine ⟨?_, by rw [getE, if_neg (by omega), if_neg (by omega)]⟩
  rw [getV, if_pos (by omega), readV, if_neg]
  · rfl
  · simp only [decide_eq_true_eq]
    rw [show high 4 = 4294967295 by decide]
    show ¬ (4294967295 : Int) < ((words o s : Nat) : Int)
    omega
set_option maxHeartbeats 4000000 in
theorem tellLen_fs (o : Int) (s : List UInt8) : Fsp Tryd.prog 13 [] 0 [.int .i64 o, .str s] [] 0 (.tup [.int .i64 (tlenR o s).1, .int .i64 (tlenR o s).2]) := by
  have hk := tknown_fs o
  cases ho : isOrd o
  · rw [ho] at hk
    rw [show tlenR o s = (0, 8) by rw [tlenR, if_neg (by rw [ho]; simp)]]
    (refine Fsp.of (nx := 0) mixed Tryd.func13 rfl (by decide) (by first | exact Nat.le_refl _ | simp) (by simp [Tryd.f13]) ⟨by decide, by decide⟩ ?_; simp -implicitDefEqProofs only [push_cast, Tryd.f13, Int.reduceBEq, Int.reduceBNe, Int.reduceEq, Int.reduceNe, Int.reducePow, Nat.reduceAdd, Nat.reduceMul, Nat.reduceSub, Nat.reduceLT, Nat.reduceLeDiff, Nat.reduceEqDiff, Nat.reduceBEq, Int.reduceLT, Int.reduceLE, Int.reduceAdd, Int.reduceSub, Int.reduceMul, Int.reduceToNat, Int.reduceNeg, reduceIte, reduceCtorEq, reduceBEq])
    refine callE_pure hk (by rfl) (by rfl) (by rfl) (by decide) (by rfl) (fun _ => by rfl) (by first | rfl | simp [gdOk, newToks]) ?_
    simp -implicitDefEqProofs only [push_cast, Int.reduceBEq, Int.reduceBNe, Int.reduceEq, Int.reduceNe, Int.reducePow, Nat.reduceAdd, Nat.reduceMul, Nat.reduceSub, Nat.reduceLT, Nat.reduceLeDiff, Nat.reduceEqDiff, Nat.reduceBEq, Int.reduceLT, Int.reduceLE, Int.reduceAdd, Int.reduceSub, Int.reduceMul, Int.reduceToNat, Int.reduceNeg, reduceIte, reduceCtorEq, reduceBEq]
    (repeat (first | refine ⟨by omega, ?_⟩ | refine ⟨by (unfold drawOk; kernel_rfl), ?_⟩))
    all_goals first | done | exact ⟨_, rfl, by simp [wkL, res2, res1, res3, PV.weak, PV.el, ints, ot0, Ot.pv]⟩ | simp [wkL, res2, res1, res3, PV.weak, PV.el, ints, ot0, Ot.pv]
  · rw [ho] at hk
    have hor := isOrd_of ho
    cases h1 : decide ((s.length : Int) < 8)
    · have h1' : ¬ s.length < 8 := by simp at h1; omega
      have h8 : 8 ≤ s.length := by omega
      have hq := mform_fs ((s.getD 0 0).toNat : Int) ((s.getD 1 0).toNat : Int)
      cases hf : tform s with
      | none =>
        have hf' : mForm ((s.getD 0 0).toNat : Int) ((s.getD 1 0).toNat : Int) = none := hf
        rw [mFormR_none hf'] at hq
        rw [tlenR_none ho h1' hf]
        have he : (terr s != 0) = true := mErr_ne _
        unfold terr at he ⊢
        (refine Fsp.of (nx := 0) mixed Tryd.func13 rfl (by decide) (by first | exact Nat.le_refl _ | simp) (by simp [Tryd.f13]) ⟨by decide, by decide⟩ ?_; simp -implicitDefEqProofs only [push_cast, Tryd.f13, Int.reduceBEq, Int.reduceBNe, Int.reduceEq, Int.reduceNe, Int.reducePow, Nat.reduceAdd, Nat.reduceMul, Nat.reduceSub, Nat.reduceLT, Nat.reduceLeDiff, Nat.reduceEqDiff, Nat.reduceBEq, Int.reduceLT, Int.reduceLE, Int.reduceAdd, Int.reduceSub, Int.reduceMul, Int.reduceToNat, Int.reduceNeg, reduceIte, reduceCtorEq, reduceBEq])
        refine callE_pure hk (by rfl) (by rfl) (by rfl) (by decide) (by rfl) (fun _ => by rfl) (by first | rfl | simp [gdOk, newToks]) ?_
        simp -implicitDefEqProofs only [push_cast, h1, wb, Int.reduceBEq, Int.reduceBNe, Int.reduceEq, Int.reduceNe, Int.reducePow, Nat.reduceAdd, Nat.reduceMul, Nat.reduceSub, Nat.reduceLT, Nat.reduceLeDiff, Nat.reduceEqDiff, Nat.reduceBEq, Int.reduceLT, Int.reduceLE, Int.reduceAdd, Int.reduceSub, Int.reduceMul, Int.reduceToNat, Int.reduceNeg, reduceIte, reduceCtorEq, reduceBEq]
        (repeat (first | refine ⟨by omega, ?_⟩ | refine ⟨by (unfold drawOk; kernel_rfl), ?_⟩))
        refine callE_pure hq (by rfl) (by rfl) (by rfl) (by decide) (by rfl) (fun _ => by rfl) (by first | rfl | simp [gdOk, newToks]) ?_
        simp -implicitDefEqProofs only [push_cast, he, Int.reduceBEq, Int.reduceBNe, Int.reduceEq, Int.reduceNe, Int.reducePow, Nat.reduceAdd, Nat.reduceMul, Nat.reduceSub, Nat.reduceLT, Nat.reduceLeDiff, Nat.reduceEqDiff, Nat.reduceBEq, Int.reduceLT, Int.reduceLE, Int.reduceAdd, Int.reduceSub, Int.reduceMul, Int.reduceToNat, Int.reduceNeg, reduceIte, reduceCtorEq, reduceBEq]
        (repeat (first | refine ⟨by omega, ?_⟩ | refine ⟨by (unfold drawOk; kernel_rfl), ?_⟩))
        all_goals first | done | exact ⟨_, rfl, by simp [wkL, res2, res1, res3, PV.weak, PV.el, ints, ot0, Ot.pv]⟩ | simp [wkL, res2, res1, res3, PV.weak, PV.el, ints, ot0, Ot.pv]
      | some f =>
        have hf' : mForm ((s.getD 0 0).toNat : Int) ((s.getD 1 0).toNat : Int) = some f := hf
        rw [mFormR_some hf'] at hq
        simp only [Fm.pv] at hq
        have hg := get_fs hor (s := 4) (by unfold isSize; omega) ((s.drop 4).take 4)
        rw [(words_get (o := o) h8).1, (words_get (o := o) h8).2] at hg
        have hn := words_lt (o := o) h8
        rw [tlenR_some ho h1' hf, tlenW]
        generalize words o s = n at *
        cases h2 : decide ((n : Int) < 2)
        · have h2' : ¬ n < 2 := by simp at h2; omega
          rw [if_neg h2']
          cases h3 : decide ((16386 : Int) < (n : Int))
          · have h3' : ¬ 16386 < n := by simp at h3; omega
            have hw : IntKind.i64.wrap (4 * (n : Int)) = 4 * (n : Int) := by rw [wrap_i64_id (by omega) (by omega)]
            rw [if_neg h3']
            (refine Fsp.of (nx := 0) mixed Tryd.func13 rfl (by decide) (by first | exact Nat.le_refl _ | simp) (by simp [Tryd.f13]) ⟨by decide, by decide⟩ ?_; simp -implicitDefEqProofs only [push_cast, Tryd.f13, Int.reduceBEq, Int.reduceBNe, Int.reduceEq, Int.reduceNe, Int.reducePow, Nat.reduceAdd, Nat.reduceMul, Nat.reduceSub, Nat.reduceLT, Nat.reduceLeDiff, Nat.reduceEqDiff, Nat.reduceBEq, Int.reduceLT, Int.reduceLE, Int.reduceAdd, Int.reduceSub, Int.reduceMul, Int.reduceToNat, Int.reduceNeg, reduceIte, reduceCtorEq, reduceBEq])
            refine callE_pure hk (by rfl) (by rfl) (by rfl) (by decide) (by rfl) (fun _ => by rfl) (by first | rfl | simp [gdOk, newToks]) ?_
            simp -implicitDefEqProofs only [push_cast, h1, wb, Int.reduceBEq, Int.reduceBNe, Int.reduceEq, Int.reduceNe, Int.reducePow, Nat.reduceAdd, Nat.reduceMul, Nat.reduceSub, Nat.reduceLT, Nat.reduceLeDiff, Nat.reduceEqDiff, Nat.reduceBEq, Int.reduceLT, Int.reduceLE, Int.reduceAdd, Int.reduceSub, Int.reduceMul, Int.reduceToNat, Int.reduceNeg, reduceIte, reduceCtorEq, reduceBEq]
            (repeat (first | refine ⟨by omega, ?_⟩ | refine ⟨by (unfold drawOk; kernel_rfl), ?_⟩))
            refine callE_pure hq (by rfl) (by rfl) (by rfl) (by decide) (by rfl) (fun _ => by rfl) (by first | rfl | simp [gdOk, newToks]) ?_
            simp -implicitDefEqProofs only [push_cast, Int.reduceBEq, Int.reduceBNe, Int.reduceEq, Int.reduceNe, Int.reducePow, Nat.reduceAdd, Nat.reduceMul, Nat.reduceSub, Nat.reduceLT, Nat.reduceLeDiff, Nat.reduceEqDiff, Nat.reduceBEq, Int.reduceLT, Int.reduceLE, Int.reduceAdd, Int.reduceSub, Int.reduceMul, Int.reduceToNat, Int.reduceNeg, reduceIte, reduceCtorEq, reduceBEq]
            (repeat (first | refine ⟨by omega, ?_⟩ | refine ⟨by (unfold drawOk; kernel_rfl), ?_⟩))
            refine callE_pure hg (by rfl) (by rfl) (by rfl) (by decide) (by rfl) (fun _ => by rfl) (by first | rfl | simp [gdOk, newToks]) ?_
            simp -implicitDefEqProofs only [push_cast, h2, h3, hw, Int.reduceBEq, Int.reduceBNe, Int.reduceEq, Int.reduceNe, Int.reducePow, Nat.reduceAdd, Nat.reduceMul, Nat.reduceSub, Nat.reduceLT, Nat.reduceLeDiff, Nat.reduceEqDiff, Nat.reduceBEq, Int.reduceLT, Int.reduceLE, Int.reduceAdd, Int.reduceSub, Int.reduceMul, Int.reduceToNat, Int.reduceNeg, reduceIte, reduceCtorEq, reduceBEq]
            (repeat (first | refine ⟨by omega, ?_⟩ | refine ⟨by (unfold drawOk; kernel_rfl), ?_⟩))
            all_goals first | done | exact ⟨_, rfl, by simp [wkL, res2, res1, res3, PV.weak, PV.el, ints, ot0, Ot.pv]⟩ | simp [wkL, res2, res1, res3, PV.weak, PV.el, ints, ot0, Ot.pv]
          · have h3' : 16386 < n := by simp at h3; omega
            rw [if_pos h3']
            (refine Fsp.of (nx := 0) mixed Tryd.func13 rfl (by decide) (by first | exact Nat.le_refl _ | simp) (by simp [Tryd.f13]) ⟨by decide, by decide⟩ ?_; simp -implicitDefEqProofs only [push_cast, Tryd.f13, Int.reduceBEq, Int.reduceBNe, Int.reduceEq, Int.reduceNe, Int.reducePow, Nat.reduceAdd, Nat.reduceMul, Nat.reduceSub, Nat.reduceLT, Nat.reduceLeDiff, Nat.reduceEqDiff, Nat.reduceBEq, Int.reduceLT, Int.reduceLE, Int.reduceAdd, Int.reduceSub, Int.reduceMul, Int.reduceToNat, Int.reduceNeg, reduceIte, reduceCtorEq, reduceBEq])
            refine callE_pure hk (by rfl) (by rfl) (by rfl) (by decide) (by rfl) (fun _ => by rfl) (by first | rfl | simp [gdOk, newToks]) ?_
            simp -implicitDefEqProofs only [push_cast, h1, wb, Int.reduceBEq, Int.reduceBNe, Int.reduceEq, Int.reduceNe, Int.reducePow, Nat.reduceAdd, Nat.reduceMul, Nat.reduceSub, Nat.reduceLT, Nat.reduceLeDiff, Nat.reduceEqDiff, Nat.reduceBEq, Int.reduceLT, Int.reduceLE, Int.reduceAdd, Int.reduceSub, Int.reduceMul, Int.reduceToNat, Int.reduceNeg, reduceIte, reduceCtorEq, reduceBEq]
            (repeat (first | refine ⟨by omega, ?_⟩ | refine ⟨by (unfold drawOk; kernel_rfl), ?_⟩))
            refine callE_pure hq (by rfl) (by rfl) (by rfl) (by decide) (by rfl) (fun _ => by rfl) (by first | rfl | simp [gdOk, newToks]) ?_
            simp -implicitDefEqProofs only [push_cast, Int.reduceBEq, Int.reduceBNe, Int.reduceEq, Int.reduceNe, Int.reducePow, Nat.reduceAdd, Nat.reduceMul, Nat.reduceSub, Nat.reduceLT, Nat.reduceLeDiff, Nat.reduceEqDiff, Nat.reduceBEq, Int.reduceLT, Int.reduceLE, Int.reduceAdd, Int.reduceSub, Int.reduceMul, Int.reduceToNat, Int.reduceNeg, reduceIte, reduceCtorEq, reduceBEq]
            (repeat (first | refine ⟨by omega, ?_⟩ | refine ⟨by (unfold drawOk; kernel_rfl), ?_⟩))
            refine callE_pure hg (by rfl) (by rfl) (by rfl) (by decide) (by rfl) (fun _ => by rfl) (by first | rfl | simp [gdOk, newToks]) ?_
            simp -implicitDefEqProofs only [push_cast, h2, h3, Int.reduceBEq, Int.reduceBNe, Int.reduceEq, Int.reduceNe, Int.reducePow, Nat.reduceAdd, Nat.reduceMul, Nat.reduceSub, Nat.reduceLT, Nat.reduceLeDiff, Nat.reduceEqDiff, Nat.reduceBEq, Int.reduceLT, Int.reduceLE, Int.reduceAdd, Int.reduceSub, Int.reduceMul, Int.reduceToNat, Int.reduceNeg, reduceIte, reduceCtorEq, reduceBEq]
            (repeat (first | refine ⟨by omega, ?_⟩ | refine ⟨by (unfold drawOk; kernel_rfl), ?_⟩))
            all_goals first | done | exact ⟨_, rfl, by simp [wkL, res2, res1, res3, PV.weak, PV.el, ints, ot0, Ot.pv]⟩ | simp [wkL, res2, res1, res3, PV.weak, PV.el, ints, ot0, Ot.pv]
        · have h2' : n < 2 := by simp at h2; omega
          rw [if_pos h2']
          (refine Fsp.of (nx := 0) mixed Tryd.func13 rfl (by decide) (by first | exact Nat.le_refl _ | simp) (by simp [Tryd.f13]) ⟨by decide, by decide⟩ ?_; simp -implicitDefEqProofs only [push_cast, Tryd.f13, Int.reduceBEq, Int.reduceBNe, Int.reduceEq, Int.reduceNe, Int.reducePow, Nat.reduceAdd, Nat.reduceMul, Nat.reduceSub, Nat.reduceLT, Nat.reduceLeDiff, Nat.reduceEqDiff, Nat.reduceBEq, Int.reduceLT, Int.reduceLE, Int.reduceAdd, Int.reduceSub, Int.reduceMul, Int.reduceToNat, Int.reduceNeg, reduceIte, reduceCtorEq, reduceBEq])
          refine callE_pure hk (by rfl) (by rfl) (by rfl) (by decide) (by rfl) (fun _ => by rfl) (by first | rfl | simp [gdOk, newToks]) ?_
          simp -implicitDefEqProofs only [push_cast, h1, wb, Int.reduceBEq, Int.reduceBNe, Int.reduceEq, Int.reduceNe, Int.reducePow, Nat.reduceAdd, Nat.reduceMul, Nat.reduceSub, Nat.reduceLT, Nat.reduceLeDiff, Nat.reduceEqDiff, Nat.reduceBEq, Int.reduceLT, Int.reduceLE, Int.reduceAdd, Int.reduceSub, Int.reduceMul, Int.reduceToNat, Int.reduceNeg, reduceIte, reduceCtorEq, reduceBEq]
          (repeat (first | refine ⟨by omega, ?_⟩ | refine ⟨by (unfold drawOk; kernel_rfl), ?_⟩))
          refine callE_pure hq (by rfl) (by rfl) (by rfl) (by decide) (by rfl) (fun _ => by rfl) (by first | rfl | simp [gdOk, newToks]) ?_
          simp -implicitDefEqProofs only [push_cast, Int.reduceBEq, Int.reduceBNe, Int.reduceEq, Int.reduceNe, Int.reducePow, Nat.reduceAdd, Nat.reduceMul, Nat.reduceSub, Nat.reduceLT, Nat.reduceLeDiff, Nat.reduceEqDiff, Nat.reduceBEq, Int.reduceLT, Int.reduceLE, Int.reduceAdd, Int.reduceSub, Int.reduceMul, Int.reduceToNat, Int.reduceNeg, reduceIte, reduceCtorEq, reduceBEq]
          (repeat (first | refine ⟨by omega, ?_⟩ | refine ⟨by (unfold drawOk; kernel_rfl), ?_⟩))
          refine callE_pure hg (by rfl) (by rfl) (by rfl) (by decide) (by rfl) (fun _ => by rfl) (by first | rfl | simp [gdOk, newToks]) ?_
          simp -implicitDefEqProofs only [push_cast, h2, Int.reduceBEq, Int.reduceBNe, Int.reduceEq, Int.reduceNe, Int.reducePow, Nat.reduceAdd, Nat.reduceMul, Nat.reduceSub, Nat.reduceLT, Nat.reduceLeDiff, Nat.reduceEqDiff, Nat.reduceBEq, Int.reduceLT, Int.reduceLE, Int.reduceAdd, Int.reduceSub, Int.reduceMul, Int.reduceToNat, Int.reduceNeg, reduceIte, reduceCtorEq, reduceBEq]
          (repeat (first | refine ⟨by omega, ?_⟩ | refine ⟨by (unfold drawOk; kernel_rfl), ?_⟩))
          all_goals first | done | exact ⟨_, rfl, by simp [wkL, res2, res1, res3, PV.weak, PV.el, ints, ot0, Ot.pv]⟩ | simp [wkL, res2, res1, res3, PV.weak, PV.el, ints, ot0, Ot.pv]
    · have h1' : s.length < 8 := by simp at h1; omega
      rw [show tlenR o s = (0, 3) by rw [tlenR, if_pos ho, if_pos h1']]
      (refine Fsp.of (nx := 0) mixed Tryd.func13 rfl (by decide) (by first | exact Nat.le_refl _ | simp) (by simp [Tryd.f13]) ⟨by decide, by decide⟩ ?_; simp -implicitDefEqProofs only [push_cast, Tryd.f13, Int.reduceBEq, Int.reduceBNe, Int.reduceEq, Int.reduceNe, Int.reducePow, Nat.reduceAdd, Nat.reduceMul, Nat.reduceSub, Nat.reduceLT, Nat.reduceLeDiff, Nat.reduceEqDiff, Nat.reduceBEq, Int.reduceLT, Int.reduceLE, Int.reduceAdd, Int.reduceSub, Int.reduceMul, Int.reduceToNat, Int.reduceNeg, reduceIte, reduceCtorEq, reduceBEq])
      refine callE_pure hk (by rfl) (by rfl) (by rfl) (by decide) (by rfl) (fun _ => by rfl) (by first | rfl | simp [gdOk, newToks]) ?_
      simp -implicitDefEqProofs only [push_cast, h1, Int.reduceBEq, Int.reduceBNe, Int.reduceEq, Int.reduceNe, Int.reducePow, Nat.reduceAdd, Nat.reduceMul, Nat.reduceSub, Nat.reduceLT, Nat.reduceLeDiff, Nat.reduceEqDiff, Nat.reduceBEq, Int.reduceLT, Int.reduceLE, Int.reduceAdd, Int.reduceSub, Int.reduceMul, Int.reduceToNat, Int.reduceNeg, reduceIte, reduceCtorEq, reduceBEq]
      (repeat (first | refine ⟨by omega, ?_⟩ | refine ⟨by (unfold drawOk; kernel_rfl), ?_⟩))
      all_goals first | done | exact ⟨_, rfl, by simp [wkL, res2, res1, res3, PV.weak, PV.el, ints, ot0, Ot.pv]⟩ | simp [wkL, res2, res1, res3, PV.weak, PV.el, ints, ot0, Ot.pv]
def seqOf (o : Int) (s : List UInt8) : Nat := decU o ((s.drop 2).take 2)
/-- A message, how long it is, and what is wrong. -/
def tellG (o : Int) (s : List UInt8) : Ot × Int × Int :=
  if (tlenR o s).2 = 0 then
    if (s.length : Int) < (tlenR o s).1 then (ot0, 0, 3)
    else match tform s with
      | none => (ot0, 0, terr s)
      | some f =>
        if (getF o f ((s.take (tlenR o s).1.toNat).drop 8)).2 = 0 then
          (⟨((s.getD 0 0).toNat : Int), ((s.getD 1 0).toNat : Int), (seqOf o s : Int), (getF o f ((s.take (tlenR o s).1.toNat).drop 8)).1.N, (getF o f ((s.take (tlenR o s).1.toNat).drop 8)).1.B, (getF o f ((s.take (tlenR o s).1.toNat).drop 8)).1.L⟩, (tlenR o s).1, 0)
        else (ot0, 0, (getF o f ((s.take (tlenR o s).1.toNat).drop 8)).2)
  else (ot0, 0, (tlenR o s).2)
def tellGR (o : Int) (s : List UInt8) : PV := .tup [(tellG o s).1.pv, .int .i64 (tellG o s).2.1, .int .i64 (tellG o s).2.2]
theorem tlen_ok {o : Int} {s : List UInt8} (h : (tlenR o s).2 = 0) : isOrd o = true ∧ 8 ≤ s.length ∧ (∃ f, tform s = some f) ∧ tlenR o s = (((4 * words o s : Nat) : Int), 0) ∧ 2 ≤ words o s ∧ words o s ≤ 16386 := by
  unfold tlenR at h ⊢
  split at h
  · rename_i h1
    rw [if_pos h1]
    split at h
    · exact absurd h (by decide)
    · rename_i h2
      rw [if_neg h2]
      split at h
      · have := mErr_ne ((s.getD 0 0).toNat : Int)
        simp only [terr] at h
        rw [h] at this
        exact absurd this (by decide)
      · rename_i f hf
        unfold tlenW at h ⊢
        split at h
        · exact absurd h (by decide)
        · rename_i h3
          rw [if_neg h3]
          split at h
          · exact absurd h (by decide)
          · rename_i h4
            rw [if_neg h4]
            exact ⟨h1, by omega, ⟨f, hf⟩, rfl, by omega, by omega⟩
  · exact absurd h (by decide)
theorem two_len {s : List UInt8} (h : 8 ≤ s.length) : ((s.drop 2).take 2).length = 2 := by simp; omega
theorem seq_get {o : Int} {s : List UInt8} (h : 8 ≤ s.length) : getV o 2 ((s.drop 2).take 2) = (seqOf o s : Int) ∧ getE 2 ((s.drop 2).take 2) = 0 ∧ seqOf o s < 65536 := by
  have hw : seqOf o s < 65536 := by
    have := decU_lt o ((s.drop 2).take 2)
    rw [two_len h] at this
    exact this
  have hl := two_len h
  have hw4 : wid 2 = 2 := rfl
  refine ⟨?_, by rw [getE, if_neg (by omega), if_neg (by omega)], hw⟩
  rw [getV, if_pos (by omega), readV, if_neg]
  · rfl
  · simp only [decide_eq_true_eq]
    rw [show high 2 = 65535 by decide]
    show ¬ (65535 : Int) < ((seqOf o s : Nat) : Int)
    omega
set_option maxHeartbeats 4000000 in
theorem tellGet_fs (o : Int) (s : List UInt8) (hs : s.length ≤ 100000000) : Fsp Tryd.prog 11 [] 0 [.int .i64 o, .str s] [] 0 (tellGR o s) := by
  have hp := tellLen_fs o s
  rw [tellGR]
  by_cases h0 : (tlenR o s).2 = 0
  · obtain ⟨ho, h8, ⟨f, hf⟩, hL, hn1, hn2⟩ := tlen_ok h0
    have hor := isOrd_of ho
    have hq := mform_fs ((s.getD 0 0).toNat : Int) ((s.getD 1 0).toNat : Int)
    have hf' : mForm ((s.getD 0 0).toNat : Int) ((s.getD 1 0).toNat : Int) = some f := hf
    rw [mFormR_some hf'] at hq
    simp only [Fm.pv] at hq
    obtain ⟨hok, -⟩ := mForm_some hf'
    rw [tellG, if_pos h0, hf]
    rw [hL] at hp ⊢
    simp only at hp ⊢
    rw [Int.toNat_natCast]
    obtain ⟨n, hn⟩ : ∃ n, n = 4 * words o s := ⟨_, rfl⟩
    rw [← hn] at hp ⊢
    obtain ⟨sq1, sq2, sq3⟩ := seq_get (o := o) h8
    have hg2 := get_fs hor (s := 2) (by unfold isSize; omega) ((s.drop 2).take 2)
    rw [sq1, sq2] at hg2
    have wsq : IntKind.i64.wrap (seqOf o s : Int) = (seqOf o s : Int) := by rw [wrap_i64_id (by omega) (by omega)]
    generalize seqOf o s = q at *
    cases h2 : decide ((s.length : Int) < (n : Int))
    · have h2' : ¬ (s.length : Int) < (n : Int) := by simpa using h2
      rw [if_neg h2']
      have htd : (s.drop 8).take (n - 8) = (s.take n).drop 8 := (List.drop_take ..).symm
      have hgf := formGet_fs hor f hok ((s.take n).drop 8) (by simp; omega)
      simp only [getR, Fm.pv] at hgf
      have g0 : 0 < s.length := by omega
      have g1 : 1 < s.length := by omega
      generalize getF o f ((s.take n).drop 8) = x at *
      obtain ⟨x, xe⟩ := x
      simp only [Fd.pv] at hgf
      simp only
      cases h5 : (xe != 0)
      · have h5' : xe = 0 := by simpa using h5
        rw [if_pos h5']
        (refine Fsp.of (nx := 0) mixed Tryd.func11 rfl (by decide) (by first | exact Nat.le_refl _ | simp) (by simp [Tryd.f11]) ⟨by decide, by decide⟩ ?_; simp -implicitDefEqProofs only [push_cast, Tryd.f11, Int.reduceBEq, Int.reduceBNe, Int.reduceEq, Int.reduceNe, Int.reducePow, Nat.reduceAdd, Nat.reduceMul, Nat.reduceSub, Nat.reduceLT, Nat.reduceLeDiff, Nat.reduceEqDiff, Nat.reduceBEq, Int.reduceLT, Int.reduceLE, Int.reduceAdd, Int.reduceSub, Int.reduceMul, Int.reduceToNat, Int.reduceNeg, reduceIte, reduceCtorEq, reduceBEq])
        refine callE_pure hp (by rfl) (by rfl) (by rfl) (by decide) (by rfl) (fun _ => by rfl) (by first | rfl | simp [gdOk, newToks]) ?_
        simp -implicitDefEqProofs only [push_cast, h2, wb, Int.reduceBEq, Int.reduceBNe, Int.reduceEq, Int.reduceNe, Int.reducePow, Nat.reduceAdd, Nat.reduceMul, Nat.reduceSub, Nat.reduceLT, Nat.reduceLeDiff, Nat.reduceEqDiff, Nat.reduceBEq, Int.reduceLT, Int.reduceLE, Int.reduceAdd, Int.reduceSub, Int.reduceMul, Int.reduceToNat, Int.reduceNeg, reduceIte, reduceCtorEq, reduceBEq]
        (repeat (first | refine ⟨by omega, ?_⟩ | refine ⟨by (unfold drawOk; kernel_rfl), ?_⟩))
        refine callE_pure hq (by rfl) (by rfl) (by rfl) (by decide) (by rfl) (fun _ => by rfl) (by first | rfl | simp [gdOk, newToks]) ?_
        simp -implicitDefEqProofs only [push_cast, Int.reduceBEq, Int.reduceBNe, Int.reduceEq, Int.reduceNe, Int.reducePow, Nat.reduceAdd, Nat.reduceMul, Nat.reduceSub, Nat.reduceLT, Nat.reduceLeDiff, Nat.reduceEqDiff, Nat.reduceBEq, Int.reduceLT, Int.reduceLE, Int.reduceAdd, Int.reduceSub, Int.reduceMul, Int.reduceToNat, Int.reduceNeg, reduceIte, reduceCtorEq, reduceBEq]
        (repeat (first | refine ⟨by omega, ?_⟩ | refine ⟨by (unfold drawOk; kernel_rfl), ?_⟩))
        refine callE_pure hg2 (by rfl) (by rfl) (by rfl) (by decide) (by rfl) (fun _ => by rfl) (by first | rfl | simp [gdOk, newToks]) ?_
        simp -implicitDefEqProofs only [push_cast, htd, Int.reduceBEq, Int.reduceBNe, Int.reduceEq, Int.reduceNe, Int.reducePow, Nat.reduceAdd, Nat.reduceMul, Nat.reduceSub, Nat.reduceLT, Nat.reduceLeDiff, Nat.reduceEqDiff, Nat.reduceBEq, Int.reduceLT, Int.reduceLE, Int.reduceAdd, Int.reduceSub, Int.reduceMul, Int.reduceToNat, Int.reduceNeg, reduceIte, reduceCtorEq, reduceBEq]
        (repeat (first | refine ⟨by omega, ?_⟩ | refine ⟨by (unfold drawOk; kernel_rfl), ?_⟩))
        refine callE_pure hgf (by rfl) (by rfl) (by rfl) (by decide) (by rfl) (fun _ => by rfl) (by first | rfl | simp [gdOk, newToks]) ?_
        simp -implicitDefEqProofs only [push_cast, h5, wb, wsq, Int.reduceBEq, Int.reduceBNe, Int.reduceEq, Int.reduceNe, Int.reducePow, Nat.reduceAdd, Nat.reduceMul, Nat.reduceSub, Nat.reduceLT, Nat.reduceLeDiff, Nat.reduceEqDiff, Nat.reduceBEq, Int.reduceLT, Int.reduceLE, Int.reduceAdd, Int.reduceSub, Int.reduceMul, Int.reduceToNat, Int.reduceNeg, reduceIte, reduceCtorEq, reduceBEq]
        (repeat (first | refine ⟨by omega, ?_⟩ | refine ⟨by (unfold drawOk; kernel_rfl), ?_⟩))
        (repeat (first | refine ⟨by omega, ?_⟩ | refine ⟨by (unfold drawOk; kernel_rfl), ?_⟩))
        all_goals first | done | exact ⟨_, rfl, by simp [wkL, res2, res1, res3, PV.weak, PV.el, ints, ot0, Ot.pv]⟩ | simp [wkL, res2, res1, res3, PV.weak, PV.el, ints, ot0, Ot.pv]
      · have h5' : ¬ xe = 0 := by simpa using h5
        rw [if_neg h5']
        (refine Fsp.of (nx := 0) mixed Tryd.func11 rfl (by decide) (by first | exact Nat.le_refl _ | simp) (by simp [Tryd.f11]) ⟨by decide, by decide⟩ ?_; simp -implicitDefEqProofs only [push_cast, Tryd.f11, Int.reduceBEq, Int.reduceBNe, Int.reduceEq, Int.reduceNe, Int.reducePow, Nat.reduceAdd, Nat.reduceMul, Nat.reduceSub, Nat.reduceLT, Nat.reduceLeDiff, Nat.reduceEqDiff, Nat.reduceBEq, Int.reduceLT, Int.reduceLE, Int.reduceAdd, Int.reduceSub, Int.reduceMul, Int.reduceToNat, Int.reduceNeg, reduceIte, reduceCtorEq, reduceBEq])
        refine callE_pure hp (by rfl) (by rfl) (by rfl) (by decide) (by rfl) (fun _ => by rfl) (by first | rfl | simp [gdOk, newToks]) ?_
        simp -implicitDefEqProofs only [push_cast, h2, wb, Int.reduceBEq, Int.reduceBNe, Int.reduceEq, Int.reduceNe, Int.reducePow, Nat.reduceAdd, Nat.reduceMul, Nat.reduceSub, Nat.reduceLT, Nat.reduceLeDiff, Nat.reduceEqDiff, Nat.reduceBEq, Int.reduceLT, Int.reduceLE, Int.reduceAdd, Int.reduceSub, Int.reduceMul, Int.reduceToNat, Int.reduceNeg, reduceIte, reduceCtorEq, reduceBEq]
        (repeat (first | refine ⟨by omega, ?_⟩ | refine ⟨by (unfold drawOk; kernel_rfl), ?_⟩))
        refine callE_pure hq (by rfl) (by rfl) (by rfl) (by decide) (by rfl) (fun _ => by rfl) (by first | rfl | simp [gdOk, newToks]) ?_
        simp -implicitDefEqProofs only [push_cast, Int.reduceBEq, Int.reduceBNe, Int.reduceEq, Int.reduceNe, Int.reducePow, Nat.reduceAdd, Nat.reduceMul, Nat.reduceSub, Nat.reduceLT, Nat.reduceLeDiff, Nat.reduceEqDiff, Nat.reduceBEq, Int.reduceLT, Int.reduceLE, Int.reduceAdd, Int.reduceSub, Int.reduceMul, Int.reduceToNat, Int.reduceNeg, reduceIte, reduceCtorEq, reduceBEq]
        (repeat (first | refine ⟨by omega, ?_⟩ | refine ⟨by (unfold drawOk; kernel_rfl), ?_⟩))
        refine callE_pure hg2 (by rfl) (by rfl) (by rfl) (by decide) (by rfl) (fun _ => by rfl) (by first | rfl | simp [gdOk, newToks]) ?_
        simp -implicitDefEqProofs only [push_cast, htd, Int.reduceBEq, Int.reduceBNe, Int.reduceEq, Int.reduceNe, Int.reducePow, Nat.reduceAdd, Nat.reduceMul, Nat.reduceSub, Nat.reduceLT, Nat.reduceLeDiff, Nat.reduceEqDiff, Nat.reduceBEq, Int.reduceLT, Int.reduceLE, Int.reduceAdd, Int.reduceSub, Int.reduceMul, Int.reduceToNat, Int.reduceNeg, reduceIte, reduceCtorEq, reduceBEq]
        (repeat (first | refine ⟨by omega, ?_⟩ | refine ⟨by (unfold drawOk; kernel_rfl), ?_⟩))
        refine callE_pure hgf (by rfl) (by rfl) (by rfl) (by decide) (by rfl) (fun _ => by rfl) (by first | rfl | simp [gdOk, newToks]) ?_
        simp -implicitDefEqProofs only [push_cast, h5, Int.reduceBEq, Int.reduceBNe, Int.reduceEq, Int.reduceNe, Int.reducePow, Nat.reduceAdd, Nat.reduceMul, Nat.reduceSub, Nat.reduceLT, Nat.reduceLeDiff, Nat.reduceEqDiff, Nat.reduceBEq, Int.reduceLT, Int.reduceLE, Int.reduceAdd, Int.reduceSub, Int.reduceMul, Int.reduceToNat, Int.reduceNeg, reduceIte, reduceCtorEq, reduceBEq]
        (repeat (first | refine ⟨by omega, ?_⟩ | refine ⟨by (unfold drawOk; kernel_rfl), ?_⟩))
        (repeat (first | refine ⟨by omega, ?_⟩ | refine ⟨by (unfold drawOk; kernel_rfl), ?_⟩))
        all_goals first | done | exact ⟨_, rfl, by simp [wkL, res2, res1, res3, PV.weak, PV.el, ints, ot0, Ot.pv]⟩ | simp [wkL, res2, res1, res3, PV.weak, PV.el, ints, ot0, Ot.pv]
    · have h2' : (s.length : Int) < (n : Int) := by simpa using h2
      rw [if_pos h2']
      (refine Fsp.of (nx := 0) mixed Tryd.func11 rfl (by decide) (by first | exact Nat.le_refl _ | simp) (by simp [Tryd.f11]) ⟨by decide, by decide⟩ ?_; simp -implicitDefEqProofs only [push_cast, Tryd.f11, Int.reduceBEq, Int.reduceBNe, Int.reduceEq, Int.reduceNe, Int.reducePow, Nat.reduceAdd, Nat.reduceMul, Nat.reduceSub, Nat.reduceLT, Nat.reduceLeDiff, Nat.reduceEqDiff, Nat.reduceBEq, Int.reduceLT, Int.reduceLE, Int.reduceAdd, Int.reduceSub, Int.reduceMul, Int.reduceToNat, Int.reduceNeg, reduceIte, reduceCtorEq, reduceBEq])
      refine callE_pure hp (by rfl) (by rfl) (by rfl) (by decide) (by rfl) (fun _ => by rfl) (by first | rfl | simp [gdOk, newToks]) ?_
      simp -implicitDefEqProofs only [push_cast, h2, Int.reduceBEq, Int.reduceBNe, Int.reduceEq, Int.reduceNe, Int.reducePow, Nat.reduceAdd, Nat.reduceMul, Nat.reduceSub, Nat.reduceLT, Nat.reduceLeDiff, Nat.reduceEqDiff, Nat.reduceBEq, Int.reduceLT, Int.reduceLE, Int.reduceAdd, Int.reduceSub, Int.reduceMul, Int.reduceToNat, Int.reduceNeg, reduceIte, reduceCtorEq, reduceBEq]
      (repeat (first | refine ⟨by omega, ?_⟩ | refine ⟨by (unfold drawOk; kernel_rfl), ?_⟩))
      (repeat (first | refine ⟨by omega, ?_⟩ | refine ⟨by (unfold drawOk; kernel_rfl), ?_⟩))
      all_goals first | done | exact ⟨_, rfl, by simp [wkL, res2, res1, res3, PV.weak, PV.el, ints, ot0, Ot.pv]⟩ | simp [wkL, res2, res1, res3, PV.weak, PV.el, ints, ot0, Ot.pv]
  · rw [tellG, if_neg h0]
    have he : ((tlenR o s).2 != 0) = true := by simpa using h0
    generalize tlenR o s = L at *
    obtain ⟨n, e⟩ := L
    simp only at hp he h0
    (refine Fsp.of (nx := 0) mixed Tryd.func11 rfl (by decide) (by first | exact Nat.le_refl _ | simp) (by simp [Tryd.f11]) ⟨by decide, by decide⟩ ?_; simp -implicitDefEqProofs only [push_cast, Tryd.f11, Int.reduceBEq, Int.reduceBNe, Int.reduceEq, Int.reduceNe, Int.reducePow, Nat.reduceAdd, Nat.reduceMul, Nat.reduceSub, Nat.reduceLT, Nat.reduceLeDiff, Nat.reduceEqDiff, Nat.reduceBEq, Int.reduceLT, Int.reduceLE, Int.reduceAdd, Int.reduceSub, Int.reduceMul, Int.reduceToNat, Int.reduceNeg, reduceIte, reduceCtorEq, reduceBEq])
    refine callE_pure hp (by rfl) (by rfl) (by rfl) (by decide) (by rfl) (fun _ => by rfl) (by first | rfl | simp [gdOk, newToks]) ?_
    simp -implicitDefEqProofs only [push_cast, he, Int.reduceBEq, Int.reduceBNe, Int.reduceEq, Int.reduceNe, Int.reducePow, Nat.reduceAdd, Nat.reduceMul, Nat.reduceSub, Nat.reduceLT, Nat.reduceLeDiff, Nat.reduceEqDiff, Nat.reduceBEq, Int.reduceLT, Int.reduceLE, Int.reduceAdd, Int.reduceSub, Int.reduceMul, Int.reduceToNat, Int.reduceNeg, reduceIte, reduceCtorEq, reduceBEq]
    (repeat (first | refine ⟨by omega, ?_⟩ | refine ⟨by (unfold drawOk; kernel_rfl), ?_⟩))
    (repeat (first | refine ⟨by omega, ?_⟩ | refine ⟨by (unfold drawOk; kernel_rfl), ?_⟩))
    all_goals first | done | exact ⟨_, rfl, by simp [wkL, res2, res1, res3, PV.weak, PV.el, ints, ot0, Ot.pv]⟩ | simp [wkL, res2, res1, res3, PV.weak, PV.el, ints, ot0, Ot.pv]

end Go.Proofs.Sh

/- Messages: what is put is got, and what is got is put. Plain. -/
set_option maxRecDepth 100000
set_option linter.unusedVariables false
namespace Go.Proofs.Sh
open Go.Pv
theorem enc2x (o v : Int) : ∃ a b, encB o 2 v = [a, b] := ⟨_, _, rfl⟩
theorem enc4x (o v : Int) : ∃ a b c d, encB o 4 v = [a, b, c, d] := ⟨_, _, _, _, rfl⟩
/-- A message's bytes, if they are. -/
theorem tellS_shape {o : Int} {r : Ot} (h : (tellS o r).2 = 0) : ∃ (f : Fm) (c0 c1 q0 q1 w0 w1 w2 w3 : UInt8) (X : List UInt8), isOrd o = true ∧ mForm r.K r.C = some f ∧ (tellS o r).1 = c0 :: c1 :: q0 :: q1 :: w0 :: w1 :: w2 :: w3 :: X ∧
    (c0.toNat : Int) = r.K ∧ (c1.toNat : Int) = r.C ∧ [q0, q1] = encB o 2 (r.Q % 65536) ∧ (decU o [q0, q1] : Int) = r.Q % 65536 ∧ decU o [w0, w1, w2, w3] = X.length / 4 + 2 ∧ [w0, w1, w2, w3] = encB o 4 ((X.length / 4 + 2 : Nat) : Int) ∧ X.length % 4 = 0 ∧ X.length ≤ 65536 ∧ X = fmt o f r.fd ∧ fitsE f r.fd = 0 ∧ 0 ≤ r.Q ∧ r.Q ≤ 1099511627776 := by
  unfold tellS at h ⊢
  split at h
  · rename_i ho
    rw [if_pos ho]
    cases hf : mForm r.K r.C with
    | none =>
      rw [tellP_none hf] at h
      have := mErr_ne r.K
      simp only at h
      rw [h] at this
      exact absurd this (by decide)
    | some f =>
      obtain ⟨-, hk1, hk2, hc1, hc2⟩ := mForm_some hf
      rw [tellP_some hf] at h ⊢
      unfold tellQ at h ⊢
      split at h
      · exact absurd h (by decide)
      · rename_i h1
        rw [if_neg h1]
        split at h
        · rename_i h2
          simp only at h
          rw [h] at h2
          exact absurd h2 (by decide)
        · rename_i h2
          rw [if_neg h2]
          split at h
          · exact absurd h (by decide)
          · rename_i h3
            rw [if_neg h3]
            have hm := fmt_mod o f r.fd
            have hE : fitsE f r.fd = 0 := by simpa using h2
            have hl : (fmt o f r.fd).length ≤ 65536 := by simp at h3; omega
            have hio := isOrd_of ho
            obtain ⟨q0, q1, hq⟩ := enc2x o (r.Q % 65536)
            obtain ⟨w0, w1, w2, w3, hw⟩ := enc4x o (((fmt o f r.fd).length / 4 + 2 : Nat) : Int)
            have d2 := dec_enc hio (s := 2) (by unfold isSize; omega) (r.Q % 65536)
            have d4 := dec_enc hio (s := 4) (by unfold isSize; omega) (((fmt o f r.fd).length / 4 + 2 : Nat) : Int)
            rw [show wid 2 = 2 from rfl, hq] at d2
            rw [show wid 4 = 4 from rfl, hw] at d4
            obtain ⟨K, hK⟩ := Int.eq_ofNat_of_zero_le hk1
            obtain ⟨C, hC⟩ := Int.eq_ofNat_of_zero_le (show 0 ≤ r.C by omega)
            refine ⟨f, byteAt r.K 0, byteAt r.C 0, q0, q1, w0, w1, w2, w3, fmt o f r.fd, ho, rfl, ?_, ?_, ?_, hq.symm, ?_, ?_, hw.symm, hm, hl, rfl, hE, by omega, by omega⟩
            · rw [thd, enc_1, enc_1, hq, hw]; rfl
            · rw [hK, byteAt_of]; omega
            · rw [hC, byteAt_of]; omega
            · rw [d2]; omega
            · omega
  · exact absurd h (by decide)
theorem tellS_none {o : Int} {r : Ot} (h : ¬ (tellS o r).2 = 0) : (tellS o r).1 = [] := by
  unfold tellS at h ⊢
  split at h
  · rename_i ho
    rw [if_pos ho]
    cases hf : mForm r.K r.C with
    | none => rw [tellP_none hf]
    | some f =>
      rw [tellP_some hf] at h ⊢
      unfold tellQ at h ⊢
      split at h
      · rename_i h1
        rw [if_pos h1]
      · rename_i h1
        rw [if_neg h1]
        split at h
        · rename_i h2
          rw [if_pos h2]
        · rename_i h2
          rw [if_neg h2]
          split at h
          · rename_i h3
            rw [if_pos h3]
          · exact absurd rfl h
  · rename_i ho
    rw [if_neg ho]
/-- What is told of bytes that have a message's head. -/
theorem tlenR_head {o : Int} (ho : isOrd o = true) {c0 c1 q0 q1 w0 w1 w2 w3 : UInt8} {Y : List UInt8} {f : Fm} (hf : mForm (c0.toNat : Int) (c1.toNat : Int) = some f) {n : Nat} (hw : decU o [w0, w1, w2, w3] = n) (h0 : 2 ≤ n) (h1 : n ≤ 16386) :
    tlenR o (c0 :: c1 :: q0 :: q1 :: w0 :: w1 :: w2 :: w3 :: Y) = (((4 * n : Nat) : Int), 0) := by
  have ht : tform (c0 :: c1 :: q0 :: q1 :: w0 :: w1 :: w2 :: w3 :: Y) = some f := hf
  have hwd : words o (c0 :: c1 :: q0 :: q1 :: w0 :: w1 :: w2 :: w3 :: Y) = n := hw
  rw [tlenR_some ho (by simp) ht, hwd, tlenW, if_neg (by omega), if_neg (by omega)]
theorem tellG_head {o : Int} (ho : isOrd o = true) {c0 c1 q0 q1 w0 w1 w2 w3 : UInt8} {Y : List UInt8} {f : Fm} (hf : mForm (c0.toNat : Int) (c1.toNat : Int) = some f) {n : Nat} (hw : decU o [w0, w1, w2, w3] = n + 2) (h1 : n + 2 ≤ 16386) :
    tellG o (c0 :: c1 :: q0 :: q1 :: w0 :: w1 :: w2 :: w3 :: Y) = if Y.length < 4 * n then (ot0, 0, 3) else if (getF o f (Y.take (4 * n))).2 = 0 then
      (⟨(c0.toNat : Int), (c1.toNat : Int), (decU o [q0, q1] : Int), (getF o f (Y.take (4 * n))).1.N, (getF o f (Y.take (4 * n))).1.B, (getF o f (Y.take (4 * n))).1.L⟩, ((4 * (n + 2) : Nat) : Int), 0)
      else (ot0, 0, (getF o f (Y.take (4 * n))).2) := by
  have hL := tlenR_head (q0 := q0) (q1 := q1) (Y := Y) ho hf hw (by omega) h1
  have ht : tform (c0 :: c1 :: q0 :: q1 :: w0 :: w1 :: w2 :: w3 :: Y) = some f := hf
  rw [tellG, hL, if_pos rfl, ht]
  simp only [Int.toNat_natCast]
  have htk : (List.take (4 * (n + 2)) (c0 :: c1 :: q0 :: q1 :: w0 :: w1 :: w2 :: w3 :: Y)).drop 8 = Y.take (4 * n) := by
    rw [show 4 * (n + 2) = 4 * n + 8 by omega]; rfl
  rw [htk]
  by_cases h : Y.length < 4 * n
  · rw [if_pos h, if_pos (by simp only [List.length_cons]; omega)]
  · rw [if_neg h, if_neg (by simp only [List.length_cons]; omega)]
    rfl
/-- What is said is got. -/
theorem tell_put_get {o : Int} {r : Ot} (h : (tellS o r).2 = 0) (s : List UInt8) : tellG o ((tellS o r).1 ++ s) = (⟨r.K, r.C, r.Q % 65536, r.N, r.B, r.L⟩, ((tellS o r).1.length : Int), 0) := by
  obtain ⟨f, c0, c1, q0, q1, w0, w1, w2, w3, X, ho, hf, hs, hk, hc, -, hq, hw, -, hm, hl, hX, hE, -, -⟩ := tellS_shape h
  obtain ⟨hok, -⟩ := mForm_some hf
  rw [hs]
  have hg := getF_fmt (isOrd_of ho) hok hE (by rw [← hX]; exact hl)
  rw [← hX] at hg
  have ht : (X ++ s).take (4 * (X.length / 4)) = X := List.take_left' (by omega)
  show tellG o (c0 :: c1 :: q0 :: q1 :: w0 :: w1 :: w2 :: w3 :: (X ++ s)) = _
  rw [tellG_head (f := f) (n := X.length / 4) ho (by rw [hk, hc]; exact hf) hw (by omega), if_neg (by simp only [List.length_append]; omega), ht, hg, if_pos rfl, hk, hc, hq]
  have hlen : ((4 * (X.length / 4 + 2) : Nat) : Int) = ((c0 :: c1 :: q0 :: q1 :: w0 :: w1 :: w2 :: w3 :: X).length : Int) := by simp only [List.length_cons]; omega
  rw [hlen]
  rfl
/-- Cut: too short. -/
theorem tell_cut {o : Int} {r : Ot} (h : (tellS o r).2 = 0) {k : Nat} (hk : k < (tellS o r).1.length) : tellG o ((tellS o r).1.take k) = (ot0, 0, 3) := by
  obtain ⟨f, c0, c1, q0, q1, w0, w1, w2, w3, X, ho, hf, hs, hk', hc, -, hq, hw, -, hm, hl, hX, hE, -, -⟩ := tellS_shape h
  rw [hs] at hk ⊢
  rcases Nat.lt_or_ge k 8 with h8 | h8
  · have hL : tlenR o ((c0 :: c1 :: q0 :: q1 :: w0 :: w1 :: w2 :: w3 :: X).take k) = (0, 3) := by
      rw [tlenR, if_pos ho, if_pos (by simp only [List.length_take]; omega)]
    rw [tellG, hL, if_neg (by decide)]
  · obtain ⟨k, rfl⟩ := Nat.exists_eq_add_of_le' h8
    show tellG o (c0 :: c1 :: q0 :: q1 :: w0 :: w1 :: w2 :: w3 :: X.take k) = _
    rw [tellG_head (f := f) (n := X.length / 4) ho (by rw [hk', hc]; exact hf) hw (by omega), if_pos (by simp only [List.length_cons] at hk; simp only [List.length_take]; omega)]
theorem tell_len {o : Int} {r : Ot} (h : (tellS o r).2 = 0) : 8 ≤ (tellS o r).1.length ∧ (tellS o r).1.length % 4 = 0 ∧ (tellS o r).1.length ≤ 65544 ∧ tlenR o ((tellS o r).1.take 8) = (((tellS o r).1.length : Int), 0) := by
  obtain ⟨f, c0, c1, q0, q1, w0, w1, w2, w3, X, ho, hf, hs, hk', hc, -, hq, hw, -, hm, hl, hX, hE, -, -⟩ := tellS_shape h
  rw [hs]
  refine ⟨by simp only [List.length_cons]; omega, by simp only [List.length_cons]; omega, by simp only [List.length_cons]; omega, ?_⟩
  show tlenR o (c0 :: c1 :: q0 :: q1 :: w0 :: w1 :: w2 :: w3 :: X.take 0) = _
  rw [tlenR_head (f := f) ho (by rw [hk', hc]; exact hf) hw (by omega) (by omega)]
  congr 1
  simp only [List.length_cons]; omega
theorem tellG_wrong {o : Int} {s : List UInt8} (h : ¬ (tellG o s).2.2 = 0) : (tellG o s).1 = ot0 ∧ (tellG o s).2.1 = 0 := by
  unfold tellG at h ⊢
  split at h
  · rename_i h1
    rw [if_pos h1]
    split at h
    · rename_i h2
      rw [if_pos h2]
      exact ⟨rfl, rfl⟩
    · rename_i h2
      rw [if_neg h2]
      split at h
      · exact ⟨rfl, rfl⟩
      · split at h
        · exact absurd rfl h
        · rename_i h3
          rw [if_neg h3]
          exact ⟨rfl, rfl⟩
  · rename_i h1
    rw [if_neg h1]
    exact ⟨rfl, rfl⟩
/-- What is got has the bytes that it was got from. -/
theorem tell_get_put {o : Int} {s : List UInt8} (h : (tellG o s).2.2 = 0) : ∃ n : Nat, (tellG o s).2.1 = (n : Int) ∧ 8 ≤ n ∧ n ≤ s.length ∧ tellS o (tellG o s).1 = (s.take n, 0) ∧ (tellG o s).1.N.length ≤ 16 ∧ (tellG o s).1.B.length ≤ 65536 ∧ (tellG o s).1.L.length ≤ 65536 := by
  have h0 : (tlenR o s).2 = 0 := by
    by_cases h1 : (tlenR o s).2 = 0
    · exact h1
    · rw [tellG, if_neg h1] at h
      exact absurd h h1
  obtain ⟨ho, h8, ⟨f, hf⟩, hL, hn1, hn2⟩ := tlen_ok h0
  match s, h8 with
  | c0 :: c1 :: q0 :: q1 :: w0 :: w1 :: w2 :: w3 :: Y, _ =>
    obtain ⟨n, hn⟩ : ∃ n, words o (c0 :: c1 :: q0 :: q1 :: w0 :: w1 :: w2 :: w3 :: Y) = n + 2 := ⟨words o (c0 :: c1 :: q0 :: q1 :: w0 :: w1 :: w2 :: w3 :: Y) - 2, by omega⟩
    have hw : decU o [w0, w1, w2, w3] = n + 2 := hn
    have hf' : mForm (c0.toNat : Int) (c1.toNat : Int) = some f := hf
    have hio := isOrd_of ho
    obtain ⟨hok, -⟩ := mForm_some hf'
    rw [tellG_head ho hf' hw (by omega)] at h ⊢
    split at h
    · exact absurd h (by simp)
    · rename_i h1
      rw [if_neg h1]
      split at h
      · rename_i h2
        rw [if_pos h2]
        obtain ⟨g1, g2⟩ := getF_back hio hok h2
        have hp := fitsE_parts g2
        have hFl : (getF o f (Y.take (4 * n))).1 = (getF o f (Y.take (4 * n))).1 := rfl
        refine ⟨4 * (n + 2), rfl, by omega, by simp only [List.length_cons]; omega, ?_, by have := hp.n; have := hok.n; simp only; omega, hp.bl, hp.ll⟩
        have hfd : (⟨(c0.toNat : Int), (c1.toNat : Int), (decU o [q0, q1] : Int), (getF o f (Y.take (4 * n))).1.N, (getF o f (Y.take (4 * n))).1.B, (getF o f (Y.take (4 * n))).1.L⟩ : Ot).fd = (getF o f (Y.take (4 * n))).1 := rfl
        have hq := decU_lt o [q0, q1]
        simp only [List.length_cons, List.length_nil, Nat.reduceAdd, Nat.reducePow] at hq
        have hlen : (fmt o f (getF o f (Y.take (4 * n))).1).length = 4 * n := by rw [g1, List.length_take]; omega
        have e2 := enc_read hio (s := 2) (by unfold isSize; omega) (b := [q0, q1]) rfl
        have e4 := enc_read hio (s := 4) (by unfold isSize; omega) (b := [w0, w1, w2, w3]) rfl
        have r2 : readV o 2 [q0, q1] = (decU o [q0, q1] : Int) := by
          rw [readV, if_neg (by simp [high]; omega)]
        have r4 : readV o 4 [w0, w1, w2, w3] = ((n + 2 : Nat) : Int) := by
          rw [readV, if_neg (by simp [high]; omega), hw]
        rw [r2] at e2
        rw [r4] at e4
        rw [show wid 2 = 2 from rfl] at e2
        rw [show wid 4 = 4 from rfl] at e4
        have b0 : byteAt (c0.toNat : Int) 0 = c0 := byteAt_eq (by have := c0.toNat_lt; omega)
        have b1 : byteAt (c1.toNat : Int) 0 = c1 := byteAt_eq (by have := c1.toNat_lt; omega)
        rw [tellS, if_pos ho, tellP_some (f := f) hf', tellQ, hfd, if_neg (by simp only; omega), if_neg (by rw [g2]; decide), if_neg (by rw [hlen]; simp; omega), g1]
        have hl4 : (Y.take (4 * n)).length / 4 + 2 = n + 2 := by rw [List.length_take]; omega
        have hqm : (decU o [q0, q1] : Int) % 65536 = (decU o [q0, q1] : Int) := by omega
        simp only [hl4, hqm]
        rw [thd, enc_1, enc_1, b0, b1, e2, e4, show 4 * (n + 2) = 4 * n + 8 by omega]
        rfl
      · rename_i h2
        exact absurd h h2
end Go.Proofs.Sh
