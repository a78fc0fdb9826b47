/- Numbers as bytes, and back. Plain. -/
import Derived.Test.YtbpjoeopnaggoaaDoorTlPut
import Derived.Test.YtbpjoeopnaggoaaDoorSbGoW
import Derived.Test.YtbpjoeopnaggoaaDoorSbWide
import Derived.Test.YtbpjoeopnaggoaaDoorPvFz
set_option maxRecDepth 100000
namespace Go.Proofs.Sh
open Go.Pv
theorem byteAt_nat (v : Int) (k : Nat) : ((byteAt v k).toNat : Int) = (v / 256 ^ k) % 256 := byteAt_toNat v k
theorem dec_enc {o : Int} (ho : isOrder o) {s : Int} (hs : isSize s) (v : Int) : (decU o (encB o (wid s) v) : Int) = v % 256 ^ wid s := by
  have h0 := byteAt_nat v 0
  have h1 := byteAt_nat v 1
  have h2 := byteAt_nat v 2
  have h3 := byteAt_nat v 3
  simp only [Int.reducePow] at h0 h1 h2 h3
  rcases ho with rfl | rfl <;> rcases hs with rfl | rfl | rfl | rfl | rfl | rfl <;>
    simp [encB, decU, little, wid, List.range_succ] <;> omega
theorem read_enc {o : Int} (ho : isOrder o) {s : Int} (hs : isSize s) {v : Int} (hf : fitsN s v = true) : readV o s (encB o (wid s) v) = v := by
  have h := dec_enc ho hs v
  unfold readV
  rcases hs with rfl | rfl | rfl | rfl | rfl | rfl <;> simp [fitsN, low, high, wid] at hf h ⊢ <;> split <;> omega
theorem fits_read {o : Int} {s : Int} (hs : isSize s) {b : List UInt8} (hb : b.length = wid s) : fitsN s (readV o s b) = true := by
  have h := decU_lt o b
  rw [hb] at h
  unfold readV
  rcases hs with rfl | rfl | rfl | rfl | rfl | rfl <;> simp [fitsN, low, high, wid] at h ⊢ <;> split <;> omega
theorem byteAt_eq {v : Int} {k : Nat} {x : UInt8} (h : (v / 256 ^ k) % 256 = (x.toNat : Int)) : byteAt v k = x := by
  apply UInt8.toNat_inj.1
  have := byteAt_nat v k
  omega
theorem enc_read {o : Int} (ho : isOrder o) {s : Int} (hs : isSize s) {b : List UInt8} (hb : b.length = wid s) : encB o (wid s) (readV o s b) = b := by
  have key : ∀ (k : Nat) (x : UInt8), k < 4 → ((decU o b : Int) / 256 ^ k) % 256 = (x.toNat : Int) → k < wid s → byteAt (readV o s b) k = x := by
    intro k x hk h hw
    apply byteAt_eq
    rw [← h]
    unfold readV
    split
    · have : k = 0 ∨ k = 1 ∨ k = 2 ∨ k = 3 := by omega
      rcases hs with rfl | rfl | rfl | rfl | rfl | rfl <;> rcases this with rfl | rfl | rfl | rfl <;> simp [wid] at hw ⊢ <;> omega
    · rfl
  rcases ho with rfl | rfl <;> rcases hs with rfl | rfl | rfl | rfl | rfl | rfl
  · match b, hb with
    | [b0], _ =>
      have h_b0 := b0.toNat_lt
      have e_b0 := key 0 b0 (by decide) (by simp [decU, little]; omega) (by decide)
      show [byteAt _ 0] = _
      rw [e_b0]
  · match b, hb with
    | [b0, b1], _ =>
      have h_b0 := b0.toNat_lt
      have h_b1 := b1.toNat_lt
      have e_b0 := key 0 b0 (by decide) (by simp [decU, little]; omega) (by decide)
      have e_b1 := key 1 b1 (by decide) (by simp [decU, little]; omega) (by decide)
      show [byteAt _ 0, byteAt _ 1] = _
      rw [e_b0, e_b1]
  · match b, hb with
    | [b0, b1, b2, b3], _ =>
      have h_b0 := b0.toNat_lt
      have h_b1 := b1.toNat_lt
      have h_b2 := b2.toNat_lt
      have h_b3 := b3.toNat_lt
      have e_b0 := key 0 b0 (by decide) (by simp [decU, little]; omega) (by decide)
      have e_b1 := key 1 b1 (by decide) (by simp [decU, little]; omega) (by decide)
      have e_b2 := key 2 b2 (by decide) (by simp [decU, little]; omega) (by decide)
      have e_b3 := key 3 b3 (by decide) (by simp [decU, little]; omega) (by decide)
      show [byteAt _ 0, byteAt _ 1, byteAt _ 2, byteAt _ 3] = _
      rw [e_b0, e_b1, e_b2, e_b3]
  · match b, hb with
    | [b0], _ =>
      have h_b0 := b0.toNat_lt
      have e_b0 := key 0 b0 (by decide) (by simp [decU, little]; omega) (by decide)
      show [byteAt _ 0] = _
      rw [e_b0]
  · match b, hb with
    | [b0, b1], _ =>
      have h_b0 := b0.toNat_lt
      have h_b1 := b1.toNat_lt
      have e_b0 := key 0 b0 (by decide) (by simp [decU, little]; omega) (by decide)
      have e_b1 := key 1 b1 (by decide) (by simp [decU, little]; omega) (by decide)
      show [byteAt _ 0, byteAt _ 1] = _
      rw [e_b0, e_b1]
  · match b, hb with
    | [b0, b1, b2, b3], _ =>
      have h_b0 := b0.toNat_lt
      have h_b1 := b1.toNat_lt
      have h_b2 := b2.toNat_lt
      have h_b3 := b3.toNat_lt
      have e_b0 := key 0 b0 (by decide) (by simp [decU, little]; omega) (by decide)
      have e_b1 := key 1 b1 (by decide) (by simp [decU, little]; omega) (by decide)
      have e_b2 := key 2 b2 (by decide) (by simp [decU, little]; omega) (by decide)
      have e_b3 := key 3 b3 (by decide) (by simp [decU, little]; omega) (by decide)
      show [byteAt _ 0, byteAt _ 1, byteAt _ 2, byteAt _ 3] = _
      rw [e_b0, e_b1, e_b2, e_b3]
  · match b, hb with
    | [b0], _ =>
      have h_b0 := b0.toNat_lt
      have e_b0 := key 0 b0 (by decide) (by simp [decU, little]; omega) (by decide)
      show [byteAt _ 0] = _
      rw [e_b0]
  · match b, hb with
    | [b0, b1], _ =>
      have h_b0 := b0.toNat_lt
      have h_b1 := b1.toNat_lt
      have e_b0 := key 1 b0 (by decide) (by simp [decU, little]; omega) (by decide)
      have e_b1 := key 0 b1 (by decide) (by simp [decU, little]; omega) (by decide)
      show [byteAt _ 1, byteAt _ 0] = _
      rw [e_b0, e_b1]
  · match b, hb with
    | [b0, b1, b2, b3], _ =>
      have h_b0 := b0.toNat_lt
      have h_b1 := b1.toNat_lt
      have h_b2 := b2.toNat_lt
      have h_b3 := b3.toNat_lt
      have e_b0 := key 3 b0 (by decide) (by simp [decU, little]; omega) (by decide)
      have e_b1 := key 2 b1 (by decide) (by simp [decU, little]; omega) (by decide)
      have e_b2 := key 1 b2 (by decide) (by simp [decU, little]; omega) (by decide)
      have e_b3 := key 0 b3 (by decide) (by simp [decU, little]; omega) (by decide)
      show [byteAt _ 3, byteAt _ 2, byteAt _ 1, byteAt _ 0] = _
      rw [e_b0, e_b1, e_b2, e_b3]
  · match b, hb with
    | [b0], _ =>
      have h_b0 := b0.toNat_lt
      have e_b0 := key 0 b0 (by decide) (by simp [decU, little]; omega) (by decide)
      show [byteAt _ 0] = _
      rw [e_b0]
  · match b, hb with
    | [b0, b1], _ =>
      have h_b0 := b0.toNat_lt
      have h_b1 := b1.toNat_lt
      have e_b0 := key 1 b0 (by decide) (by simp [decU, little]; omega) (by decide)
      have e_b1 := key 0 b1 (by decide) (by simp [decU, little]; omega) (by decide)
      show [byteAt _ 1, byteAt _ 0] = _
      rw [e_b0, e_b1]
  · match b, hb with
    | [b0, b1, b2, b3], _ =>
      have h_b0 := b0.toNat_lt
      have h_b1 := b1.toNat_lt
      have h_b2 := b2.toNat_lt
      have h_b3 := b3.toNat_lt
      have e_b0 := key 3 b0 (by decide) (by simp [decU, little]; omega) (by decide)
      have e_b1 := key 2 b1 (by decide) (by simp [decU, little]; omega) (by decide)
      have e_b2 := key 1 b2 (by decide) (by simp [decU, little]; omega) (by decide)
      have e_b3 := key 0 b3 (by decide) (by simp [decU, little]; omega) (by decide)
      show [byteAt _ 3, byteAt _ 2, byteAt _ 1, byteAt _ 0] = _
      rw [e_b0, e_b1, e_b2, e_b3]
end Go.Proofs.Sh

/- Numbers taken at their places. Plain. -/
set_option maxRecDepth 100000
namespace Go.Proofs.Sh
open Go.Pv
theorem num_at {o : Int} (ho : isOrder o) {z : Int} (hz : isSize z) {v : Int} (hf : fitsN z v = true) (P B : List UInt8) : num o (P ++ encB o (wid z) v ++ B) z ⟨P.length, 0⟩ = (v, ⟨P.length + wid z, 0⟩) := by
  have he := encB_length o (wid z) v
  rw [num, if_pos rfl, if_neg (by simp only [List.length_append, he]; omega)]
  have ht : ((P ++ encB o (wid z) v ++ B).drop P.length).take (wid z) = encB o (wid z) v := by
    rw [List.append_assoc, List.drop_left]
    exact List.take_left' he
  simp only [ht, read_enc ho hz hf]
theorem filP_zeros (P B : List UInt8) : ∀ k j : Nat, k + j ≤ 4 → filP (P ++ zeros (k + j) ++ B) k (P.length + j) = ⟨P.length + j + k, 0⟩
  | 0, j, _ => rfl
  | k + 1, j, h => by
    unfold filP
    rw [if_neg (by simp [zeros]; omega), if_pos (by
      have : (P ++ zeros (k + 1 + j) ++ B).getD (P.length + j) 0 = 0 := by
        rw [List.append_assoc, List.getD_eq_getElem?_getD, List.getElem?_append_right (by omega), List.getElem?_append_left (by simp [zeros])]
        simp [zeros]
      exact this)]
    have := filP_zeros P B k (j + 1) (by omega)
    rw [show k + 1 + j = k + (j + 1) by omega, show P.length + j + 1 = P.length + (j + 1) by omega, this]
    congr 1; omega
theorem fil_at (P B : List UInt8) : fil (P ++ zeros (padN P.length) ++ B) ⟨P.length, 0⟩ = ⟨P.length + padN P.length, 0⟩ := by
  rw [fil, if_pos rfl]
  exact filP_zeros P B (padN P.length) 0 (by have := padN_le P.length; omega)
theorem fil_p1 (P B : List UInt8) : fil (p1 P ++ B) ⟨P.length, 0⟩ = ⟨(p1 P).length, 0⟩ := by
  have h := fil_at P B
  rw [show (p1 P).length = P.length + padN P.length by simp [p1, zeros]]
  exact h
theorem row_cons (o z v : Int) (F N : List Int) (k : Nat) : row o (z :: F) (v :: N) (k + 1) = putS o z v ++ row o F N k := by
  simp only [row, List.range_succ_eq_map, List.flatMap_cons, List.flatMap_map]
  rfl
theorem allFit_cons {z v : Int} {F N : List Int} {k : Nat} : allFit (z :: F) (v :: N) (k + 1) = (fitsN z v && allFit F N k) := by
  simp only [allFit, List.range_succ_eq_map, List.all_cons, List.all_map]
  rfl
theorem nums_row {o : Int} (ho : isOrder o) : ∀ (F N : List Int) (P B : List UInt8), N.length = F.length → (∀ z ∈ F, isSize z) → allFit F N N.length = true →
    nums o (P ++ row o F N N.length ++ B) F ⟨P.length, 0⟩ = (N, ⟨(P ++ row o F N N.length).length, 0⟩)
  | [], [], P, B, _, _, _ => by simp [nums, row]
  | [], _ :: _, _, _, h, _, _ => by simp at h
  | _ :: _, [], _, _, h, _, _ => by simp at h
  | z :: F, v :: N, P, B, hl, hs, hf => by
    rw [List.length_cons, allFit_cons, Bool.and_eq_true] at hf
    have hz := hs z (List.mem_cons_self ..)
    have hp : putS o z v = encB o (wid z) v := by rw [putS, if_pos hf.1]
    rw [List.length_cons, row_cons, hp]
    have h1 := num_at ho hz hf.1 P (row o F N N.length ++ B)
    have h2 := nums_row ho F N (P ++ encB o (wid z) v) B (by simpa using hl) (fun y hy => hs y (List.mem_cons_of_mem _ hy)) hf.2
    have e1 : P ++ (encB o (wid z) v ++ row o F N N.length) ++ B = P ++ encB o (wid z) v ++ (row o F N N.length ++ B) := by simp
    have e2 : P ++ encB o (wid z) v ++ row o F N N.length ++ B = P ++ encB o (wid z) v ++ (row o F N N.length ++ B) := by simp
    rw [e2] at h2
    rw [e1]
    have e3 : (P ++ encB o (wid z) v).length = P.length + wid z := by rw [List.length_append, encB_length]
    rw [e3] at h2
    simp only [nums, h1, h2]
    simp
theorem row1_row (o z : Int) : ∀ (L : List Int), row1 o z L L.length = row o (List.replicate L.length z) L L.length := by
  intro L
  simp only [row1, row, List.flatMap_def]
  congr 1
  apply List.map_congr_left
  intro j hj
  rw [List.mem_range] at hj
  rw [show (List.replicate L.length z).getD j 0 = z by simp [List.getD_eq_getElem?_getD, hj]]
theorem rowFit_all (z : Int) (L : List Int) (h : rowFit z L L.length = true) : allFit (List.replicate L.length z) L L.length = true := by
  unfold allFit
  unfold rowFit at h
  rw [List.all_eq_true] at h ⊢
  intro j hj
  have hj' := List.mem_range.1 hj
  rw [show (List.replicate L.length z).getD j 0 = z by simp [List.getD_eq_getElem?_getD, hj']]
  exact h j hj
/-- What fits, part by part. -/
structure FitsR (f : Fm) (x : Fd) : Prop where
  n : x.N.length = f.F.length
  a : allFit f.F x.N x.N.length = true
  b : f.B = true ∨ x.B = []
  bl : x.B.length ≤ 65536
  l : f.L ≠ 0 ∨ x.L = []
  ll : x.L.length ≤ 65536
  r : rowFit f.L x.L x.L.length = true
theorem fitsE_parts {f : Fm} {x : Fd} (h : fitsE f x = 0) : FitsR f x := by
  unfold fitsE at h
  split at h
  · exact absurd h (by decide)
  rename_i h1
  split at h
  · exact absurd h (by decide)
  rename_i h2
  split at h
  · exact absurd h (by decide)
  rename_i h3
  split at h
  · exact absurd h (by decide)
  rename_i h4
  split at h
  · exact absurd h (by decide)
  rename_i h5
  split at h
  · exact absurd h (by decide)
  rename_i h6
  split at h
  · exact absurd h (by decide)
  rename_i h7
  refine ⟨by simp at h1; omega, by simpa using h2, ?_, by simp at h4; omega, ?_, by simp at h6; omega, by simpa using h7⟩
  · cases hb : f.B
    · right
      rw [hb] at h3
      simpa using h3
    · exact .inl rfl
  · rcases Decidable.em (f.L = 0) with hl | hl
    · right
      rw [hl] at h5
      simp at h5
      exact List.eq_nil_of_length_eq_zero (by simpa using h5)
    · exact .inl hl
theorem putS4 {o : Int} {n : Nat} (h : n ≤ 65536) : fitsN 4 (n : Int) = true ∧ putS o 4 (n : Int) = encB o (wid 4) (n : Int) := by
  have hf : fitsN 4 (n : Int) = true := by simp [fitsN, low, high]; omega
  exact ⟨hf, by rw [putS, if_pos hf]⟩
/-- The text, taken where it was put. -/
theorem stB_at {o : Int} (ho : isOrder o) (P t B : List UInt8) (ht : t.length ≤ 65536) :
    stB o (p1 (P ++ putS o 4 t.length ++ t) ++ B) true ⟨P.length, 0⟩ = (true, t, ⟨(p1 (P ++ putS o 4 t.length ++ t)).length, 0⟩) := by
  obtain ⟨hf, hp⟩ := putS4 (o := o) ht
  have hz : isSize 4 := by unfold isSize; omega
  have hw : wid 4 = 4 := rfl
  have he := encB_length o (wid 4) (t.length : Int)
  have e1 : p1 (P ++ putS o 4 t.length ++ t) ++ B = P ++ encB o (wid 4) (t.length : Int) ++ (t ++ (zeros (padN (P ++ putS o 4 t.length ++ t).length) ++ B)) := by
    rw [p1, hp]; simp only [List.append_assoc]
  have hn := num_at ho hz hf P (t ++ (zeros (padN (P ++ putS o 4 t.length ++ t).length) ++ B))
  have hfl := fil_p1 (P ++ putS o 4 t.length ++ t) B
  rw [← e1] at hn
  rw [stB, if_pos rfl, hn]
  simp only [if_true]
  have hlen : (p1 (P ++ putS o 4 t.length ++ t) ++ B).length = P.length + wid 4 + (t.length + (padN (P ++ putS o 4 t.length ++ t).length + B.length)) := by
    rw [e1]; simp only [List.length_append, he, zeros, List.length_replicate]
  rw [if_neg (by rw [hlen]; omega)]
  have hd : (p1 (P ++ putS o 4 t.length ++ t) ++ B).drop (P.length + wid 4) = t ++ (zeros (padN (P ++ putS o 4 t.length ++ t).length) ++ B) := by
    rw [e1]
    exact List.drop_left' (by rw [List.length_append, he])
  have hl2 : (P ++ putS o 4 t.length ++ t).length = P.length + wid 4 + t.length := by rw [hp]; simp only [List.length_append, he]
  rw [hl2] at hfl
  rw [hd, Int.toNat_natCast, List.take_left, hfl]
theorem row_len {o : Int} {z : Int} : ∀ (L : List Int), allFit (List.replicate L.length z) L L.length = true → (row o (List.replicate L.length z) L L.length).length = L.length * wid z
  | [], _ => by simp [row]
  | v :: L, h => by
    rw [List.length_cons, List.replicate_succ, allFit_cons, Bool.and_eq_true] at h
    rw [List.length_cons, List.replicate_succ, row_cons, List.length_append, row_len L h.2, putS, if_pos h.1, encB_length, Nat.succ_mul]
    omega
/-- The row, taken where it was put. -/
theorem stL_at {o : Int} (ho : isOrder o) {z : Int} (hz : isSize z) (P : List UInt8) (L : List Int) (hL : L.length ≤ 65536) (hf : rowFit z L L.length = true) :
    stL o (p1 (P ++ putS o 4 L.length ++ row1 o z L L.length)) z ⟨P.length, 0⟩ = (L, ⟨(p1 (P ++ putS o 4 L.length ++ row1 o z L L.length)).length, 0⟩) := by
  obtain ⟨hf4, hp⟩ := putS4 (o := o) hL
  have hz4 : isSize 4 := by unfold isSize; omega
  have hz0 : ¬ z = 0 := by rcases hz with rfl | rfl | rfl | rfl | rfl | rfl <;> decide
  have he := encB_length o (wid 4) (L.length : Int)
  have hr := row1_row o z L
  have hall := rowFit_all z L hf
  have hnr := nums_row ho (List.replicate L.length z) L (P ++ putS o 4 L.length) (zeros (padN (P ++ putS o 4 L.length ++ row1 o z L L.length).length)) (by simp) (fun y hy => by rw [List.eq_of_mem_replicate hy]; exact hz) hall
  rw [← hr] at hnr
  have hfl := fil_p1 (P ++ putS o 4 L.length ++ row1 o z L L.length) []
  rw [List.append_nil] at hfl
  have e1 : p1 (P ++ putS o 4 L.length ++ row1 o z L L.length) = P ++ encB o (wid 4) (L.length : Int) ++ (row1 o z L L.length ++ zeros (padN (P ++ putS o 4 L.length ++ row1 o z L L.length).length)) := by
    rw [p1, hp]; simp only [List.append_assoc]
  have hn := num_at ho hz4 hf4 P (row1 o z L L.length ++ zeros (padN (P ++ putS o 4 L.length ++ row1 o z L L.length).length))
  rw [← e1] at hn
  rw [show P ++ putS o 4 ↑L.length ++ row1 o z L L.length ++ zeros (padN (P ++ putS o 4 ↑L.length ++ row1 o z L L.length).length) = p1 (P ++ putS o 4 L.length ++ row1 o z L L.length) from rfl] at hnr
  rw [show (P ++ putS o 4 (L.length : Int)).length = P.length + wid 4 by rw [hp, List.length_append, he]] at hnr
  rw [stL, if_neg hz0, hn]
  simp only [if_true, Int.toNat_natCast]
  have hrl := row_len (o := o) L hall
  rw [← hr] at hrl
  have hlen : (p1 (P ++ putS o 4 L.length ++ row1 o z L L.length)).length = P.length + wid 4 + (L.length * wid z + padN (P ++ putS o 4 L.length ++ row1 o z L L.length).length) := by
    rw [e1]; simp only [List.length_append, he, zeros, List.length_replicate, hrl]
  have hm : (L.length : Int) * (wid z : Int) = ((L.length * wid z : Nat) : Int) := (Int.natCast_mul _ _).symm
  rw [hm, if_neg (by rw [hlen]; omega), hnr]
  simp only
  rw [hfl]
end Go.Proofs.Sh

/- What is put is got, and what is got is put. Plain. -/
set_option maxRecDepth 100000
namespace Go.Proofs.Sh
open Go.Pv
theorem p1_eq (l : List UInt8) : p1 l = l ++ zeros (padN l.length) := rfl
theorem stB_none {o : Int} {s : List UInt8} {c : Cu} : stB o s false c = (true, [], c) := by rw [stB, if_neg (by decide)]
theorem stL_none {o : Int} {s : List UInt8} {c : Cu} : stL o s 0 c = ([], c) := by rw [stL, if_pos rfl]
/-- The text of fields, taken where it was put. -/
theorem stB_fmt {o : Int} (ho : isOrder o) {f : Fm} {x : Fd} (h : FitsR f x) (B : List UInt8) :
    stB o (fmt2 o f x ++ B) f.B ⟨(fmt1 o f x).length, 0⟩ = (true, x.B, ⟨(fmt2 o f x).length, 0⟩) := by
  cases hb : f.B
  · have hx : x.B = [] := by rcases h.b with h1 | h1
                             · rw [hb] at h1; cases h1
                             · exact h1
    have h2 : fmt2 o f x = fmt1 o f x := by rw [fmt2, if_neg (by rw [hb]; decide)]
    rw [stB_none, hx, h2]
  · have h2 : fmt2 o f x = p1 (fmt1 o f x ++ putS o 4 x.B.length ++ x.B) := by rw [fmt2, if_pos hb]
    rw [h2]
    exact stB_at ho (fmt1 o f x) x.B B h.bl
theorem stL_fmt {o : Int} (ho : isOrder o) {f : Fm} (hf : f.Ok) {x : Fd} (h : FitsR f x) :
    stL o (fmt o f x) f.L ⟨(fmt2 o f x).length, 0⟩ = (x.L, ⟨(fmt o f x).length, 0⟩) := by
  rcases Decidable.em (f.L = 0) with hl | hl
  · have hx : x.L = [] := by rcases h.l with h1 | h1
                             · exact absurd hl h1
                             · exact h1
    have h2 : fmt o f x = fmt2 o f x := by rw [fmt, if_neg (by simp [hl])]
    rw [h2, hl, stL_none, hx]
  · have h2 : fmt o f x = p1 (fmt2 o f x ++ putS o 4 x.L.length ++ row1 o f.L x.L x.L.length) := by rw [fmt, if_pos (by simpa using hl)]
    have hz : isSize f.L := hf.l.resolve_left hl
    rw [h2]
    exact stL_at ho hz (fmt2 o f x) x.L h.ll h.r
theorem fmt2_ext (o : Int) (f : Fm) (x : Fd) : ∃ C, fmt2 o f x = fmt1 o f x ++ C := by
  unfold fmt2
  split
  · exact ⟨putS o 4 x.B.length ++ x.B ++ zeros (padN (fmt1 o f x ++ putS o 4 x.B.length ++ x.B).length), by rw [p1]; simp only [List.append_assoc]⟩
  · exact ⟨[], (List.append_nil _).symm⟩
theorem fmt_ext (o : Int) (f : Fm) (x : Fd) : ∃ C, fmt o f x = fmt2 o f x ++ C := by
  unfold fmt
  split
  · exact ⟨putS o 4 x.L.length ++ row1 o f.L x.L x.L.length ++ zeros (padN (fmt2 o f x ++ putS o 4 x.L.length ++ row1 o f.L x.L x.L.length).length), by rw [p1]; simp only [List.append_assoc]⟩
  · exact ⟨[], (List.append_nil _).symm⟩
/-- What is put is got. -/
theorem body_fmt {o : Int} (ho : isOrder o) {f : Fm} (hf : f.Ok) {x : Fd} (h : fitsE f x = 0) : body o (fmt o f x) f ⟨0, 0⟩ = (x, ⟨(fmt o f x).length, 0⟩) := by
  have hp := fitsE_parts h
  obtain ⟨C1, hC1⟩ := fmt2_ext o f x
  obtain ⟨C2, hC2⟩ := fmt_ext o f x
  have hn : nums o (fmt o f x) f.F ⟨0, 0⟩ = (x.N, ⟨(row o f.F x.N x.N.length).length, 0⟩) := by
    have := nums_row ho f.F x.N [] (zeros (padN (row o f.F x.N x.N.length).length) ++ (C1 ++ C2)) hp.n hf.s hp.a
    have e : [] ++ row o f.F x.N x.N.length ++ (zeros (padN (row o f.F x.N x.N.length).length) ++ (C1 ++ C2)) = fmt o f x := by
      rw [hC2, hC1, fmt1, p1]; simp only [List.append_assoc, List.nil_append]
    rw [e] at this
    exact this
  have hfl : fil (fmt o f x) ⟨(row o f.F x.N x.N.length).length, 0⟩ = ⟨(fmt1 o f x).length, 0⟩ := by
    have := fil_p1 (row o f.F x.N x.N.length) (C1 ++ C2)
    have e : p1 (row o f.F x.N x.N.length) ++ (C1 ++ C2) = fmt o f x := by
      rw [hC2, hC1, fmt1]; simp only [List.append_assoc]
    rw [e] at this
    exact this
  have hB := stB_fmt ho hp C2
  rw [← hC2] at hB
  have hL := stL_fmt ho hf hp
  unfold body
  simp only [hn, hfl, hB, hL, if_true]
theorem getF_fmt {o : Int} (ho : isOrder o) {f : Fm} (hf : f.Ok) {x : Fd} (h : fitsE f x = 0) (hl : (fmt o f x).length ≤ 65536) : getF o f (fmt o f x) = (x, 0) := by
  have hb := body_fmt ho hf h
  have hX : getX (fmt o f x) ⟨(fmt o f x).length, 0⟩ = 0 := by rw [getX, if_neg (by simp)]
  rw [getF, if_neg (by omega), hb]
  simp only [hX, if_true]
/-- Back: a number. -/
theorem num_back {o : Int} (ho : isOrder o) {z : Int} (hz : isSize z) {s : List UInt8} {c : Cu} (h : (num o s z c).2.e = 0) :
    c.e = 0 ∧ (num o s z c).2.a ≤ s.length ∧ (num o s z c).2.a = c.a + wid z ∧ fitsN z (num o s z c).1 = true ∧ s.take (num o s z c).2.a = s.take c.a ++ putS o z (num o s z c).1 := by
  unfold num at h ⊢
  split at h
  · rename_i h0
    rw [if_pos h0]
    split at h
    · exact absurd h (by simp)
    · rename_i h1
      rw [if_neg h1]
      have hb : ((s.drop c.a).take (wid z)).length = wid z := by simp; omega
      have hfit := fits_read (o := o) hz hb
      refine ⟨h0, by simp only; omega, rfl, hfit, ?_⟩
      simp only [putS, if_pos hfit, enc_read ho hz hb, List.take_add]
  · rename_i h0
    exact absurd h h0
theorem nums_back {o : Int} (ho : isOrder o) {s : List UInt8} : ∀ (F : List Int) {c : Cu}, (∀ z ∈ F, isSize z) → (nums o s F c).2.e = 0 → c.a ≤ s.length →
    c.e = 0 ∧ (nums o s F c).2.a ≤ s.length ∧ allFit F (nums o s F c).1 (nums o s F c).1.length = true ∧ s.take (nums o s F c).2.a = s.take c.a ++ row o F (nums o s F c).1 (nums o s F c).1.length
  | [], c, _, h, ha => ⟨h, ha, by simp [nums, allFit], by simp [nums, row]⟩
  | z :: F, c, hs, h, ha => by
    have h' : (nums o s F (num o s z c).2).2.e = 0 := h
    obtain ⟨h1, h2, h3, h4⟩ := nums_back ho F (fun y hy => hs y (List.mem_cons_of_mem _ hy)) h' (num_le ha)
    obtain ⟨g1, g2, g3, g4, g5⟩ := num_back ho (hs z (List.mem_cons_self ..)) h1
    refine ⟨g1, h2, ?_, ?_⟩
    · show allFit (z :: F) ((num o s z c).1 :: (nums o s F (num o s z c).2).1) ((nums o s F (num o s z c).2).1.length + 1) = true
      rw [allFit_cons, g4, h3]; rfl
    · show s.take (nums o s F (num o s z c).2).2.a = s.take c.a ++ row o (z :: F) ((num o s z c).1 :: (nums o s F (num o s z c).2).1) ((nums o s F (num o s z c).2).1.length + 1)
      rw [row_cons, h4, g5, List.append_assoc]
theorem filP_back {s : List UInt8} : ∀ (k a : Nat), a ≤ s.length → (filP s k a).e = 0 → (filP s k a).a = a + k ∧ a + k ≤ s.length ∧ s.take (a + k) = s.take a ++ zeros k
  | 0, a, ha, _ => ⟨rfl, ha, by simp [zeros]⟩
  | k + 1, a, ha, h => by
    unfold filP at h ⊢
    split at h
    · exact absurd h (by simp)
    · rename_i h1
      split at h
      · rename_i h2
        obtain ⟨g1, g2, g3⟩ := filP_back k (a + 1) (by omega) h
        rw [if_neg h1, if_pos h2]
        refine ⟨by rw [g1]; omega, by omega, ?_⟩
        rw [show a + (k + 1) = a + 1 + k by omega, g3]
        have hlt : a < s.length := by omega
        rw [List.take_add_one, List.getElem?_eq_getElem hlt]
        have h3 : s[a] = 0 := by
          rw [List.getD_eq_getElem?_getD, List.getElem?_eq_getElem hlt] at h2; exact h2
        rw [h3]
        simp [zeros, List.replicate_succ]
      · exact absurd h (by simp)
theorem fil_back {s : List UInt8} {c : Cu} (ha : c.a ≤ s.length) (h : (fil s c).e = 0) : c.e = 0 ∧ (fil s c).a ≤ s.length ∧ s.take (fil s c).a = p1 (s.take c.a) := by
  unfold fil at h ⊢
  split at h
  · rename_i h0
    rw [if_pos h0]
    obtain ⟨g1, g2, g3⟩ := filP_back _ _ ha h
    refine ⟨h0, by rw [g1]; exact g2, ?_⟩
    rw [g1, g3, p1, List.length_take, Nat.min_eq_left ha]
  · rename_i h0
    exact absurd h h0
theorem stB_back {o : Int} (ho : isOrder o) {s : List UInt8} {b : Bool} {c : Cu} (ha : c.a ≤ s.length) (hs : s.length ≤ 65536) (h : (stB o s b c).2.2.e = 0) :
    c.e = 0 ∧ (stB o s b c).1 = true ∧ (stB o s b c).2.2.a ≤ s.length ∧ (b = true ∨ (stB o s b c).2.1 = []) ∧ (stB o s b c).2.1.length ≤ 65536 ∧
      s.take (stB o s b c).2.2.a = if b = true then p1 (s.take c.a ++ putS o 4 (stB o s b c).2.1.length ++ (stB o s b c).2.1) else s.take c.a := by
  cases b
  · rw [stB_none] at h ⊢
    exact ⟨h, rfl, ha, .inr rfl, by simp, rfl⟩
  · have h4 := num4 (s := s) ho c
    have hz4 : isSize 4 := by unfold isSize; omega
    unfold stB at h ⊢
    rw [if_pos rfl] at h ⊢
    split at h
    · rename_i h1
      rw [if_pos h1]
      obtain ⟨g1, g2, g3, g4, g5⟩ := num_back ho hz4 h1
      split at h
      · exact absurd h (by simp)
      · rename_i h2
        rw [if_neg h2]
        obtain ⟨n, hn⟩ := Int.eq_ofNat_of_zero_le h4.1
        have hlen : ((s.drop (num o s 4 c).2.a).take (num o s 4 c).1.toNat).length = n := by
          rw [hn]; rw [hn] at h2; simp; omega
        have hle : (num o s 4 c).2.a + (num o s 4 c).1.toNat ≤ s.length := by rw [hn]; rw [hn] at h2; simp; omega
        obtain ⟨k1, k2, k3⟩ := fil_back (c := ⟨(num o s 4 c).2.a + (num o s 4 c).1.toNat, 0⟩) hle h
        refine ⟨g1, rfl, k2, .inl rfl, by rw [hlen]; rw [hn] at hle; simp at hle; omega, ?_⟩
        simp only [if_true]
        rw [k3, hlen, List.take_add, g5]
        rw [hn]
        try rfl
    · rename_i h1
      exact absurd h h1
theorem allFit_rep (z : Int) (L : List Int) (h : allFit (List.replicate L.length z) L L.length = true) : rowFit z L L.length = true := by
  unfold allFit at h
  unfold rowFit
  rw [List.all_eq_true] at h ⊢
  intro j hj
  have hj' := List.mem_range.1 hj
  have := h j hj
  rwa [show (List.replicate L.length z).getD j 0 = z by simp [List.getD_eq_getElem?_getD, hj']] at this
theorem stL_back {o : Int} (ho : isOrder o) {s : List UInt8} {z : Int} (hz : z = 0 ∨ isSize z) {c : Cu} (ha : c.a ≤ s.length) (hs : s.length ≤ 65536) (h : (stL o s z c).2.e = 0) :
    c.e = 0 ∧ (stL o s z c).2.a ≤ s.length ∧ (z ≠ 0 ∨ (stL o s z c).1 = []) ∧ (stL o s z c).1.length ≤ 65536 ∧ rowFit z (stL o s z c).1 (stL o s z c).1.length = true ∧
      s.take (stL o s z c).2.a = if (z != 0) = true then p1 (s.take c.a ++ putS o 4 (stL o s z c).1.length ++ row1 o z (stL o s z c).1 (stL o s z c).1.length) else s.take c.a := by
  rcases Decidable.em (z = 0) with rfl | hz0
  · rw [stL_none] at h ⊢
    exact ⟨h, ha, .inr rfl, by simp, by simp [rowFit], rfl⟩
  · have hzs := hz.resolve_left hz0
    have hw := wid_pos hzs
    have h4 := num4 (s := s) ho c
    have hz4 : isSize 4 := by unfold isSize; omega
    unfold stL at h ⊢
    rw [if_neg hz0] at h ⊢
    split at h
    · rename_i h1
      rw [if_pos h1]
      obtain ⟨g1, g2, g3, g4, g5⟩ := num_back ho hz4 h1
      split at h
      · exact absurd h (by simp)
      · rename_i h2
        rw [if_neg h2]
        obtain ⟨n, hn⟩ := Int.eq_ofNat_of_zero_le h4.1
        have hlen := nums_length (o := o) (s := s) (List.replicate (num o s 4 c).1.toNat z) (num o s 4 c).2
        rw [List.length_replicate] at hlen
        have hnn : (num o s 4 c).1.toNat = n := by rw [hn]; rfl
        rw [hnn] at h hlen
        have hle : (nums o s (List.replicate n z) (num o s 4 c).2).2.a ≤ s.length := nums_le _ g2
        obtain ⟨k1, k2, k3⟩ := fil_back hle h
        obtain ⟨q1, q2, q3, q4⟩ := nums_back ho (List.replicate n z) (fun y hy => by rw [List.eq_of_mem_replicate hy]; exact hzs) k1 g2
        rw [hnn]
        have hnl : n ≤ 65536 := by
          rw [hn] at h2
          have : (n : Int) ≤ (n : Int) * (wid z : Int) := by
            have := Int.mul_le_mul_of_nonneg_left (show (1 : Int) ≤ (wid z : Int) by omega) (Int.natCast_nonneg n)
            omega
          try simp only [Int.ofNat_eq_natCast] at h2
          omega
        rw [hlen] at q3 q4
        have hr : List.replicate n z = List.replicate (nums o s (List.replicate n z) (num o s 4 c).2).1.length z := by rw [hlen]
        refine ⟨g1, k2, .inl hz0, by rw [hlen]; exact hnl, ?_, ?_⟩
        · apply allFit_rep
          rw [hlen]; exact q3
        · rw [if_pos (by simpa using hz0), k3, q4, g5, hlen]
          rw [hn]
          congr 2
          have := row1_row o z (nums o s (List.replicate n z) (num o s 4 c).2).1
          rw [hlen] at this
          exact this.symm
    · rename_i h1
      exact absurd h h1
/-- What is got is put as just these bytes. -/
theorem body_back {o : Int} (ho : isOrder o) {f : Fm} (hf : f.Ok) {s : List UInt8} (hs : s.length ≤ 65536) {x : Fd} {c : Cu} (h : body o s f ⟨0, 0⟩ = (x, c)) (he : c.e = 0) :
    c.a ≤ s.length ∧ s.take c.a = fmt o f x ∧ fitsE f x = 0 := by
  unfold body at h
  split at h
  · rename_i h1
    obtain ⟨rfl, rfl⟩ := Prod.mk.inj h
    have a0 : (0 : Nat) ≤ s.length := Nat.zero_le _
    have a1 : (fil s (nums o s f.F ⟨0, 0⟩).2).a ≤ s.length := fil_le (nums_le f.F (c := ⟨0, 0⟩) a0)
    have a2 : (stB o s f.B (fil s (nums o s f.F ⟨0, 0⟩).2)).2.2.a ≤ s.length := by
      have : ∀ b (c : Cu), c.a ≤ s.length → (stB o s b c).2.2.a ≤ s.length := by
        intro b c hc
        cases b
        · rw [stB_none]; exact hc
        · have h4 := num4 (s := s) ho c
          unfold stB
          rw [if_pos rfl]
          split
          · split
            · exact num_le hc
            · rename_i h2
              have := num_le (o := o) (z := 4) hc
              exact fil_le (by simp only; omega)
          · exact num_le hc
      exact this _ _ a1
    obtain ⟨l1, l2, l3, l4, l5, l6⟩ := stL_back ho hf.l a2 hs he
    obtain ⟨b1, b2, b3, b4, b5, b6⟩ := stB_back ho a1 hs l1
    obtain ⟨f1, f2, f3⟩ := fil_back (nums_le f.F (c := ⟨0, 0⟩) a0) b1
    obtain ⟨n1, n2, n3, n4⟩ := nums_back ho f.F (c := ⟨0, 0⟩) hf.s f1 a0
    have hN := nums_length (o := o) (s := s) f.F ⟨0, 0⟩
    rw [List.take_zero, List.nil_append] at n4
    refine ⟨l2, ?_, ?_⟩
    · rw [l6, b6, f3, n4]
      rfl
    · generalize (nums o s f.F ⟨0, 0⟩).1 = N at *
      generalize (stL o s f.L (stB o s f.B (fil s (nums o s f.F ⟨0, 0⟩).2)).2.2).1 = L at *
      generalize (stB o s f.B (fil s (nums o s f.F ⟨0, 0⟩).2)).2.1 = B at *
      unfold fitsE
      rw [if_neg (by simp [hN]), if_neg (by rw [n3]; decide), if_neg (by rcases b4 with h | h <;> simp [h]), if_neg (by simp; omega), if_neg (by rcases l3 with h | h <;> simp [h]), if_neg (by simp; omega), if_neg (by rw [l5]; decide)]
  · rename_i h1
    obtain ⟨rfl, rfl⟩ := Prod.mk.inj h
    have a1 : (fil s (nums o s f.F ⟨0, 0⟩).2).a ≤ s.length := fil_le (nums_le f.F (c := ⟨0, 0⟩) (Nat.zero_le _))
    exact absurd (stB_back ho a1 hs he).2.1 h1
theorem getF_back {o : Int} (ho : isOrder o) {f : Fm} (hf : f.Ok) {s : List UInt8} (h : (getF o f s).2 = 0) : fmt o f (getF o f s).1 = s ∧ fitsE f (getF o f s).1 = 0 := by
  unfold getF at h ⊢
  split at h
  · exact absurd h (by decide)
  · rename_i h1
    rw [if_neg h1]
    split at h
    · rename_i h2
      rw [if_pos h2]
      cases hb : body o s f ⟨0, 0⟩ with
      | mk x c =>
        rw [hb] at h2
        unfold getX at h2
        split at h2
        · exact absurd h2 (by decide)
        · rename_i h3
          obtain ⟨g1, g2, g3⟩ := body_back ho hf (by omega) hb h2
          refine ⟨?_, g3⟩
          rw [← g2]
          apply List.take_of_length_le
          have : ¬ c.a < s.length := fun h4 => h3 ⟨h2, h4⟩
          omega
    · rename_i h2
      exact absurd h h2
end Go.Proofs.Sh

/- Messages: what is put is got, and what is got is put. Plain. -/
set_option maxRecDepth 100000
set_option linter.unusedVariables false
namespace Go.Proofs.Sh
open Go.Pv
theorem enc2x (o v : Int) : ∃ a b, encB o 2 v = [a, b] := ⟨_, _, rfl⟩
theorem enc4x (o v : Int) : ∃ a b c d, encB o 4 v = [a, b, c, d] := ⟨_, _, _, _, rfl⟩
/-- A message's bytes, if they are. -/
theorem tellS_shape {o : Int} {r : Ot} (h : (tellS o r).2 = 0) : ∃ (f : Fm) (c0 c1 q0 q1 w0 w1 w2 w3 : UInt8) (X : List UInt8), isOrd o = true ∧ mForm r.K r.C = some f ∧ (tellS o r).1 = c0 :: c1 :: q0 :: q1 :: w0 :: w1 :: w2 :: w3 :: X ∧
    (c0.toNat : Int) = r.K ∧ (c1.toNat : Int) = r.C ∧ [q0, q1] = encB o 2 (r.Q % 65536) ∧ (decU o [q0, q1] : Int) = r.Q % 65536 ∧ decU o [w0, w1, w2, w3] = X.length / 4 + 2 ∧ [w0, w1, w2, w3] = encB o 4 ((X.length / 4 + 2 : Nat) : Int) ∧ X.length % 4 = 0 ∧ X.length ≤ 65536 ∧ X = fmt o f r.fd ∧ fitsE f r.fd = 0 ∧ 0 ≤ r.Q ∧ r.Q ≤ 1099511627776 := by
  unfold tellS at h ⊢
  split at h
  · rename_i ho
    rw [if_pos ho]
    cases hf : mForm r.K r.C with
    | none =>
      rw [tellP_none hf] at h
      have := mErr_ne r.K
      simp only at h
      rw [h] at this
      exact absurd this (by decide)
    | some f =>
      obtain ⟨-, hk1, hk2, hc1, hc2⟩ := mForm_some hf
      rw [tellP_some hf] at h ⊢
      unfold tellQ at h ⊢
      split at h
      · exact absurd h (by decide)
      · rename_i h1
        rw [if_neg h1]
        split at h
        · rename_i h2
          simp only at h
          rw [h] at h2
          exact absurd h2 (by decide)
        · rename_i h2
          rw [if_neg h2]
          split at h
          · exact absurd h (by decide)
          · rename_i h3
            rw [if_neg h3]
            have hm := fmt_mod o f r.fd
            have hE : fitsE f r.fd = 0 := by simpa using h2
            have hl : (fmt o f r.fd).length ≤ 65536 := by simp at h3; omega
            have hio := isOrd_of ho
            obtain ⟨q0, q1, hq⟩ := enc2x o (r.Q % 65536)
            obtain ⟨w0, w1, w2, w3, hw⟩ := enc4x o (((fmt o f r.fd).length / 4 + 2 : Nat) : Int)
            have d2 := dec_enc hio (s := 2) (by unfold isSize; omega) (r.Q % 65536)
            have d4 := dec_enc hio (s := 4) (by unfold isSize; omega) (((fmt o f r.fd).length / 4 + 2 : Nat) : Int)
            rw [show wid 2 = 2 from rfl, hq] at d2
            rw [show wid 4 = 4 from rfl, hw] at d4
            obtain ⟨K, hK⟩ := Int.eq_ofNat_of_zero_le hk1
            obtain ⟨C, hC⟩ := Int.eq_ofNat_of_zero_le (show 0 ≤ r.C by omega)
            refine ⟨f, byteAt r.K 0, byteAt r.C 0, q0, q1, w0, w1, w2, w3, fmt o f r.fd, ho, rfl, ?_, ?_, ?_, hq.symm, ?_, ?_, hw.symm, hm, hl, rfl, hE, by omega, by omega⟩
            · rw [thd, enc_1, enc_1, hq, hw]; rfl
            · rw [hK, byteAt_of]; omega
            · rw [hC, byteAt_of]; omega
            · rw [d2]; omega
            · omega
  · exact absurd h (by decide)
theorem tellS_none {o : Int} {r : Ot} (h : ¬ (tellS o r).2 = 0) : (tellS o r).1 = [] := by
  unfold tellS at h ⊢
  split at h
  · rename_i ho
    rw [if_pos ho]
    cases hf : mForm r.K r.C with
    | none => rw [tellP_none hf]
    | some f =>
      rw [tellP_some hf] at h ⊢
      unfold tellQ at h ⊢
      split at h
      · rename_i h1
        rw [if_pos h1]
      · rename_i h1
        rw [if_neg h1]
        split at h
        · rename_i h2
          rw [if_pos h2]
        · rename_i h2
          rw [if_neg h2]
          split at h
          · rename_i h3
            rw [if_pos h3]
          · exact absurd rfl h
  · rename_i ho
    rw [if_neg ho]
/-- What is told of bytes that have a message's head. -/
theorem tlenR_head {o : Int} (ho : isOrd o = true) {c0 c1 q0 q1 w0 w1 w2 w3 : UInt8} {Y : List UInt8} {f : Fm} (hf : mForm (c0.toNat : Int) (c1.toNat : Int) = some f) {n : Nat} (hw : decU o [w0, w1, w2, w3] = n) (h0 : 2 ≤ n) (h1 : n ≤ 16386) :
    tlenR o (c0 :: c1 :: q0 :: q1 :: w0 :: w1 :: w2 :: w3 :: Y) = (((4 * n : Nat) : Int), 0) := by
  have ht : tform (c0 :: c1 :: q0 :: q1 :: w0 :: w1 :: w2 :: w3 :: Y) = some f := hf
  have hwd : words o (c0 :: c1 :: q0 :: q1 :: w0 :: w1 :: w2 :: w3 :: Y) = n := hw
  rw [tlenR_some ho (by simp) ht, hwd, tlenW, if_neg (by omega), if_neg (by omega)]
theorem tellG_head {o : Int} (ho : isOrd o = true) {c0 c1 q0 q1 w0 w1 w2 w3 : UInt8} {Y : List UInt8} {f : Fm} (hf : mForm (c0.toNat : Int) (c1.toNat : Int) = some f) {n : Nat} (hw : decU o [w0, w1, w2, w3] = n + 2) (h1 : n + 2 ≤ 16386) :
    tellG o (c0 :: c1 :: q0 :: q1 :: w0 :: w1 :: w2 :: w3 :: Y) = if Y.length < 4 * n then (ot0, 0, 3) else if (getF o f (Y.take (4 * n))).2 = 0 then
      (⟨(c0.toNat : Int), (c1.toNat : Int), (decU o [q0, q1] : Int), (getF o f (Y.take (4 * n))).1.N, (getF o f (Y.take (4 * n))).1.B, (getF o f (Y.take (4 * n))).1.L⟩, ((4 * (n + 2) : Nat) : Int), 0)
      else (ot0, 0, (getF o f (Y.take (4 * n))).2) := by
  have hL := tlenR_head (q0 := q0) (q1 := q1) (Y := Y) ho hf hw (by omega) h1
  have ht : tform (c0 :: c1 :: q0 :: q1 :: w0 :: w1 :: w2 :: w3 :: Y) = some f := hf
  rw [tellG, hL, if_pos rfl, ht]
  simp only [Int.toNat_natCast]
  have htk : (List.take (4 * (n + 2)) (c0 :: c1 :: q0 :: q1 :: w0 :: w1 :: w2 :: w3 :: Y)).drop 8 = Y.take (4 * n) := by
    rw [show 4 * (n + 2) = 4 * n + 8 by omega]; rfl
  rw [htk]
  by_cases h : Y.length < 4 * n
  · rw [if_pos h, if_pos (by simp only [List.length_cons]; omega)]
  · rw [if_neg h, if_neg (by simp only [List.length_cons]; omega)]
    rfl
/-- What is said is got. -/
theorem tell_put_get {o : Int} {r : Ot} (h : (tellS o r).2 = 0) (s : List UInt8) : tellG o ((tellS o r).1 ++ s) = (⟨r.K, r.C, r.Q % 65536, r.N, r.B, r.L⟩, ((tellS o r).1.length : Int), 0) := by
  obtain ⟨f, c0, c1, q0, q1, w0, w1, w2, w3, X, ho, hf, hs, hk, hc, -, hq, hw, -, hm, hl, hX, hE, -, -⟩ := tellS_shape h
  obtain ⟨hok, -⟩ := mForm_some hf
  rw [hs]
  have hg := getF_fmt (isOrd_of ho) hok hE (by rw [← hX]; exact hl)
  rw [← hX] at hg
  have ht : (X ++ s).take (4 * (X.length / 4)) = X := List.take_left' (by omega)
  show tellG o (c0 :: c1 :: q0 :: q1 :: w0 :: w1 :: w2 :: w3 :: (X ++ s)) = _
  rw [tellG_head (f := f) (n := X.length / 4) ho (by rw [hk, hc]; exact hf) hw (by omega), if_neg (by simp only [List.length_append]; omega), ht, hg, if_pos rfl, hk, hc, hq]
  have hlen : ((4 * (X.length / 4 + 2) : Nat) : Int) = ((c0 :: c1 :: q0 :: q1 :: w0 :: w1 :: w2 :: w3 :: X).length : Int) := by simp only [List.length_cons]; omega
  rw [hlen]
  rfl
/-- Cut: too short. -/
theorem tell_cut {o : Int} {r : Ot} (h : (tellS o r).2 = 0) {k : Nat} (hk : k < (tellS o r).1.length) : tellG o ((tellS o r).1.take k) = (ot0, 0, 3) := by
  obtain ⟨f, c0, c1, q0, q1, w0, w1, w2, w3, X, ho, hf, hs, hk', hc, -, hq, hw, -, hm, hl, hX, hE, -, -⟩ := tellS_shape h
  rw [hs] at hk ⊢
  rcases Nat.lt_or_ge k 8 with h8 | h8
  · have hL : tlenR o ((c0 :: c1 :: q0 :: q1 :: w0 :: w1 :: w2 :: w3 :: X).take k) = (0, 3) := by
      rw [tlenR, if_pos ho, if_pos (by simp only [List.length_take]; omega)]
    rw [tellG, hL, if_neg (by decide)]
  · obtain ⟨k, rfl⟩ := Nat.exists_eq_add_of_le' h8
    show tellG o (c0 :: c1 :: q0 :: q1 :: w0 :: w1 :: w2 :: w3 :: X.take k) = _
    rw [tellG_head (f := f) (n := X.length / 4) ho (by rw [hk', hc]; exact hf) hw (by omega), if_pos (by simp only [List.length_cons] at hk; simp only [List.length_take]; omega)]
theorem tell_len {o : Int} {r : Ot} (h : (tellS o r).2 = 0) : 8 ≤ (tellS o r).1.length ∧ (tellS o r).1.length % 4 = 0 ∧ (tellS o r).1.length ≤ 65544 ∧ tlenR o ((tellS o r).1.take 8) = (((tellS o r).1.length : Int), 0) := by
  obtain ⟨f, c0, c1, q0, q1, w0, w1, w2, w3, X, ho, hf, hs, hk', hc, -, hq, hw, -, hm, hl, hX, hE, -, -⟩ := tellS_shape h
  rw [hs]
  refine ⟨by simp only [List.length_cons]; omega, by simp only [List.length_cons]; omega, by simp only [List.length_cons]; omega, ?_⟩
  show tlenR o (c0 :: c1 :: q0 :: q1 :: w0 :: w1 :: w2 :: w3 :: X.take 0) = _
  rw [tlenR_head (f := f) ho (by rw [hk', hc]; exact hf) hw (by omega) (by omega)]
  congr 1
  simp only [List.length_cons]; omega
theorem tellG_wrong {o : Int} {s : List UInt8} (h : ¬ (tellG o s).2.2 = 0) : (tellG o s).1 = ot0 ∧ (tellG o s).2.1 = 0 := by
  unfold tellG at h ⊢
  split at h
  · rename_i h1
    rw [if_pos h1]
    split at h
    · rename_i h2
      rw [if_pos h2]
      exact ⟨rfl, rfl⟩
    · rename_i h2
      rw [if_neg h2]
      split at h
      · exact ⟨rfl, rfl⟩
      · split at h
        · exact absurd rfl h
        · rename_i h3
          rw [if_neg h3]
          exact ⟨rfl, rfl⟩
  · rename_i h1
    rw [if_neg h1]
    exact ⟨rfl, rfl⟩
/-- What is got has the bytes that it was got from. -/
theorem tell_get_put {o : Int} {s : List UInt8} (h : (tellG o s).2.2 = 0) : ∃ n : Nat, (tellG o s).2.1 = (n : Int) ∧ 8 ≤ n ∧ n ≤ s.length ∧ tellS o (tellG o s).1 = (s.take n, 0) ∧ (tellG o s).1.N.length ≤ 16 ∧ (tellG o s).1.B.length ≤ 65536 ∧ (tellG o s).1.L.length ≤ 65536 := by
  have h0 : (tlenR o s).2 = 0 := by
    by_cases h1 : (tlenR o s).2 = 0
    · exact h1
    · rw [tellG, if_neg h1] at h
      exact absurd h h1
  obtain ⟨ho, h8, ⟨f, hf⟩, hL, hn1, hn2⟩ := tlen_ok h0
  match s, h8 with
  | c0 :: c1 :: q0 :: q1 :: w0 :: w1 :: w2 :: w3 :: Y, _ =>
    obtain ⟨n, hn⟩ : ∃ n, words o (c0 :: c1 :: q0 :: q1 :: w0 :: w1 :: w2 :: w3 :: Y) = n + 2 := ⟨words o (c0 :: c1 :: q0 :: q1 :: w0 :: w1 :: w2 :: w3 :: Y) - 2, by omega⟩
    have hw : decU o [w0, w1, w2, w3] = n + 2 := hn
    have hf' : mForm (c0.toNat : Int) (c1.toNat : Int) = some f := hf
    have hio := isOrd_of ho
    obtain ⟨hok, -⟩ := mForm_some hf'
    rw [tellG_head ho hf' hw (by omega)] at h ⊢
    split at h
    · exact absurd h (by simp)
    · rename_i h1
      rw [if_neg h1]
      split at h
      · rename_i h2
        rw [if_pos h2]
        obtain ⟨g1, g2⟩ := getF_back hio hok h2
        have hp := fitsE_parts g2
        have hFl : (getF o f (Y.take (4 * n))).1 = (getF o f (Y.take (4 * n))).1 := rfl
        refine ⟨4 * (n + 2), rfl, by omega, by simp only [List.length_cons]; omega, ?_, by have := hp.n; have := hok.n; simp only; omega, hp.bl, hp.ll⟩
        have hfd : (⟨(c0.toNat : Int), (c1.toNat : Int), (decU o [q0, q1] : Int), (getF o f (Y.take (4 * n))).1.N, (getF o f (Y.take (4 * n))).1.B, (getF o f (Y.take (4 * n))).1.L⟩ : Ot).fd = (getF o f (Y.take (4 * n))).1 := rfl
        have hq := decU_lt o [q0, q1]
        simp only [List.length_cons, List.length_nil, Nat.reduceAdd, Nat.reducePow] at hq
        have hlen : (fmt o f (getF o f (Y.take (4 * n))).1).length = 4 * n := by rw [g1, List.length_take]; omega
        have e2 := enc_read hio (s := 2) (by unfold isSize; omega) (b := [q0, q1]) rfl
        have e4 := enc_read hio (s := 4) (by unfold isSize; omega) (b := [w0, w1, w2, w3]) rfl
        have r2 : readV o 2 [q0, q1] = (decU o [q0, q1] : Int) := by
          rw [readV, if_neg (by simp [high]; omega)]
        have r4 : readV o 4 [w0, w1, w2, w3] = ((n + 2 : Nat) : Int) := by
          rw [readV, if_neg (by simp [high]; omega), hw]
        rw [r2] at e2
        rw [r4] at e4
        rw [show wid 2 = 2 from rfl] at e2
        rw [show wid 4 = 4 from rfl] at e4
        have b0 : byteAt (c0.toNat : Int) 0 = c0 := byteAt_eq (by have := c0.toNat_lt; omega)
        have b1 : byteAt (c1.toNat : Int) 0 = c1 := byteAt_eq (by have := c1.toNat_lt; omega)
        rw [tellS, if_pos ho, tellP_some (f := f) hf', tellQ, hfd, if_neg (by simp only; omega), if_neg (by rw [g2]; decide), if_neg (by rw [hlen]; simp; omega), g1]
        have hl4 : (Y.take (4 * n)).length / 4 + 2 = n + 2 := by rw [List.length_take]; omega
        have hqm : (decU o [q0, q1] : Int) % 65536 = (decU o [q0, q1] : Int) := by omega
        simp only [hl4, hqm]
        rw [thd, enc_1, enc_1, b0, b1, e2, e4, show 4 * (n + 2) = 4 * n + 8 by omega]
        rfl
      · rename_i h2
        exact absurd h h2
end Go.Proofs.Sh

/- glaziertop: the requests, and the example. -/
set_option maxRecDepth 100000
set_option linter.unusedSimpArgs false
set_option linter.unusedVariables false
namespace Go.Proofs.Sh
open Go.Pv

/-- What is said behind a request. -/
structure Sd where
  C : Nat
  A : Nat
  B : Nat
  F : Bool
  N : Int
  hC : C < 256
  hA : A < 256
  hB : B < 256
def Sd.pv (x : Sd) : PV := .agg [.int .u8 (x.C : Int), .int .u8 (x.A : Int), .int .u8 (x.B : Int), .bool x.F, .int .i16 x.N]
def sdL (X : List Sd) : List PV := X.map Sd.pv
theorem sdL_length (X : List Sd) : (sdL X).length = X.length := List.length_map _
def sd0 : Sd := ⟨0, 0, 0, false, 0, by decide, by decide, by decide⟩
theorem sd_at {X : List Sd} {i : Nat} (h : i < X.length) : (sdL X).getD i PV.any = (X.getD i sd0).pv := by
  rw [sdL, List.getD_eq_getElem?_getD, List.getElem?_map, List.getElem?_eq_getElem h, List.getD_eq_getElem?_getD, List.getElem?_eq_getElem h]; rfl
def ttl : List UInt8 := [116, 105, 116, 108, 101]
def bqN (n : Nat) : Rq := match n with | 0 => ⟨38, [], [], []⟩ | 1 => ⟨11, [1], ttl, []⟩ | 2 => ⟨51, [1], [], []⟩ | _ => ⟨58, [], [], []⟩
def bq (x : Sd) : Rq := bqN (x.C % 4)
theorem bq_put (o : Int) (ho : o = 0 ∨ o = 1) (x : Sd) : (packS o (bq x)).2 = 0 ∧ (packS o (bq x)).1.length ≤ 24 := by
  have h : ∀ n, n < 4 → (packS o (bqN n)).2 = 0 ∧ (packS o (bqN n)).1.length ≤ 24 := by
    intro n hn
    rcases ho with rfl | rfl <;> (match n, hn with
      | 0, _ => exact ⟨by kernel_rfl, by decide +kernel⟩
      | 1, _ => exact ⟨by kernel_rfl, by decide +kernel⟩
      | 2, _ => exact ⟨by kernel_rfl, by decide +kernel⟩
      | 3, _ => exact ⟨by kernel_rfl, by decide +kernel⟩)
  exact h _ (Nat.mod_lt _ (by decide))
theorem bq_few (x : Sd) : (bq x).Few := by
  unfold bq bqN
  split <;> exact ⟨by simp, by simp [ttl], by simp⟩
theorem backRequest_fs (x : Sd) : Fsp Tryd.prog 31 [] 0 [x.pv] [] 0 (bq x).pv := by
  obtain ⟨C, A, B, F, N, hC, hA, hB⟩ := x
  have hm : Int.tmod (C : Int) 4 = ((C % 4 : Nat) : Int) := by rw [Int.tmod_eq_emod_of_nonneg (by omega)]; omega
  have hw : IntKind.u8.wrap ((C % 4 : Nat) : Int) = ((C % 4 : Nat) : Int) := wrap_u8_id (by omega) (by omega)
  have h4 : C % 4 < 4 := Nat.mod_lt _ (by decide)
  unfold bq
  simp only
  generalize C % 4 = n at *
  match n, h4 with
  | 0, _ =>
    (refine Fsp.of (nx := 0) mixed Tryd.func31 rfl (by decide) (by first | exact Nat.le_refl _ | simp) (by simp [Tryd.f31]) ⟨by decide, by decide⟩ ?_; simp -implicitDefEqProofs only [push_cast, Tryd.f31, Sd.pv, hm, hw, seval])
    all_goals first | done | exact ⟨_, rfl, by simp [wkL, res2, res1, PV.weak, PV.el, bqN, Rq.pv, ints, ttl]⟩ | (simp [wkL, res2, res1, res3, PV.weak, PV.el, bqN, Rq.pv, ints, ttl]; done) | skip
  | 1, _ =>
    (refine Fsp.of (nx := 0) mixed Tryd.func31 rfl (by decide) (by first | exact Nat.le_refl _ | simp) (by simp [Tryd.f31]) ⟨by decide, by decide⟩ ?_; simp -implicitDefEqProofs only [push_cast, Tryd.f31, Sd.pv, hm, hw, seval])
    all_goals first | done | exact ⟨_, rfl, by simp [wkL, res2, res1, PV.weak, PV.el, bqN, Rq.pv, ints, ttl]⟩ | (simp [wkL, res2, res1, res3, PV.weak, PV.el, bqN, Rq.pv, ints, ttl]; done) | skip
  | 2, _ =>
    (refine Fsp.of (nx := 0) mixed Tryd.func31 rfl (by decide) (by first | exact Nat.le_refl _ | simp) (by simp [Tryd.f31]) ⟨by decide, by decide⟩ ?_; simp -implicitDefEqProofs only [push_cast, Tryd.f31, Sd.pv, hm, hw, seval])
    all_goals first | done | exact ⟨_, rfl, by simp [wkL, res2, res1, PV.weak, PV.el, bqN, Rq.pv, ints, ttl]⟩ | (simp [wkL, res2, res1, res3, PV.weak, PV.el, bqN, Rq.pv, ints, ttl]; done) | skip
  | 3, _ =>
    (refine Fsp.of (nx := 0) mixed Tryd.func31 rfl (by decide) (by first | exact Nat.le_refl _ | simp) (by simp [Tryd.f31]) ⟨by decide, by decide⟩ ?_; simp -implicitDefEqProofs only [push_cast, Tryd.f31, Sd.pv, hm, hw, seval])
    all_goals first | done | exact ⟨_, rfl, by simp [wkL, res2, res1, PV.weak, PV.el, bqN, Rq.pv, ints, ttl]⟩ | (simp [wkL, res2, res1, res3, PV.weak, PV.el, bqN, Rq.pv, ints, ttl]; done) | skip
theorem isOrd_01 {o : Int} (h : o = 0 ∨ o = 1) : isOrd o = true := by rcases h with rfl | rfl <;> rfl
/-- One request more, that may be asked. -/
theorem ask_one (s : Sb) (x : Sd) (ho : s.o = 0 ∨ s.o = 1) (hc : ¬ s.c = 0) (hl : s.out.length ≤ 60000) : askS s [bq x] = (asked s [bq x], 0) ∧ (asked s [bq x]).c = s.c ∧ (asked s [bq x]).d = s.d ∧ (asked s [bq x]).o = s.o ∧ (asked s [bq x]).l = s.l ∧ (asked s [bq x]).came = s.came ∧ (asked s [bq x]).n = s.n + 1 ∧
    (asked s [bq x]).q = (if (replyOf (bq x).C).isSome = true then s.q ++ [s.n + 1] else s.q) ∧ (asked s [bq x]).out.length ≤ s.out.length + 24 ∧ s.out <+: (asked s [bq x]).out := by
  obtain ⟨h1, h2⟩ := bq_put s.o ho x
  have hp : putAll s.o s.out [bq x] = (s.out ++ (packS s.o (bq x)).1, 0) := by
    show putI s.o (s.out, 0) (bq x) = _
    rw [putI, if_pos rfl, if_pos h1, if_neg (by simp only; omega)]
  have he : askE s [bq x] = 0 := by rw [askE, if_neg hc, hp]
  refine ⟨by rw [askS, if_pos he], rfl, rfl, rfl, rfl, rfl, rfl, ?_, ?_, ?_⟩
  · show (addAll (s.n, s.q, s.mm) [bq x]).2.1 = _
    show (addR (s.n, s.q, s.mm) (bq x)).2.1 = _
    unfold addR
    simp only
    split <;> rfl
  · show (putAll s.o s.out [bq x]).1.length ≤ _
    rw [hp, List.length_append]; omega
  · show s.out <+: (putAll s.o s.out [bq x]).1
    rw [hp]; exact List.prefix_append _ _
def baS : Sb := ⟨1, 1, false, 0, 0, 0, beg1, [], [], none⟩
def baO : List UInt8 := (askS baS [⟨38, [], [], []⟩]).1.out
def baT : Sb := ⟨1, 1, false, 1, 0, 0, baO, [], [1], some [(1, 38)]⟩
def baX : Ot := ⟨1, 38, 1, [1, 1], [], []⟩
def baB : List UInt8 := (tellS 1 baX).1
theorem ba_new : newS 1 1 = (baS, 0) := by rfl
theorem ba_ask : askS baS [⟨38, [], [], []⟩] = (baT, 0) := by kernel_rfl
theorem ba_tell : tellS 1 baX = (baB, 0) := by kernel_rfl
theorem ba_feed : feedS baT baB = ({ baT with l := 1, q := [], m := some [] }, [baX], 0) := by kernel_rfl
set_option maxHeartbeats 2000000 in
theorem backAwake_fs : Fsp Tryd.prog 30 [] 0 [] [] 0 (.bool true) := by
  have hn := new_fs 1 1
  rw [newR, ba_new] at hn
  have ha := ask_fs baS [⟨38, [], [], []⟩] ⟨by decide, by decide, by decide, by decide⟩ (by decide) (fun x hx => by
    obtain rfl := List.mem_singleton.1 hx; exact ⟨by decide, by decide, by decide⟩)
  rw [askR, ba_ask] at ha
  have hp := tellPut_fs 1 baX ⟨by decide, by decide, by decide⟩
  rw [tellR, ba_tell] at hp
  have hf := feed_fs baT baB (by decide) (by decide +kernel)
  rw [feedR, ba_feed] at hf
  have hw := waiting_fs { baT with l := 1, q := [], m := some [] } (by decide)
  have hs := sent_fs { baT with l := 1, q := [], m := some [] }
  simp only [Sb.pv, Sb.cs, Sb.mpv, baS, baT, baX, rqL, oL, List.map, Rq.pv, Ot.pv, ints, mkM] at ha hn hp hf hw hs
  have ha := ha.takes (qs := [.agg [.int .i64 1, .int .i64 1, .bool false, .int .i64 0, .int .i64 0, .int .i64 0, .str beg1, .str [], .sl 1 [], .nilm],
    .sl 4 [.agg [.int .i64 38, .nilsl, .str [], .nilsl]]]) rfl (fun i q p h1 h2 g v r => by
      rcases i with _ | _ | i
      · simp at h1 h2; subst h1; subst h2; exact r
      · simp at h1 h2; subst h1; subst h2
        refine Rel.nlRow ?_ ?_ ?_ r
        · rfl
        · simp [nlCs, nlC, PV.cells]
        · simp [PV.cells]
      · simp at h1)
  have hp := hp.nils (qs := [.int .i64 1, .agg [.int .i64 1, .int .i64 38, .int .i64 1, .sl 1 [.int .i64 1, .int .i64 1], .str [], .nilsl]]) ⟨nlV_same _, nlV_agg (by simp [nlCs, nlC]), trivial⟩
  (refine Fsp.of (nx := 0) mixed Tryd.func30 rfl (by decide) (by first | exact Nat.le_refl _ | simp) (by simp [Tryd.f30]) ⟨by decide, by decide⟩ ?_; simp -implicitDefEqProofs only [push_cast, Tryd.f30, seval])
  refine callE_pure hn (by rfl) (by rfl) (by rfl) (by decide) (by rfl) (fun _ => by rfl) (by first | rfl | simp [gdOk, newToks]) ?_
  simp -implicitDefEqProofs only [push_cast, seval]
  refine callE_pure ha (by rfl) (by rfl) (by rfl) (by decide) (by rfl) (fun _ => by rfl) (by first | rfl | simp [gdOk, newToks]) ?_
  simp -implicitDefEqProofs only [push_cast, seval]
  skip
  refine callE_pure hp (by rfl) (by rfl) (by rfl) (by decide) (by rfl) (fun _ => by rfl) (by first | rfl | simp [gdOk, newToks]) ?_
  simp -implicitDefEqProofs only [push_cast, seval]
  refine callE_pure hf (by rfl) (by rfl) (by rfl) (by decide) (by rfl) (fun _ => by rfl) (by first | rfl | simp [gdOk, newToks]) ?_
  simp -implicitDefEqProofs only [push_cast, seval]
  skip
  refine callE_pure hw (by rfl) (by rfl) (by rfl) (by decide) (by rfl) (fun _ => by rfl) (by first | rfl | simp [gdOk, newToks]) ?_
  simp -implicitDefEqProofs only [push_cast, seval]
  refine callE_pure hs (by rfl) (by rfl) (by rfl) (by decide) (by rfl) (fun _ => by rfl) (by first | rfl | simp [gdOk, newToks]) ?_
  simp -implicitDefEqProofs only [push_cast, seval]
  skip

end Go.Proofs.Sh

/- Package stub: messages one behind the other, fed. Plain. -/
set_option maxRecDepth 100000
set_option linter.unusedSimpArgs false
set_option linter.unusedVariables false
namespace Go.Proofs.Sh
open Go.Pv
def cat (o : Int) (M : List Ot) : List UInt8 := M.flatMap fun m => (tellS o m).1
def lowO (m : Ot) : Ot := { m with Q := m.Q % 65536 }
/-- What messages do, one by one. -/
def play : List Ot → Sb → Sb × List Ot × Int
  | [], T => ({ T with came := [] }, [], 0)
  | m :: M, T =>
    if mayB T (wideO T (lowO m)) = true then ((play M (mayS T (wideO T (lowO m)))).1, wideO T (lowO m) :: (play M (mayS T (wideO T (lowO m)))).2.1, (play M (mayS T (wideO T (lowO m)))).2.2)
    else (T, [], 9)
theorem whole_put {o : Int} {m : Ot} (h : (tellS o m).2 = 0) (r : List UInt8) : wholeS o ((tellS o m).1 ++ r) = true := by
  obtain ⟨h1, h2, h3, h4⟩ := tell_len h
  have e : (tellS o m).1 = (tellS o m).1.take 8 ++ (tellS o m).1.drop 8 := (List.take_append_drop ..).symm
  have h5 : tlenR o ((tellS o m).1 ++ r) = (((tellS o m).1.length : Int), 0) := by
    rw [← h4]
    conv => lhs; rw [e, List.append_assoc]
    exact tlenR_app (by rw [List.length_take]; omega)
  unfold wholeS
  rw [h5]
  simp only [Bool.and_eq_true, Bool.or_eq_true, Bool.not_eq_true', decide_eq_false_iff_not, bne_iff_ne, decide_eq_true_eq, List.length_append]
  exact ⟨by omega, .inr (by omega)⟩
theorem go_cat : ∀ (M : List Ot) (T : Sb) (k : Nat), (cat T.o M).length < k → (∀ m ∈ M, (tellS T.o m).2 = 0) → go k T (cat T.o M) = play M T := by
  intro M
  induction M with
  | nil =>
    intro T k hk _
    obtain ⟨k, rfl⟩ : ∃ j, k = j + 1 := ⟨k - 1, by omega⟩
    rw [play, show cat T.o [] = [] from rfl, go, if_neg]
    simp [wholeS]
  | cons m M ih =>
    intro T k hk hM
    obtain ⟨k, rfl⟩ : ∃ j, k = j + 1 := ⟨k - 1, by omega⟩
    have hm := hM m (List.mem_cons_self ..)
    have e : cat T.o (m :: M) = (tellS T.o m).1 ++ cat T.o M := rfl
    obtain ⟨h8, -⟩ := tell_len hm
    rw [e, List.length_append] at hk
    rw [e, go, if_pos (whole_put hm _), tell_put_get hm, if_pos rfl, play]
    have hd : List.drop ((tellS T.o m).1.length : Int).toNat ((tellS T.o m).1 ++ cat T.o M) = cat T.o M := List.drop_left ..
    simp only
    rw [hd]
    have hlo : (⟨m.K, m.C, m.Q % 65536, m.N, m.B, m.L⟩ : Ot) = lowO m := rfl
    rw [hlo]
    split
    · have ho := (mayS_q T (wideO T (lowO m))).2
      have := ih (mayS T (wideO T (lowO m))) k (by rw [ho]; omega) (fun x hx => by rw [ho]; exact hM x (List.mem_cons_of_mem _ hx))
      rw [ho] at this
      rw [this]
    · rfl
theorem feed_cat {s : Sb} (h : s.Live) (hc : s.came = []) (M : List Ot) (hM : ∀ m ∈ M, (tellS s.o m).2 = 0) : feedS s (cat s.o M) = if (play M s.own).2.2 = 0 then ((play M s.own).1, (play M s.own).2.1, 0) else feedF s (play M s.own).2.2 := by
  have e : s.own.o = s.o := rfl
  have := go_cat M s.own ((cat s.o M).length + 1) (by rw [e]; exact Nat.lt_succ_self _) (by rw [e]; exact hM)
  rw [e] at this
  rw [feedS_go h, hc, List.nil_append, this]
/-- So many messages come as they are, and leave this. -/
def Steps (T : Sb) (M : List Ot) (T' : Sb) : Prop := ∀ M2, play (M ++ M2) T = ((play M2 T').1, M ++ (play M2 T').2.1, (play M2 T').2.2)
theorem Steps.nil (T : Sb) : Steps T [] T := fun _ => rfl
theorem Steps.app {T T1 T2 : Sb} {M1 M2 : List Ot} (a : Steps T M1 T1) (b : Steps T1 M2 T2) : Steps T (M1 ++ M2) T2 := fun M => by
  rw [List.append_assoc, a, b, List.append_assoc]
theorem Steps.one {T : Sb} {m : Ot} (h1 : wideO T (lowO m) = m) (h2 : mayB T m = true) : Steps T [m] (mayS T m) := fun M => by
  show play (m :: M) T = _
  rw [play, h1, if_pos h2]
  rfl
theorem wide_low {T : Sb} {m : Ot} (h0 : 0 ≤ T.l) (h1 : T.l ≤ m.Q) (h2 : m.Q < T.l + 65536) (h3 : m.Q ≤ 1000000) : wideO T (lowO m) = m := by
  obtain ⟨K, C, Q, N, B, L⟩ := m
  simp only at h1 h2 h3
  unfold wideO lowO
  simp only [Ot.mk.injEq, true_and, and_true]
  rw [wideS, if_neg (by simp [wideB]; omega), wideN]
  split <;> omega
/-- Who waits, in order. -/
def rep (x : Sd) : Bool := (replyOf (bq x).C).isSome
def wf : Nat → List Sd → List Int
  | _, [] => []
  | b, x :: X => if rep x = true then ((b + 1 : Nat) : Int) :: wf (b + 1) X else wf (b + 1) X
theorem wf_gt : ∀ (X : List Sd) (b : Nat), ∀ a ∈ wf b X, (b : Int) < a
  | [], _, a, h => by cases h
  | x :: X, b, a, h => by
    rw [wf] at h
    split at h
    · rcases List.mem_cons.1 h with rfl | h
      · omega
      · have := wf_gt X (b + 1) a h; omega
    · have := wf_gt X (b + 1) a h; omega
theorem wf_sn : ∀ (X : List Sd) (b : Nat) (x : Sd), wf b (X ++ [x]) = wf b X ++ (if rep x = true then [((b + X.length + 1 : Nat) : Int)] else [])
  | [], b, x => by simp only [List.nil_append, wf, List.length_nil, Nat.add_zero]
  | y :: X, b, x => by
    have := wf_sn X (b + 1) x
    rw [List.cons_append, wf, wf, this, List.length_cons, show b + 1 + X.length + 1 = b + (X.length + 1) + 1 by omega]
    split
    · rw [List.cons_append]
    · rfl
theorem mgetI_del {m : List (Int × Int)} {k k' d : Int} (h : k' ≠ k) : mgetI (mdelI m k) k' d = mgetI m k' d := by
  induction m with
  | nil => rfl
  | cons x m ih =>
    unfold mdelI at ih ⊢
    rw [List.filter_cons]
    split
    · rw [mgetI, mgetI, ih]
    · rename_i hx
      have hx : k = x.1 := by simpa using hx
      rw [mgetI, if_neg (by rw [← hx]; exact h), ih]
theorem mgetI_set_same {m : List (Int × Int)} {k v d : Int} : mgetI (msetI m k v) k d = v := by rw [msetI, mgetI, if_pos rfl]
theorem mgetI_set_ne {m : List (Int × Int)} {k k' v d : Int} (h : k' ≠ k) : mgetI (msetI m k v) k' d = mgetI m k' d := by
  rw [msetI, mgetI, if_neg h]
  exact mgetI_del h
/-- A stub that waits for just these. -/
structure Rdy (T : Sb) (b : Nat) (X : List Sd) : Prop where
  q : T.q = wf b X
  n : ((b + X.length : Nat) : Int) ≤ T.n
  l0 : 0 ≤ T.l
  l1 : T.l ≤ (b : Int) + 1
  l2 : ((b + X.length : Nat) : Int) < T.l + 65536
  hb : b + X.length ≤ 1000000
  m : ∀ (j : Nat) (x : Sd), X[j]? = some x → rep x = true → mgetI T.mm ((b + j + 1 : Nat) : Int) 0 = (bq x).C
theorem mayB_at {T : Sb} {m : Ot} (h1 : m.Q ≤ T.n) (h2 : ∀ a ∈ T.q, m.Q ≤ a) : mayB T m = if m.K = 1 then awd T m && mgetI T.mm m.Q 0 == m.C else if m.K = 0 then m.Q != 0 else true := by
  unfold mayB
  rw [if_neg (by simp; omega), if_neg]
  intro hcon
  cases hT : T.q with
  | nil => rw [hT] at hcon; cases hcon
  | cons a l =>
    rw [hT] at hcon
    have := h2 a (by rw [hT]; exact List.mem_cons_self ..)
    have hcon := of_decide_eq_true hcon
    omega
def ev (Q z : Int) : Ot := ⟨2, 12, Q, [z], [], []⟩
/-- An event leaves but its number. -/
theorem ev_step {T : Sb} {b : Nat} {x : Sd} {X : List Sd} (q : T.q = wf b (x :: X) ∨ T.q = wf (b + 1) X) (n : ((b + 1 : Nat) : Int) ≤ T.n) (l0 : 0 ≤ T.l) (l1 : T.l ≤ (b : Int) + 1) (l2 : ((b + 1 : Nat) : Int) < T.l + 65536) (hb : b + 1 ≤ 1000000) (m : Ot) (hk : m.K = 2) (hq : m.Q = ((b + 1 : Nat) : Int)) :
    Steps T [m] { T with l := ((b + 1 : Nat) : Int) } := by
  have hw : wideO T (lowO m) = m := wide_low l0 (by omega) (by omega) (by omega)
  have hge : ∀ a ∈ T.q, m.Q ≤ a := by
    rw [hq]
    rcases q with q | q <;> rw [q] <;> intro a ha
    · have := wf_gt _ _ a ha; omega
    · have := wf_gt _ _ a ha; omega
  have hm : mayB T m = true := by
    rw [mayB_at (by rw [hq]; exact n) hge, if_neg (by omega), if_neg (by omega)]
  have hs : mayS T m = { T with l := ((b + 1 : Nat) : Int) } := by
    unfold mayS
    rw [if_neg (by rw [hk]; simp), hq]
  rw [← hs]
  exact Steps.one hw hm
theorem evs_step {b : Nat} {x : Sd} {X : List Sd} : ∀ (M : List Ot) (T : Sb), (∀ m ∈ M, m.K = 2 ∧ m.Q = ((b + 1 : Nat) : Int)) → (T.q = wf b (x :: X) ∨ T.q = wf (b + 1) X) → ((b + 1 : Nat) : Int) ≤ T.n → 0 ≤ T.l → T.l ≤ (b : Int) + 1 → ((b + 1 : Nat) : Int) < T.l + 65536 → b + 1 ≤ 1000000 →
    ∃ l', T.l ≤ l' ∧ l' ≤ (b : Int) + 1 ∧ Steps T M { T with l := l' }
  | [], T, _, _, _, _, l1, _, _ => ⟨T.l, Int.le_refl _, l1, Steps.nil T⟩
  | m :: M, T, hM, q, n, l0, l1, l2, hb => by
    obtain ⟨hk, hq⟩ := hM m (List.mem_cons_self ..)
    have s1 := ev_step q n l0 l1 l2 hb m hk hq
    obtain ⟨l', e1, e2, s2⟩ := evs_step M { T with l := ((b + 1 : Nat) : Int) } (fun y hy => hM y (List.mem_cons_of_mem _ hy)) q n (by simp only; omega) (by simp only; omega) (by simp only; omega) hb
    refine ⟨l', by simp only at e1; omega, e2, ?_⟩
    exact Steps.app s1 s2
def evs (n : Nat) (Q : Int) (z : Nat → Int) : List Ot := (List.range n).map fun i => ev Q (z i)
theorem evs_mem {n : Nat} {Q : Int} {z : Nat → Int} : ∀ m ∈ evs n Q z, m.K = 2 ∧ m.Q = Q := by
  intro m hm
  obtain ⟨i, -, rfl⟩ := List.mem_map.1 hm
  exact ⟨rfl, rfl⟩
def ans (x : Sd) (Q : Int) : List Ot :=
  if x.F = true then [⟨0, 2, Q, [x.N, (bq x).C], [], []⟩]
  else match replyOf (bq x).C with
    | some f => [⟨1, (bq x).C, Q, List.replicate f.F.length 0, [], []⟩]
    | none => []
/-- What is said behind a request. -/
def said1 (z : Sd → Nat → Int) (x : Sd) (Q : Int) : List Ot := evs (x.A % 3) Q (z x) ++ ans x Q ++ evs (x.B % 3) Q (z x)
def saidL (z : Sd → Nat → Int) : Nat → List Sd → List Ot
  | _, [] => []
  | b, x :: X => said1 z x ((b + 1 : Nat) : Int) ++ saidL z (b + 1) X
theorem saidL_sn (z : Sd → Nat → Int) : ∀ (X : List Sd) (b : Nat) (x : Sd), saidL z b (X ++ [x]) = saidL z b X ++ said1 z x ((b + X.length + 1 : Nat) : Int)
  | [], b, x => by simp [saidL]
  | y :: X, b, x => by
    have := saidL_sn z X (b + 1) x
    rw [List.cons_append, saidL, saidL, this, List.length_cons, List.append_assoc, show b + 1 + X.length + 1 = b + (X.length + 1) + 1 by omega]
theorem ans_step {T : Sb} {b : Nat} {x : Sd} {X : List Sd} (h : Rdy T b (x :: X)) : ∃ T', Steps T (ans x ((b + 1 : Nat) : Int)) T' ∧ T'.q = wf (b + 1) X ∧ T'.n = T.n ∧ T.l ≤ T'.l ∧ T'.l ≤ (b : Int) + 1 ∧ ∀ k : Int, k ≠ ((b + 1 : Nat) : Int) → mgetI T'.mm k 0 = mgetI T.mm k 0 := by
  obtain ⟨hq, hn, l0, l1, l2, hb, hm⟩ := h
  rw [List.length_cons] at hn l2 hb
  have hg : ∀ a ∈ wf (b + 1) X, ((b + 1 : Nat) : Int) < a := fun a ha => wf_gt _ _ a ha
  -- who is awaited
  have haw : ∀ m : Ot, m.Q = ((b + 1 : Nat) : Int) → awd T m = rep x := by
    intro m hmq
    unfold awd
    rw [hq, wf]
    cases hr : rep x
    · simp only [Bool.false_eq_true, if_false]
      cases hT : wf (b + 1) X with
      | nil => rfl
      | cons a _ =>
        have := hg a (by rw [hT]; exact List.mem_cons_self ..)
        simp only [beq_eq_false_iff_ne]; omega
    · simp [hmq]
  have hge : ∀ a ∈ T.q, ((b + 1 : Nat) : Int) ≤ a := by
    rw [hq]; intro a ha
    have := wf_gt _ _ a ha; omega
  have hmm : ∀ k v : Int, k ≠ v → mgetI (mdelI T.mm v) k 0 = mgetI T.mm k 0 := fun k v hkv => mgetI_del hkv
  have hwl : ∀ m : Ot, m.Q = ((b + 1 : Nat) : Int) → wideO T (lowO m) = m := fun m hmq => wide_low l0 (by omega) (by omega) (by omega)
  have hqt : rep x = true → T.q.tail = wf (b + 1) X := fun hr => by rw [hq, wf, if_pos hr]; rfl
  have hqn : rep x = false → T.q = wf (b + 1) X := fun hr => by rw [hq, wf, if_neg (by rw [hr]; exact Bool.false_ne_true)]
  -- what a message of this number leaves
  have fin : ∀ m : Ot, m.Q = ((b + 1 : Nat) : Int) → (m.K = 0 ∨ m.K = 1) → mayB T m = true →
      ∃ T', Steps T [m] T' ∧ T'.q = wf (b + 1) X ∧ T'.n = T.n ∧ T.l ≤ T'.l ∧ T'.l ≤ (b : Int) + 1 ∧ ∀ k : Int, k ≠ ((b + 1 : Nat) : Int) → mgetI T'.mm k 0 = mgetI T.mm k 0 := by
    intro m hmq hmk hmb
    refine ⟨mayS T m, Steps.one (hwl m hmq) hmb, ?_⟩
    have hkk : (m.K == 1 || m.K == 0) = true := by rcases hmk with h | h <;> rw [h] <;> rfl
    unfold mayS
    rw [haw m hmq, hkk, Bool.and_true]
    cases hr : rep x
    · rw [if_neg Bool.false_ne_true]
      exact ⟨hqn hr, rfl, by simp only; omega, by simp only; omega, fun k _ => rfl⟩
    · rw [if_pos rfl]
      exact ⟨hqt hr, rfl, by simp only; omega, by simp only; omega, fun k hk => by
        show mgetI (mdelI T.mm m.Q) k 0 = _
        rw [hmq]; exact hmm k _ hk⟩
  unfold ans
  by_cases hF : x.F = true
  · rw [if_pos hF]
    refine fin _ rfl (.inl rfl) ?_
    rw [mayB_at (by simp only; omega) hge, if_neg (by simp), if_pos rfl]
    simp; omega
  · rw [if_neg hF]
    cases hrp : replyOf (bq x).C with
    | none =>
      have hr : rep x = false := by rw [rep, hrp]; rfl
      exact ⟨T, Steps.nil T, hqn hr, rfl, Int.le_refl _, l1, fun _ _ => rfl⟩
    | some f =>
      have hr : rep x = true := by rw [rep, hrp]; rfl
      refine fin _ rfl (.inr rfl) ?_
      rw [mayB_at (by simp only; omega) hge, if_pos rfl, haw _ rfl, hr, Bool.true_and]
      have := hm 0 x rfl hr
      simp only [Nat.add_zero] at this
      exact beq_iff_eq.2 this
theorem said_step (z : Sd → Nat → Int) : ∀ (X : List Sd) (b : Nat) (T : Sb), Rdy T b X → ∃ T', Steps T (saidL z b X) T' ∧ T'.q = [] ∧ T'.n = T.n
  | [], b, T, h => ⟨T, Steps.nil T, by rw [h.q]; rfl, rfl⟩
  | x :: X, b, T, h => by
    have hn := h.n
    have hb := h.hb
    have l2 := h.l2
    rw [List.length_cons] at hn hb l2
    obtain ⟨k1, e1, e2, s1⟩ := evs_step (x := x) (X := X) (evs (x.A % 3) ((b + 1 : Nat) : Int) (z x)) T evs_mem (.inl h.q) (by omega) h.l0 h.l1 (by omega) (by omega)
    have h1 : Rdy { T with l := k1 } b (x :: X) := ⟨h.q, h.n, by have := h.l0; simp only; omega, by simp only; omega, by rw [List.length_cons]; simp only; omega, h.hb, h.m⟩
    obtain ⟨T2, s2, q2, n2, a2, b2, m2⟩ := ans_step h1
    simp only at n2 a2
    have l0 := h.l0
    obtain ⟨k3, e3, e4, s3⟩ := evs_step (x := x) (X := X) (evs (x.B % 3) ((b + 1 : Nat) : Int) (z x)) T2 evs_mem (.inr q2) (by omega) (by omega) b2 (by omega) (by omega)
    have h3 : Rdy { T2 with l := k3 } (b + 1) X := ⟨q2, by simp only; omega, by simp only; omega, by simp only; omega, by simp only; omega, by omega, fun j y hy hr => by
      show mgetI T2.mm _ 0 = _
      rw [m2 _ (by omega)]
      have := h.m (j + 1) y (by simpa using hy) hr
      rw [show b + (j + 1) + 1 = b + 1 + j + 1 by omega] at this
      exact this⟩
    obtain ⟨T4, s4, q4, n4⟩ := said_step z X (b + 1) _ h3
    refine ⟨T4, ?_, q4, by rw [n4]; exact n2⟩
    exact Steps.app (Steps.app (Steps.app s1 s2) s3) s4
/-- All that is said comes as it was said. -/
theorem feed_said (z : Sd → Nat → Int) {s : Sb} (h : s.Live) (hc : s.came = []) {b : Nat} {X : List Sd} (hr : Rdy s b X) (hM : ∀ m ∈ saidL z b X, (tellS s.o m).2 = 0) : ∃ T, feedS s (cat s.o (saidL z b X)) = (T, saidL z b X, 0) ∧ T.q = [] ∧ T.n = s.n := by
  have hr' : Rdy s.own b X := ⟨hr.q, hr.n, hr.l0, hr.l1, hr.l2, hr.hb, hr.m⟩
  obtain ⟨T', s1, q1, n1⟩ := said_step z X b s.own hr'
  have := s1 []
  rw [List.append_nil, play] at this
  simp only [List.append_nil] at this
  rw [feed_cat h hc _ hM, this, if_pos rfl]
  exact ⟨_, rfl, q1, n1⟩
end Go.Proofs.Sh

/- glaziertop: backEvents, backAnswer, backSame. -/
set_option maxRecDepth 100000
set_option linter.unusedSimpArgs false
set_option linter.unusedVariables false
namespace Go.Proofs.Sh
open Go.Pv

def zf (v : Int) (i : Nat) : Int := IntKind.i64.wrap ((i : Int) + bitsI .and .i64 v 255)
theorem zf_bd (v : Int) (i : Nat) (hi : i ≤ 2) : 0 ≤ zf v i ∧ zf v i ≤ 257 := by
  have h : 0 ≤ bitsI .and .i64 v 255 ∧ bitsI .and .i64 v 255 ≤ 255 := by
    show 0 ≤ IntKind.i64.wrap ((BitVec.ofInt 64 v &&& BitVec.ofInt 64 255).toNat : Int) ∧ IntKind.i64.wrap ((BitVec.ofInt 64 v &&& BitVec.ofInt 64 255).toNat : Int) ≤ 255
    have h1 : (BitVec.ofInt 64 v &&& BitVec.ofInt 64 255).toNat ≤ 255 := by
      rw [BitVec.toNat_and]
      exact Nat.le_trans Nat.and_le_right (by decide)
    rw [wrap_i64_id (by omega) (by omega)]
    omega
  unfold zf
  rw [wrap_i64_id (by omega) (by omega)]
  omega
def evP (Q z : Int) : PV := .agg [.int .i64 2, .int .i64 12, .int .i64 Q, .sl 1 [.int .i64 z], .str [], .nilsl]
def evsP (n : Nat) (Q v : Int) : List PV := (List.range n).map fun i => evP Q (zf v i)
theorem evsP_sn (n : Nat) (Q v : Int) : evsP n Q v ++ [evP Q (zf v n)] = evsP (n + 1) Q v := by simp [evsP, List.range_succ]
theorem evsP_length (n : Nat) (Q v : Int) : (evsP n Q v).length = n := by simp [evsP]
theorem evsP_takes (n : Nat) (Q v : Int) : nlCs ((evsP n Q v).flatMap PV.cells) ((oL (evs n Q (zf v))).flatMap PV.cells) := by
  unfold evsP evs oL
  rw [List.map_map]
  generalize List.range n = l
  induction l with
  | nil => trivial
  | cons i l ih =>
    rw [List.map_cons, List.map_cons, List.flatMap_cons, List.flatMap_cons]
    exact ⟨.inl rfl, .inl rfl, .inl rfl, .inl rfl, .inl rfl, .inr ⟨rfl, 1, rfl⟩, ih⟩
theorem oL_cells (M : List Ot) : ∀ p ∈ oL M, p.cells.length = 6 := by
  intro p hp
  obtain ⟨x, -, rfl⟩ := List.mem_map.1 hp
  rfl
structure Ev1 (n : Nat) where
  i : Nat
  h : i ≤ n
def Ev1.st (Q v : Int) {n : Nat} (a : Ev1 n) : PS := { n := 28, env := [(12, .int .i64 a.i), (11, .int .i64 n), (7, .slt 6 (evsP a.i Q v) 50), (2, .int .i16 v), (1, .int .i64 Q)], objs := [], live := [(50, true)], nxt := 60 }
set_option maxHeartbeats 4000000 in
theorem backEvents_fs (n : Nat) (Q v : Int) (hn : n < 256) (hv : -32768 ≤ v ∧ v ≤ 32767) : Fsp Tryd.prog 35 [] 0 [.int .u8 n, .int .i64 Q, .int .i16 v] [] 0 (.sl 6 (oL (evs (n % 3) Q (zf v)))) := by
  have hm : Int.tmod (n : Int) 3 = ((n % 3 : Nat) : Int) := by rw [Int.tmod_eq_emod_of_nonneg (by omega)]; omega
  obtain ⟨m, hmm⟩ : ∃ m, m = n % 3 := ⟨_, rfl⟩
  have hm3 : m < 3 := by omega
  rw [← hmm] at hm ⊢
  have hw : IntKind.u8.wrap (m : Int) = (m : Int) := wrap_u8_id (by omega) (by omega)
  have hw2 : IntKind.i64.wrap (m : Int) = (m : Int) := wrap_i64_id (by omega) (by omega)
  have hvw : IntKind.i64.wrap v = v := wrap_i64_id (by omega) (by omega)
  have key : Fsp Tryd.prog 35 [] 0 [.int .u8 n, .int .i64 Q, .int .i16 v] [] 0 (.sl 6 (evsP m Q v)) := by
    (refine Fsp.of (nx := 0) mixed Tryd.func35 rfl (by decide) (by first | exact Nat.le_refl _ | simp) (by simp [Tryd.f35]) ⟨by decide, by decide⟩ ?_; simp -implicitDefEqProofs only [push_cast, Tryd.f35, hm, hw, hw2, seval])
    refine loopC_of (α := Ev1 m) (Ev1.st Q v) (fun a => m - a.i) ⟨0, by omega⟩ ?_ ?_
    · (simp only [Ev1.st]; exact Wk.by _ _ _ [] [] [50] (by simp) (by simp [wkV, PV.el, PV.weak, PS.get, PS.obj, PS.lv, lkp_hit, lkp_miss, lkp_nil, lko, evsP, wkL, wkC, res1]) (by simp [PS.get, PS.obj, PS.lv, lkp_hit, lkp_miss, lkp_nil, lko, wkL, wkC, PV.weak, evsP, wkL, wkC, res1]) (by simp [PS.get, PS.obj, PS.lv, lkp_hit, lkp_miss, lkp_nil, lko]) (by rfl) (by rfl) (by simp [lko]) (by simp) (by simp) (by simp) (fun i hi => absurd hi (Nat.not_lt_zero i)))
    · rintro ⟨i, hi⟩
      simp -implicitDefEqProofs only [push_cast, Ev1.st, seval]
      refine condC_split (fun g1 => ?_) (fun g1 => ?_)
      · have hlt : i < m := by simp at g1; omega
        have wi : IntKind.i64.wrap ((i : Int) + 1) = (i : Int) + 1 := wrap_i64_id (by omega) (by omega)
        have hz : IntKind.i64.wrap ((i : Int) + bitsI .and .i64 v 255) = zf v i := rfl
        have hsn := evsP_sn i Q v
        rw [evP] at hsn
        simp -implicitDefEqProofs only [push_cast, hvw, hz, wi, hsn, evsP_length, seval]
        (repeat (first | refine ⟨by omega, ?_⟩ | refine ⟨by (unfold drawOk; kernel_rfl), ?_⟩))
        skip
        refine ⟨⟨i + 1, hlt⟩, Nat.sub_lt_sub_left hlt (Nat.lt_succ_self _), ?_⟩
        (simp only [Ev1.st]; exact Wk.by _ _ _ [] [(50, 112)] [] (by simp) (by simp [wkV, PV.el, PV.weak, PS.get, PS.obj, PS.lv, lkp_hit, lkp_miss, lkp_nil, lko, wkL, wkC, res1]) (by simp [PS.get, PS.obj, PS.lv, lkp_hit, lkp_miss, lkp_nil, lko, wkL, wkC, PV.weak, wkL, wkC, res1]) (by simp [PS.get, PS.obj, PS.lv, lkp_hit, lkp_miss, lkp_nil, lko]) (by rfl) (by rfl) (by simp [lko]) (by simp) (by simp) (by simp) (fun i hi => absurd hi (Nat.not_lt_zero i)))
      · have hie : i = m := by simp at g1; omega
        subst hie
        simp -implicitDefEqProofs only [push_cast, seval]
        skip
  refine key.say (fun g v' r => ?_)
  exact (Rel.nlRow (by rw [evsP_length]; simp [oL, evs]) (evsP_takes m Q v) (oL_cells _) r).sl_inv
theorem rep_38 : replyOf 38 = some ⟨[4, 1], false, 0⟩ := by kernel_rfl
theorem rep_11 : replyOf 11 = some ⟨[4], false, 0⟩ := by kernel_rfl
theorem rep_51 : replyOf 51 = some ⟨[4], false, 0⟩ := by kernel_rfl
theorem rep_58 : replyOf 58 = none := by kernel_rfl
def ansN (n : Nat) (F : Bool) (N Q : Int) : List Ot :=
  if F = true then [⟨0, 2, Q, [N, (bqN n).C], [], []⟩]
  else match replyOf (bqN n).C with
    | some f => [⟨1, (bqN n).C, Q, List.replicate f.F.length 0, [], []⟩]
    | none => []
def ansPV (m : Ot) : PV := .agg [.int .i64 m.K, .int .i64 m.C, .int .i64 m.Q, .sl 1 (ints m.N), .str m.B, .nilsl]
theorem ans_say {g : Gh} {v : Value} (m : Ot) (h : m.L = []) (r : Rel g v (.sl 6 [ansPV m])) : PRel g.h v (.sl 6 (oL [m])) := by
  obtain ⟨K, C, Q, N, B, L⟩ := m
  simp only at h
  subst h
  have hc : nlCs ([ansPV ⟨K, C, Q, N, B, []⟩].flatMap PV.cells) ((oL [⟨K, C, Q, N, B, []⟩]).flatMap PV.cells) := ⟨.inl rfl, .inl rfl, .inl rfl, .inl rfl, .inl rfl, .inr ⟨rfl, 1, rfl⟩, trivial⟩
  exact (Rel.nlRow (qs := [ansPV ⟨K, C, Q, N, B, []⟩]) (es := oL [⟨K, C, Q, N, B, []⟩]) rfl hc (oL_cells _) r).sl_inv
set_option maxHeartbeats 4000000 in
theorem backAnswer_fs (x : Sd) (Q : Int) (hv : -32768 ≤ x.N ∧ x.N ≤ 32767) : Fsp Tryd.prog 36 [] 0 [x.pv, (bq x).pv, .int .i64 Q] [] 0 (.sl 6 (oL (ans x Q))) := by
  have ha : ans x Q = ansN (x.C % 4) x.F x.N Q := rfl
  rw [ha]
  unfold bq
  have h4 : x.C % 4 < 4 := Nat.mod_lt _ (by decide)
  generalize x.C % 4 = n at *
  obtain ⟨C, A, B, F, N, hC, hA, hB⟩ := x
  simp only at hv ⊢
  have hvw : IntKind.i64.wrap N = N := wrap_i64_id (by omega) (by omega)
  have hr := reply_fs (bqN n).C
  cases F with
  | true =>
    refine Fsp.say (nt' := 0) (r := .sl 6 [ansPV ⟨0, 2, Q, [N, (bqN n).C], [], []⟩]) ?_ (fun g v r => ans_say _ rfl r)
    have hp : (bqN n).pv = .agg [.int .i64 (bqN n).C, .sl 1 (ints (bqN n).N), .str (bqN n).B, .sl 1 (ints (bqN n).L)] := rfl
    rw [hp]
    (refine Fsp.of (nx := 0) mixed Tryd.func36 rfl (by decide) (by first | exact Nat.le_refl _ | simp) (by simp [Tryd.f36]) ⟨by decide, by decide⟩ ?_; simp -implicitDefEqProofs only [push_cast, Tryd.f36, Sd.pv, hvw, seval])
    skip
    all_goals first | done | exact ⟨_, rfl, by simp [wkL, res2, res1, PV.weak, PV.el, ansPV, ints, oL, bqN]⟩ | (simp [wkL, res2, res1, res3, PV.weak, PV.el, ansPV, ints, oL, bqN]; done) | skip
  | false =>
    match n, h4 with
    | 0, _ =>
      rw [show (bqN 0).C = 38 from rfl, rep_38] at hr
      refine Fsp.say (nt' := 0) (r := .sl 6 [ansPV ⟨1, 38, Q, [0, 0], [], []⟩]) ?_ (fun g v r => by rw [show ansN 0 false N Q = [⟨1, 38, Q, [0, 0], [], []⟩] by simp only [ansN, show (bqN 0).C = 38 from rfl, rep_38]; rfl]; exact ans_say _ rfl r)
      simp only [optT, formT, Fm.pv, ints, List.map] at hr
      (refine Fsp.of (nx := 0) mixed Tryd.func36 rfl (by decide) (by first | exact Nat.le_refl _ | simp) (by simp [Tryd.f36]) ⟨by decide, by decide⟩ ?_; simp -implicitDefEqProofs only [push_cast, Tryd.f36, Sd.pv, bqN, Rq.pv, ints, seval])
      refine callE_pure hr (by rfl) (by rfl) (by rfl) (by decide) (by rfl) (fun _ => by rfl) (by first | rfl | simp [gdOk, newToks]) ?_
      simp -implicitDefEqProofs only [push_cast, seval]
      skip
      refine callE_bs ?_
      simp -implicitDefEqProofs only [push_cast, seval]
      (repeat (first | refine ⟨by omega, ?_⟩ | refine ⟨by (unfold drawOk; kernel_rfl), ?_⟩))
      all_goals first | done | exact ⟨_, rfl, by simp [wkL, res2, res1, PV.weak, PV.el, ansPV, ints, oL, bqN]⟩ | (simp [wkL, res2, res1, res3, PV.weak, PV.el, ansPV, ints, oL, bqN]; done) | skip
    | 1, _ =>
      rw [show (bqN 1).C = 11 from rfl, rep_11] at hr
      refine Fsp.say (nt' := 0) (r := .sl 6 [ansPV ⟨1, 11, Q, [0], [], []⟩]) ?_ (fun g v r => by rw [show ansN 1 false N Q = [⟨1, 11, Q, [0], [], []⟩] by simp only [ansN, show (bqN 1).C = 11 from rfl, rep_11]; rfl]; exact ans_say _ rfl r)
      simp only [optT, formT, Fm.pv, ints, List.map] at hr
      (refine Fsp.of (nx := 0) mixed Tryd.func36 rfl (by decide) (by first | exact Nat.le_refl _ | simp) (by simp [Tryd.f36]) ⟨by decide, by decide⟩ ?_; simp -implicitDefEqProofs only [push_cast, Tryd.f36, Sd.pv, bqN, Rq.pv, ints, seval])
      refine callE_pure hr (by rfl) (by rfl) (by rfl) (by decide) (by rfl) (fun _ => by rfl) (by first | rfl | simp [gdOk, newToks]) ?_
      simp -implicitDefEqProofs only [push_cast, seval]
      skip
      refine callE_bs ?_
      simp -implicitDefEqProofs only [push_cast, seval]
      (repeat (first | refine ⟨by omega, ?_⟩ | refine ⟨by (unfold drawOk; kernel_rfl), ?_⟩))
      all_goals first | done | exact ⟨_, rfl, by simp [wkL, res2, res1, PV.weak, PV.el, ansPV, ints, oL, bqN]⟩ | (simp [wkL, res2, res1, res3, PV.weak, PV.el, ansPV, ints, oL, bqN]; done) | skip
    | 2, _ =>
      rw [show (bqN 2).C = 51 from rfl, rep_51] at hr
      refine Fsp.say (nt' := 0) (r := .sl 6 [ansPV ⟨1, 51, Q, [0], [], []⟩]) ?_ (fun g v r => by rw [show ansN 2 false N Q = [⟨1, 51, Q, [0], [], []⟩] by simp only [ansN, show (bqN 2).C = 51 from rfl, rep_51]; rfl]; exact ans_say _ rfl r)
      simp only [optT, formT, Fm.pv, ints, List.map] at hr
      (refine Fsp.of (nx := 0) mixed Tryd.func36 rfl (by decide) (by first | exact Nat.le_refl _ | simp) (by simp [Tryd.f36]) ⟨by decide, by decide⟩ ?_; simp -implicitDefEqProofs only [push_cast, Tryd.f36, Sd.pv, bqN, Rq.pv, ints, seval])
      refine callE_pure hr (by rfl) (by rfl) (by rfl) (by decide) (by rfl) (fun _ => by rfl) (by first | rfl | simp [gdOk, newToks]) ?_
      simp -implicitDefEqProofs only [push_cast, seval]
      skip
      refine callE_bs ?_
      simp -implicitDefEqProofs only [push_cast, seval]
      (repeat (first | refine ⟨by omega, ?_⟩ | refine ⟨by (unfold drawOk; kernel_rfl), ?_⟩))
      all_goals first | done | exact ⟨_, rfl, by simp [wkL, res2, res1, PV.weak, PV.el, ansPV, ints, oL, bqN]⟩ | (simp [wkL, res2, res1, res3, PV.weak, PV.el, ansPV, ints, oL, bqN]; done) | skip
    | 3, _ =>
      rw [show (bqN 3).C = 58 from rfl, rep_58] at hr
      rw [show ansN 3 false N Q = [] by simp only [ansN, show (bqN 3).C = 58 from rfl, rep_58]; rfl]
      simp only [optT, form0] at hr
      (refine Fsp.of (nx := 0) mixed Tryd.func36 rfl (by decide) (by first | exact Nat.le_refl _ | simp) (by simp [Tryd.f36]) ⟨by decide, by decide⟩ ?_; simp -implicitDefEqProofs only [push_cast, Tryd.f36, Sd.pv, bqN, Rq.pv, ints, seval])
      refine callE_pure hr (by rfl) (by rfl) (by rfl) (by decide) (by rfl) (fun _ => by rfl) (by first | rfl | simp [gdOk, newToks]) ?_
      simp -implicitDefEqProofs only [push_cast, seval]
      all_goals first | done | exact ⟨_, rfl, by simp [wkL, res2, res1, PV.weak, PV.el, ansPV, ints, oL, bqN]⟩ | (simp [wkL, res2, res1, res3, PV.weak, PV.el, ansPV, ints, oL, bqN]; done) | skip
structure Sm1 (A : List Ot) where
  i : Nat
  h : i ≤ A.length
def Sm1.st {A : List Ot} (a : Sm1 A) : PS := { n := 27, env := [(13, .int .i64 a.i), (12, .int .i64 A.length), (1, .sl 6 (oL A)), (0, .sl 6 (oL A))], objs := [], live := [], nxt := 60 }
set_option maxHeartbeats 4000000 in
theorem backSame_fs (A : List Ot) (hA : A.length ≤ 1000000) (hg : ∀ x ∈ A, x.Good) : Fsp Tryd.prog 37 [] 0 [.sl 6 (oL A), .sl 6 (oL A)] [] 0 (.bool true) := by
  (refine Fsp.of (nx := 0) mixed Tryd.func37 rfl (by decide) (by first | exact Nat.le_refl _ | simp) (by simp [Tryd.f37]) ⟨by decide, by decide⟩ ?_; simp -implicitDefEqProofs only [push_cast, Tryd.f37, oL_length, bne_self_eq_false, seval])
  refine loopC_of (α := Sm1 A) Sm1.st (fun a => A.length - a.i) ⟨0, by omega⟩ ?_ ?_
  · (simp only [Sm1.st]; exact Wk.by _ _ _ [] [] [] (by simp) (by simp [wkV, PV.el, PV.weak, PS.get, PS.obj, PS.lv, lkp_hit, lkp_miss, lkp_nil, lko, wkL, wkC, res1, oL_length]) (by simp [PS.get, PS.obj, PS.lv, lkp_hit, lkp_miss, lkp_nil, lko, wkL, wkC, PV.weak, wkL, wkC, res1, oL_length]) (by simp [PS.get, PS.obj, PS.lv, lkp_hit, lkp_miss, lkp_nil, lko]) (by rfl) (by rfl) (by simp [lko]) (by simp) (by simp) (by simp) (fun i hi => absurd hi (Nat.not_lt_zero i)))
  · rintro ⟨i, hi⟩
    simp -implicitDefEqProofs only [push_cast, Sm1.st, oL_length, seval]
    refine condC_split (fun g1 => ?_) (fun g1 => ?_)
    · have hlt : i < A.length := by simp at g1; omega
      have hgi := ot_at hlt
      have hgm := hg _ (getD_mem ot0' hlt)
      have hsa := tellSame_fs _ _ hgm.few hgm.few hgm.wf hgm.wf
      rw [sameO_refl] at hsa
      have wi : IntKind.i64.wrap ((i : Int) + 1) = (i : Int) + 1 := wrap_i64_id (by omega) (by omega)
      generalize A.getD i ot0' = y at *
      obtain ⟨yK, yC, yQ, yN, yB, yL⟩ := y
      simp only [Ot.pv] at hsa hgi
      simp -implicitDefEqProofs only [push_cast, hgi, oL_length, seval]
      (repeat (first | refine ⟨by omega, ?_⟩ | refine ⟨by (unfold drawOk; kernel_rfl), ?_⟩))
      refine callE_pure hsa (by rfl) (by rfl) (by rfl) (by decide) (by rfl) (fun _ => by rfl) (by first | rfl | simp [gdOk, newToks]) ?_
      simp -implicitDefEqProofs only [push_cast, wi, seval]
      (repeat refine ⟨by (unfold drawOk; kernel_rfl), ?_⟩)
      refine ⟨⟨i + 1, hlt⟩, Nat.sub_lt_sub_left hlt (Nat.lt_succ_self _), ?_⟩
      (simp only [Sm1.st]; exact Wk.by _ _ _ [] [] [] (by simp) (by simp [wkV, PV.el, PV.weak, PS.get, PS.obj, PS.lv, lkp_hit, lkp_miss, lkp_nil, lko, wkL, wkC, res1]) (by simp [PS.get, PS.obj, PS.lv, lkp_hit, lkp_miss, lkp_nil, lko, wkL, wkC, PV.weak, wkL, wkC, res1]) (by simp [PS.get, PS.obj, PS.lv, lkp_hit, lkp_miss, lkp_nil, lko]) (by rfl) (by rfl) (by simp [lko]) (by simp) (by simp) (by simp) (fun i hi => absurd hi (Nat.not_lt_zero i)))
    · simp -implicitDefEqProofs only [push_cast, seval]

end Go.Proofs.Sh

/- glaziertop: backSkip. -/
set_option maxRecDepth 100000
set_option linter.unusedSimpArgs false
set_option linter.unusedVariables false
namespace Go.Proofs.Sh
open Go.Pv

theorem wkC_nilsl (β τ : List (Nat × Nat)) (em : List Nat) (q : PV) : wkC β τ em q .nilsl = (q.weak = .nilsl) := rfl
theorem wkC_nilm (β τ : List (Nat × Nat)) (em : List Nat) (q : PV) : wkC β τ em q .nilm = (q.weak = .nilm) := rfl
theorem frz1_mpv (m : Nat) (ps : List PV) (s : Sb) : frz1 m ps s.mpv = s.mpv := by unfold Sb.mpv; cases s.m <;> rfl
theorem frz1_int (m : Nat) (ps : List PV) (k : IntKind) (n : Int) : frz1 m ps (.int k n) = .int k n := rfl
theorem frz1_str (m : Nat) (ps : List PV) (s : List UInt8) : frz1 m ps (.str s) = .str s := rfl
theorem frz1_bool (m : Nat) (ps : List PV) (b : Bool) : frz1 m ps (.bool b) = .bool b := rfl
theorem frz1_sl (m : Nat) (ps : List PV) (z : Nat) (l : List PV) : frz1 m ps (.sl z l) = .sl z l := rfl
theorem frz1_nilsl (m : Nat) (ps : List PV) : frz1 m ps .nilsl = .nilsl := rfl
theorem frz1_nilm (m : Nat) (ps : List PV) : frz1 m ps .nilm = .nilm := rfl
theorem frz1_box (m i off : Nat) (ps : List PV) (h : i ≠ m) : frz1 m ps (.box i off) = .box i off := by rw [frz1, if_neg h]
theorem frz1_slb (m n sz : Nat) (ps : List PV) (h : 0 + n * sz ≤ ps.length) : frz1 m ps (.slb m 0 n sz) = slOr sz (chunk sz n (ps.drop 0)) := by rw [frz1, if_pos rfl, if_pos h]
theorem dp_int (f : PV → PV) (k : IntKind) (n : Int) : deep3 f (.int k n) = f (.int k n) := rfl
theorem dp_bool (f : PV → PV) (b : Bool) : deep3 f (.bool b) = f (.bool b) := rfl
theorem dp_box (f : PV → PV) (i off : Nat) : deep3 f (.box i off) = f (.box i off) := rfl
theorem dp_slb (f : PV → PV) (i off n sz : Nat) : deep3 f (.slb i off n sz) = f (.slb i off n sz) := rfl
theorem dp_nilsl (f : PV → PV) : deep3 f .nilsl = f .nilsl := rfl
def nop : Rq := ⟨58, [], [], []⟩
def nopC : List PV := [.int .i64 58, .nilsl, .str [], .nilsl]
def zrqC : List PV := [.int .i64 0, .nilsl, .str [], .nilsl]
def skC (i n : Nat) : List PV := (List.replicate i nopC).flatten ++ (List.replicate n zrqC).flatten
theorem skC_set (i n : Nat) : (skC i (n + 1)).set (4 * i) (.int .i64 58) = skC (i + 1) n := by
  unfold skC
  have hl : (List.replicate i nopC).flatten.length = 4 * i := by simp [nopC]; omega
  rw [List.set_append_right _ _ (by omega), hl, Nat.sub_self, List.replicate_succ, List.flatten_cons, List.replicate_succ', List.flatten_append]
  simp [zrqC, nopC]
theorem wkL_self {R : PV → PV → Prop} : ∀ (l : List PV), (∀ p ∈ l, R p p) → wkL R l l
  | [], _ => trivial
  | p :: l, h => ⟨h p (List.mem_cons_self ..), wkL_self l fun x hx => h x (List.mem_cons_of_mem _ hx)⟩
theorem skC_wk (β τ : List (Nat × Nat)) (em : List Nat) (i n : Nat) : wkL (fun q p => wkC β τ em q p) (skC i n) (skC i n) := by
  refine wkL_self _ fun p hp => ?_
  simp only [skC, List.mem_append, List.mem_flatten, List.mem_replicate] at hp
  have h : p ∈ nopC ∨ p ∈ zrqC := by
    rcases hp with ⟨l, ⟨-, rfl⟩, h⟩ | ⟨l, ⟨-, rfl⟩, h⟩
    · exact .inl h
    · exact .inr h
  simp only [nopC, zrqC, List.mem_cons, List.not_mem_nil, or_false] at h
  rcases h with (rfl | rfl | rfl | rfl) | (rfl | rfl | rfl | rfl) <;> rfl
theorem chunk_rep (c : List PV) (hc : c.length = 4) : ∀ n : Nat, chunk 4 n (List.replicate n c).flatten = List.replicate n (.agg (c.map PV.weak))
  | 0 => rfl
  | n + 1 => by
    rw [List.replicate_succ, List.flatten_cons, List.replicate_succ, chunk, if_neg (by decide), ← hc, List.take_left, List.drop_left, hc, chunk_rep c hc n]
theorem put_nops (o : Int) (ho : o = 0 ∨ o = 1) : ∀ (n : Nat) (out : List UInt8), out.length + 4 * n ≤ 65536 → ((List.replicate n nop).foldl (putI o) (out, 0)).2 = 0 ∧ ((List.replicate n nop).foldl (putI o) (out, 0)).1.length = out.length + 4 * n
  | 0, out, _ => ⟨rfl, by simp⟩
  | n + 1, out, h => by
    have hp : (packS o nop).2 = 0 ∧ (packS o nop).1.length = 4 := by rcases ho with rfl | rfl <;> exact ⟨by kernel_rfl, by decide +kernel⟩
    rw [List.replicate_succ, List.foldl_cons]
    have e : putI o (out, 0) nop = (out ++ (packS o nop).1, 0) := by
      rw [putI, if_pos rfl, if_pos hp.1, if_neg (by simp only; omega)]
    rw [e]
    have := put_nops o ho n (out ++ (packS o nop).1) (by rw [List.length_append]; omega)
    rw [List.length_append, hp.2] at this
    exact ⟨this.1, by omega⟩
theorem add_nops : ∀ (n : Nat) (a : Int × List Int × List (Int × Int)), (List.replicate n nop).foldl addR a = (a.1 + n, a.2)
  | 0, a => by simp
  | n + 1, a => by
    rw [List.replicate_succ, List.foldl_cons]
    have e : addR a nop = (a.1 + 1, a.2) := by
      rw [addR, if_neg (by decide +kernel)]
    rw [e, add_nops n]
    simp only [Prod.mk.injEq, and_true]; omega
/-- A thousand no-ops asked, and taken. -/
theorem ask_nops (s : Sb) (ho : s.o = 0 ∨ s.o = 1) (hc : ¬ s.c = 0) (hl : s.out.length ≤ 60000) : (askS s (List.replicate 1000 nop)).2 = 0 ∧ (askS s (List.replicate 1000 nop)).1.n = s.n + 1000 ∧ (askS s (List.replicate 1000 nop)).1.q = s.q ∧ (askS s (List.replicate 1000 nop)).1.o = s.o ∧
    (askS s (List.replicate 1000 nop)).1.c = s.c ∧ (askS s (List.replicate 1000 nop)).1.d = s.d ∧ (askS s (List.replicate 1000 nop)).1.l = s.l ∧ (askS s (List.replicate 1000 nop)).1.came = s.came ∧ (askS s (List.replicate 1000 nop)).1.mm = s.mm := by
  obtain ⟨h1, h2⟩ := put_nops s.o ho 1000 s.out (by omega)
  have he : askE s (List.replicate 1000 nop) = 0 := by rw [askE, if_neg hc]; exact h1
  have ha : s.add (List.replicate 1000 nop) = (s.n + 1000, s.q, s.mm) := add_nops 1000 (s.n, s.q, s.mm)
  rw [askS, if_pos he]
  refine ⟨rfl, ?_, ?_, rfl, rfl, rfl, rfl, rfl, ?_⟩
  · show (s.add (List.replicate 1000 nop)).1 = _; rw [ha]
  · show (s.add (List.replicate 1000 nop)).2.1 = _; rw [ha]
  · show (s.add (List.replicate 1000 nop)).2.2 = _; rw [ha]
structure K1 where
  i : Nat
  h : i ≤ 1000
def K1.st (t : Nat) (s : Sb) (a : K1) : PS := { n := 40, env := [(13, .int .i64 a.i), (12, .int .i64 1000), (6, .slb 2 0 1000 4), (4, .box 1 0), (2, .box 0 0), (1, .int .i64 t)], objs := [(0, some (s.cs (.sl 1 (ints s.q)) s.mpv)), (1, some (sb0.cs .nilsl .nilm)), (2, some (skC a.i (1000 - a.i)))], live := [], nxt := 60 }
/-- So many thousand. -/
def nops : List Rq := List.replicate 1000 nop
def skS : Nat → Sb → Sb
  | 0, s => s
  | t + 1, s => { (askS (skS t s) nops).1 with out := [] }
theorem skS_at (s : Sb) (ho : s.o = 0 ∨ s.o = 1) (hc : ¬ s.c = 0) (hl : s.out.length ≤ 4) : ∀ t : Nat, (skS t s).n = s.n + 1000 * t ∧ (skS t s).q = s.q ∧ (skS t s).o = s.o ∧ (skS t s).c = s.c ∧ (skS t s).d = s.d ∧ (skS t s).l = s.l ∧ (skS t s).came = s.came ∧ (skS t s).mm = s.mm ∧ (skS t s).out.length ≤ 4
  | 0 => ⟨by simp [skS], rfl, rfl, rfl, rfl, rfl, rfl, rfl, hl⟩
  | t + 1 => by
    obtain ⟨a1, a2, a3, a4, a5, a6, a7, a8, a9⟩ := skS_at s ho hc hl t
    obtain ⟨b1, b2, b3, b4, b5, b6, b7, b8, b9⟩ := ask_nops (skS t s) (by rw [a3]; exact ho) (by rw [a4]; exact hc) (by omega)
    refine ⟨?_, b3.trans a2, b4.trans a3, b5.trans a4, b6.trans a5, b7.trans a6, b8.trans a7, b9.trans a8, by simp [skS]⟩
    show (askS (skS t s) nops).1.n = _
    rw [show nops = List.replicate 1000 nop from rfl, b2, a1]; omega
theorem slOr_nops : slOr 4 (List.replicate 1000 (.agg nopC)) = .sl 4 (List.replicate 1000 (.agg nopC)) := by
  rw [show (1000 : Nat) = 999 + 1 from rfl, List.replicate_succ]; rfl
structure K2 (t : Nat) where
  i : Nat
  h : i ≤ t
def nopL : List PV := List.replicate 1000 (.agg nopC)
theorem slOr_nopL : slOr 4 nopL = .sl 4 nopL := slOr_nops
def K2.st (s : Sb) {t : Nat} (a : K2 t) : PS := { n := 40, env := [(22, .int .i64 a.i), (21, .int .i64 t), (6, .sl 4 nopL), (4, .box 1 0), (2, .box 0 0)], objs := [(0, some ((skS a.i s).cs (.sl 1 (ints (skS a.i s).q)) (skS a.i s).mpv)), (1, some (sb0.cs .nilsl .nilm))], live := [], nxt := 60 }
theorem nopL_takes : nlCs (nopL.flatMap PV.cells) ((rqL nops).flatMap PV.cells) := by
  unfold nopL nops rqL
  rw [List.map_replicate]
  generalize 1000 = n
  induction n with
  | zero => trivial
  | succ n ih =>
    rw [List.replicate_succ, List.replicate_succ, List.flatMap_cons, List.flatMap_cons]
    exact ⟨.inl rfl, .inr ⟨rfl, 1, rfl⟩, .inl rfl, .inr ⟨rfl, 1, rfl⟩, ih⟩
set_option maxHeartbeats 8000000 in
theorem backSkip_fs (s : Sb) (t : Nat) (ht : t ≤ 100) (ho : s.o = 0 ∨ s.o = 1) (hc : ¬ s.c = 0) (hl : s.out.length ≤ 4) (hq : s.q.length ≤ 100000) (hn0 : 0 ≤ s.n) (hn1 : s.n ≤ 1000000) :
    Fsp Tryd.prog 34 [] 0 [.agg (s.cs (.sl 1 (ints s.q)) s.mpv.weak), .int .i64 t] [] 0 (.tup [(skS t s).pv, .bool true]) := by
  rw [mpv_weak]
  (refine Fsp.of (nx := 0) mixed Tryd.func34 rfl (by decide) (by first | exact Nat.le_refl _ | simp) (by simp [Tryd.f34]) ⟨by decide, by decide⟩ ?_; simp -implicitDefEqProofs only [push_cast, Tryd.f34, Sb.cs, seval])
  refine callE_mk rfl (by rfl) (by rfl) tk_28 tsz_44 (by decide) (zs := zrqC) (by rfl) (by rfl) (by decide) (by decide) (by decide) (by decide) (by first | rfl | simp [gdOk]) ?_
  simp -implicitDefEqProofs only [push_cast, seval]
  skip
  refine loopC_of (α := K1) (K1.st t s) (fun a => 1000 - a.i) ⟨0, by omega⟩ ?_ ?_
  · (simp only [K1.st, Sb.cs, sb0]; exact Wk.by _ _ _ [(0, 0), (1, 4), (2, 12)] [] [] (by simp) (by simp [wkV, PV.el, PV.weak, PS.get, PS.obj, PS.lv, lkp_hit, lkp_miss, lkp_nil, lko, wkL, res1, skC, zrqC, wkC_nilsl, wkC_nilm]) (by simp [PS.get, PS.obj, PS.lv, lkp_hit, lkp_miss, lkp_nil, lko, wkL, mpv_wkC, wkC_int, wkC_str, wkC_bool, wkC_sl, wkC_mpure, wkC_any, PV.weak, wkL, res1, skC, zrqC, wkC_nilsl, wkC_nilm]) (by simp [PS.get, PS.obj, PS.lv, lkp_hit, lkp_miss, lkp_nil, lko]) (by rfl) (by rfl) (by simp [lko]) (by simp) (by simp) (by simp) (fun i hi => absurd hi (Nat.not_lt_zero i)))
  · rintro ⟨i, hi⟩
    simp -implicitDefEqProofs only [push_cast, K1.st, Sb.cs, seval]
    refine condC_split (fun g1 => ?_) (fun g1 => ?_)
    · have hlt : i < 1000 := by simp at g1; omega
      have hst := skC_set i (1000 - (i + 1))
      rw [show 1000 - (i + 1) + 1 = 1000 - i by omega] at hst
      have wi : IntKind.i64.wrap ((i : Int) + 1) = (i : Int) + 1 := wrap_i64_id (by omega) (by omega)
      have hsl : (skC i (1000 - i)).length = 4000 := by simp [skC, nopC, zrqC]; omega
      have hst2 : List.take (i * 4) (skC i (1000 - i)) ++ .int .i64 58 :: List.drop (i * 4 + 1) (skC i (1000 - i)) = skC (i + 1) (1000 - (i + 1)) := by
        rw [← hst, List.set_eq_take_append_cons_drop, if_pos (by omega), Nat.mul_comm]
      simp -implicitDefEqProofs only [push_cast, wi, hst2, seval]
      refine ⟨by omega, by omega, ⟨i + 1, hlt⟩, by simp only; omega, ?_⟩
      (simp only [K1.st, Sb.cs, sb0]; exact Wk.by _ _ _ [(0, 0), (1, 1), (2, 2)] [] [] (by simp) (by simp [wkV, PV.el, PV.weak, PS.get, PS.obj, PS.lv, lkp_hit, lkp_miss, lkp_nil, lko, wkL, res1, wkC_nilsl, wkC_nilm, skC_wk]) (by simp [PS.get, PS.obj, PS.lv, lkp_hit, lkp_miss, lkp_nil, lko, wkL, mpv_wkC, wkC_int, wkC_str, wkC_bool, wkC_sl, wkC_mpure, wkC_any, PV.weak, wkL, res1, wkC_nilsl, wkC_nilm, skC_wk]) (by simp [PS.get, PS.obj, PS.lv, lkp_hit, lkp_miss, lkp_nil, lko]) (by rfl) (by rfl) (by simp [lko]) (by simp) (by simp) (by simp) (fun i hi => absurd hi (Nat.not_lt_zero i)))
    · have hie : i = 1000 := by simp at g1; omega
      subst hie
      simp -implicitDefEqProofs only [push_cast, seval]
      skip
      have hch : chunk 4 1000 (List.drop 0 (skC 1000 0)) = nopL := by
        rw [List.drop_zero, skC, List.replicate_zero, List.flatten_nil, List.append_nil, chunk_rep nopC rfl]
        rfl
      have hcl : 0 + 1000 * 4 ≤ (skC 1000 0).length := by simp [skC, nopC]
      refine loopC_of (α := K2 t) (K2.st s) (fun a => t - a.i) ⟨0, by omega⟩ (Wk.trans (Wk.frz (id := 2) (ps := skC 1000 0) (by simp [PS.obj, lkp_hit, lkp_miss]) (Nat.zero_le _)) ?_) ?_
      · simp only [PS.frz, frEnv, frObjs, List.map_cons, List.map_nil, Option.map_some, dp_int, dp_bool, dp_box, dp_slb, dp_nilsl, frz1_mpv, frz1_int, frz1_str, frz1_bool, frz1_sl, frz1_nilsl, frz1_nilm, frz1_slb 2 1000 4 _ hcl, hch, frz1_box 2 0 _ _ (by decide), frz1_box 2 1 _ _ (by decide), slOr_nopL]
        skip
        (simp only [K2.st, Sb.cs, sb0]; exact Wk.by _ _ _ [(0, 0), (1, 1)] [] [] (by simp) (by simp [wkV, PV.el, PV.weak, PS.get, PS.obj, PS.lv, lkp_hit, lkp_miss, lkp_nil, lko, wkL, res1, wkC_nilsl, wkC_nilm, skS]) (by simp [PS.get, PS.obj, PS.lv, lkp_hit, lkp_miss, lkp_nil, lko, wkL, mpv_wkC, wkC_int, wkC_str, wkC_bool, wkC_sl, wkC_mpure, wkC_any, PV.weak, wkL, res1, wkC_nilsl, wkC_nilm, skS]) (by simp [PS.get, PS.obj, PS.lv, lkp_hit, lkp_miss, lkp_nil, lko]) (by rfl) (by rfl) (by simp [lko]) (by simp) (by simp) (by simp) (fun i hi => absurd hi (Nat.not_lt_zero i)))
      · rintro ⟨i, hi⟩
        simp -implicitDefEqProofs only [push_cast, K2.st, Sb.cs, seval]
        refine condC_split (fun g1 => ?_) (fun g1 => ?_)
        · have hlt : i < t := by simp at g1; omega
          have wi : IntKind.i64.wrap ((i : Int) + 1) = (i : Int) + 1 := wrap_i64_id (by omega) (by omega)
          obtain ⟨f1, f2, f3, f4, f5, f6, f7, f8, f9⟩ := skS_at s ho hc hl i
          have hk := ask_nops (skS i s) (by rw [f3]; exact ho) (by rw [f4]; exact hc) (by omega)
          have hak := askM_fs (skS i s) nops ⟨by rw [f2]; omega, by omega, by omega, by omega⟩ (by simp [nops]) (fun y hy => by obtain ⟨-, rfl⟩ := List.mem_replicate.1 hy; exact ⟨by simp [nop], by simp [nop], by simp [nop]⟩)
          have hak := hak.takes (qs := [.agg ((skS i s).cs (.sl 1 (ints (skS i s).q)) (skS i s).mpv.weak), .sl 4 nopL]) rfl (fun i q p h1 h2 g v r => by
            rcases i with _ | _ | i
            · simp only [List.getElem?_cons_zero, Option.some.injEq] at h1 h2; subst h1; subst h2; exact r
            · simp only [List.getElem?_cons_zero, List.getElem?_cons_succ, Option.some.injEq] at h1 h2; subst h1; subst h2
              refine Rel.nlRow ?_ nopL_takes ?_ r
              · rw [rqL_length, nopL, nops, List.length_replicate, List.length_replicate]
              · intro p hp
                obtain ⟨a, -, rfl⟩ := List.mem_map.1 hp
                rfl
            · simp at h1)
          have he2 : (askS (skS i s) nops).2 = 0 := hk.1
          have hsk : skS (i + 1) s = { (askS (skS i s) nops).1 with out := [] } := rfl
          rw [askR, he2] at hak
          generalize (askS (skS i s) nops).1 = s' at *
          have ht1 := takeM_fs s'
          simp only [Sb.pv, Sb.cs, show ({ s' with out := [] } : Sb).mpv = s'.mpv from rfl] at ht1 hak
          generalize skS i s = s0 at *
          simp -implicitDefEqProofs only [push_cast, seval]
          refine callE_pure hak (by rfl) (by rfl) (by first | rfl | (simp only [List.map_cons, List.map_nil, List.toList_toArray, PS.ev, PS.get, lkp_hit, lkp_miss, lkp_nil, PV.un, PV.el, mpv_weak]; rfl)) (by decide) (by first | rfl | (simp only [tokLt, tokLt2, List.all_cons, List.all_nil, mpv_tok1]; rfl)) (fun _ => by rfl) (by first | rfl | simp [gdOk, newToks]) ?_
          simp -implicitDefEqProofs only [push_cast, mpv_weak, mpv_back1, mpv_tok1, mpv_cells, mpv_one, mpv_un, mpv_cnd, seval]
          refine callE_pure ht1 (by rfl) (by rfl) (by first | rfl | (simp only [List.map_cons, List.map_nil, List.toList_toArray, PS.ev, PS.get, lkp_hit, lkp_miss, lkp_nil, PV.un, PV.el, mpv_weak]; rfl)) (by decide) (by first | rfl | (simp only [tokLt, tokLt2, List.all_cons, List.all_nil, mpv_tok1]; rfl)) (fun _ => by rfl) (by first | rfl | simp [gdOk, newToks]) ?_
          simp -implicitDefEqProofs only [push_cast, wi, mpv_weak, mpv_back1, mpv_tok1, mpv_cells, mpv_one, mpv_un, mpv_cnd, seval]
          skip
          refine ⟨⟨i + 1, hlt⟩, Nat.sub_lt_sub_left hlt (Nat.lt_succ_self _), ?_⟩
          (simp only [K2.st, Sb.cs, sb0, hsk]; exact Wk.by _ _ _ [(0, 0), (1, 1)] [] [] (by simp) (by simp [wkV, PV.el, PV.weak, PS.get, PS.obj, PS.lv, lkp_hit, lkp_miss, lkp_nil, lko, wkL, res1, wkC_nilsl, wkC_nilm, show ({ s' with out := [] } : Sb).mpv = s'.mpv from rfl]) (by simp [PS.get, PS.obj, PS.lv, lkp_hit, lkp_miss, lkp_nil, lko, wkL, mpv_wkC, wkC_int, wkC_str, wkC_bool, wkC_sl, wkC_mpure, wkC_any, PV.weak, wkL, res1, wkC_nilsl, wkC_nilm, show ({ s' with out := [] } : Sb).mpv = s'.mpv from rfl]) (by simp [PS.get, PS.obj, PS.lv, lkp_hit, lkp_miss, lkp_nil, lko]) (by rfl) (by rfl) (by simp [lko]) (by simp) (by simp) (by simp) (fun i hi => absurd hi (Nat.not_lt_zero i)))
        · have hie : i = t := by simp at g1; omega
          subst hie
          simp -implicitDefEqProofs only [push_cast, seval]
          generalize skS i s = s0
          exact ⟨_, rfl, .inr ⟨_, rfl, rfl, rfl, rfl, rfl, rfl, rfl, rfl, rfl, .inl rfl, of_eq_true (mpv_res1 s0 [] []), trivial⟩, rfl, trivial⟩

end Go.Proofs.Sh

/- What is said may be said. Plain. -/
set_option maxRecDepth 100000
set_option linter.unusedSimpArgs false
set_option linter.unusedVariables false
namespace Go.Proofs.Sh
open Go.Pv

theorem fmt_len {o : Int} (ho : isOrder o) (f : Fm) (h : f.Ok) (x : Fd) (hE : (fitsE f x != 0) = false) : (fmt o f x).length ≤ 17 + 4 * x.N.length + x.B.length + 4 * x.L.length := by
  have hn := fitsE_n hE
  have r1 := row_length o h x.N x.N.length (by omega)
  have q1 := p1_length (row o f.F x.N x.N.length)
  have h1 : (fmt1 o f x).length ≤ 4 * x.N.length + 3 := by unfold fmt1; omega
  have p4 := putS_length (o := o) (s := 4) (by unfold isSize; omega) x.B.length
  have h2 : (fmt2 o f x).length ≤ 4 * x.N.length + 10 + x.B.length := by
    unfold fmt2
    split
    · have := p1_length (fmt1 o f x ++ putS o 4 x.B.length ++ x.B)
      simp only [List.length_append] at this
      omega
    · omega
  have p5 := putS_length (o := o) (s := 4) (by unfold isSize; omega) x.L.length
  unfold fmt
  split
  · rename_i hL
    have hLs : isSize f.L := by
      rcases h.l with e | e
      · rw [e] at hL; exact absurd hL (by decide)
      · exact e
    have r2 := row1_length o hLs x.L x.L.length
    have := p1_length (fmt2 o f x ++ putS o 4 x.L.length ++ row1 o f.L x.L x.L.length)
    simp only [List.length_append] at this
    omega
  · omega

theorem say_ok {o : Int} (ho : o = 0 ∨ o = 1) {m : Ot} {f : Fm} (hf : mForm m.K m.C = some f) (hq0 : 0 ≤ m.Q) (hq1 : m.Q ≤ 1000000) (hN : m.N.length ≤ 10) (hB : m.B = []) (hL : m.L = []) (hfit : fitsE f m.fd = 0) : (tellS o m).2 = 0 := by
  have hi : isOrd o = true := isOrd_01 ho
  obtain ⟨hok, -⟩ := mForm_some hf
  have hl := fmt_len (isOrd_of hi) f hok m.fd (by rw [hfit]; rfl)
  rw [show m.fd = ⟨m.N, m.B, m.L⟩ from rfl, hB, hL] at hl
  simp only [List.length_nil] at hl
  rw [tellS, if_pos hi, tellP, hf]
  show (tellQ o m f).2 = 0
  rw [tellQ, if_neg (by omega), if_neg (by rw [hfit]; decide), if_neg]
  rw [show m.fd = ⟨m.N, m.B, m.L⟩ from rfl, hB, hL]
  simp only [decide_eq_true_eq]; omega
theorem ev_form : mForm 2 12 = some ⟨[4], false, 0⟩ := by kernel_rfl
theorem ev_ok {o : Int} (ho : o = 0 ∨ o = 1) {Q z : Int} (h0 : 0 ≤ Q) (h1 : Q ≤ 1000000) (z0 : 0 ≤ z) (z1 : z ≤ 1000) : (tellS o (ev Q z)).2 = 0 ∧ (ev Q z).Good := by
  refine ⟨say_ok ho ev_form h0 h1 (by simp [ev]) rfl rfl ?_, by simp [ev], by simp [ev], by simp [ev], i64_wf (by simp [ev]) (by simp [ev]), i64_wf (by simp [ev]) (by simp [ev]), i64_wf (by simp only [ev]; omega) (by simp only [ev]; omega)⟩
  simp [fitsE, allFit, Ot.fd, ev, fitsN, low, high, rowFit]
  omega
theorem bqN_C (n : Nat) (h : n < 4) : (bqN n).C = 38 ∨ (bqN n).C = 11 ∨ (bqN n).C = 51 ∨ (bqN n).C = 58 := by
  match n, h with
  | 0, _ => exact .inl rfl
  | 1, _ => exact .inr (.inl rfl)
  | 2, _ => exact .inr (.inr (.inl rfl))
  | 3, _ => exact .inr (.inr (.inr rfl))
theorem ans_ok {o : Int} (ho : o = 0 ∨ o = 1) {Q : Int} (h0 : 0 ≤ Q) (h1 : Q ≤ 1000000) (x : Sd) (hN : -32768 ≤ x.N ∧ x.N ≤ 32767) : (ans x Q).length ≤ 1 ∧ ∀ m ∈ ans x Q, (tellS o m).2 = 0 ∧ m.Good := by
  have hC := bqN_C (x.C % 4) (Nat.mod_lt _ (by decide))
  have hc : (bq x).C = 38 ∨ (bq x).C = 11 ∨ (bq x).C = 51 ∨ (bq x).C = 58 := hC
  unfold ans
  by_cases hF : x.F = true
  · rw [if_pos hF]
    refine ⟨by simp, fun m hm => ?_⟩
    obtain rfl := List.mem_singleton.1 hm
    refine ⟨say_ok (f := fault0) ho (by rfl) h0 h1 (by simp) rfl rfl ?_, by simp, by simp, by simp, i64_wf (by simp) (by simp), i64_wf (by simp) (by simp), i64_wf (by simp only; omega) (by simp only; omega)⟩
    rcases hc with hc | hc | hc | hc <;> (rw [hc]; simp [fitsE, allFit, Ot.fd, fault0, fitsN, low, high, rowFit, List.range_succ]; omega)
  · rw [if_neg hF]
    cases hrp : replyOf (bq x).C with
    | none => exact ⟨by simp, fun m hm => by cases hm⟩
    | some f =>
      refine ⟨by simp, fun m hm => ?_⟩
      obtain rfl := List.mem_singleton.1 hm
      have hf : f = ⟨[4, 1], false, 0⟩ ∨ f = ⟨[4], false, 0⟩ := by
        rcases hc with hc | hc | hc | hc <;> rw [hc] at hrp
        · rw [rep_38] at hrp; exact .inl (Option.some.inj hrp).symm
        · rw [rep_11] at hrp; exact .inr (Option.some.inj hrp).symm
        · rw [rep_51] at hrp; exact .inr (Option.some.inj hrp).symm
        · rw [rep_58] at hrp; cases hrp
      refine ⟨say_ok (f := f) ho (by show mForm 1 (bq x).C = _; rw [← hrp]; rfl) h0 h1 (by rcases hf with rfl | rfl <;> simp) rfl rfl ?_, by rcases hf with rfl | rfl <;> simp, by simp, by simp, i64_wf (by simp) (by simp), ?_, i64_wf (by simp only; omega) (by simp only; omega)⟩
      · rcases hf with rfl | rfl <;> simp [fitsE, allFit, Ot.fd, fitsN, low, high, rowFit, List.range_succ]
      · rcases hc with hc | hc | hc | hc <;> (simp only [hc]; exact i64_wf (by decide) (by decide))
def zz (x : Sd) : Nat → Int := zf x.N
theorem said1_ok {o : Int} (ho : o = 0 ∨ o = 1) {Q : Int} (h0 : 0 ≤ Q) (h1 : Q ≤ 1000000) (x : Sd) (hN : -32768 ≤ x.N ∧ x.N ≤ 32767) : (said1 zz x Q).length ≤ 5 ∧ ∀ m ∈ said1 zz x Q, (tellS o m).2 = 0 ∧ m.Good := by
  obtain ⟨a1, a2⟩ := ans_ok ho h0 h1 x hN
  have he : ∀ n : Nat, n < 3 → ∀ m ∈ evs n Q (zz x), (tellS o m).2 = 0 ∧ m.Good := by
    intro n hn m hm
    obtain ⟨i, hi, rfl⟩ := List.mem_map.1 hm
    have hz := zf_bd x.N i (by have := List.mem_range.1 hi; omega)
    exact ev_ok ho h0 h1 hz.1 (by have h2 : zz x i ≤ 257 := hz.2; omega)
  have hl : ∀ n : Nat, (evs n Q (zz x)).length = n := fun n => by simp [evs]
  have m1 : x.A % 3 < 3 := Nat.mod_lt _ (by decide)
  have m2 : x.B % 3 < 3 := Nat.mod_lt _ (by decide)
  refine ⟨?_, fun m hm => ?_⟩
  · simp only [said1, List.length_append, hl]; omega
  · simp only [said1, List.mem_append] at hm
    rcases hm with (hm | hm) | hm
    · exact he _ m1 m hm
    · exact a2 m hm
    · exact he _ m2 m hm
theorem said_ok {o : Int} (ho : o = 0 ∨ o = 1) : ∀ (X : List Sd) (b : Nat), b + X.length ≤ 1000000 → (∀ x ∈ X, -32768 ≤ x.N ∧ x.N ≤ 32767) → (saidL zz b X).length ≤ 5 * X.length ∧ ∀ m ∈ saidL zz b X, (tellS o m).2 = 0 ∧ m.Good
  | [], b, _, _ => ⟨by simp [saidL], fun m hm => by cases hm⟩
  | x :: X, b, hb, hN => by
    rw [List.length_cons] at hb
    obtain ⟨a1, a2⟩ := said1_ok ho (Q := ((b + 1 : Nat) : Int)) (by omega) (by omega) x (hN x (List.mem_cons_self ..))
    obtain ⟨b1, b2⟩ := said_ok ho X (b + 1) (by omega) (fun y hy => hN y (List.mem_cons_of_mem _ hy))
    refine ⟨by simp only [saidL, List.length_append, List.length_cons]; omega, fun m hm => ?_⟩
    rw [saidL, List.mem_append] at hm
    rcases hm with hm | hm
    · exact a2 m hm
    · exact b2 m hm
theorem cat_len {o : Int} : ∀ (M : List Ot), (∀ m ∈ M, (tellS o m).2 = 0) → (cat o M).length ≤ 65544 * M.length
  | [], _ => by simp [cat]
  | m :: M, h => by
    have h1 := tell_len (h m (List.mem_cons_self ..))
    have h2 := cat_len M (fun x hx => h x (List.mem_cons_of_mem _ hx))
    have e : cat o (m :: M) = (tellS o m).1 ++ cat o M := rfl
    rw [e, List.length_append, List.length_cons]; omega
theorem cat_sn (o : Int) (M : List Ot) (m : Ot) : cat o (M ++ [m]) = cat o M ++ (tellS o m).1 := by simp [cat]
/-- One request more, and what is said behind it. -/
theorem rdy_sn {s s' : Sb} {b : Nat} {X : List Sd} {x : Sd} (q : s.q = wf b X) (n : s.n = ((b + X.length : Nat) : Int)) (m : ∀ (j : Nat) (y : Sd), X[j]? = some y → rep y = true → mgetI s.mm ((b + j + 1 : Nat) : Int) 0 = (bq y).C)
    (q' : s'.q = if (replyOf (bq x).C).isSome = true then s.q ++ [s.n + 1] else s.q) (m' : s'.mm = if (replyOf (bq x).C).isSome = true then msetI s.mm (s.n + 1) (bq x).C else s.mm) :
    s'.q = wf b (X ++ [x]) ∧ ∀ (j : Nat) (y : Sd), (X ++ [x])[j]? = some y → rep y = true → mgetI s'.mm ((b + j + 1 : Nat) : Int) 0 = (bq y).C := by
  have e : s.n + 1 = ((b + X.length + 1 : Nat) : Int) := by rw [n]; rfl
  rw [e] at q' m'
  constructor
  · rw [q', wf_sn, q]
    unfold rep
    split <;> simp
  · intro j y hy hr
    rw [m']
    by_cases hj : j < X.length
    · rw [List.getElem?_append_left hj] at hy
      split
      · rw [mgetI_set_ne (by omega)]; exact m j y hy hr
      · exact m j y hy hr
    · rw [List.getElem?_append_right (by omega)] at hy
      have hj0 : j - X.length = 0 := by
        cases h : j - X.length with
        | zero => rfl
        | succ k => rw [h] at hy; simp at hy
      rw [hj0] at hy
      simp only [List.getElem?_cons_zero, Option.some.injEq] at hy
      subst hy
      have : j = X.length := by omega
      subst this
      have hr' : (replyOf (bq x).C).isSome = true := hr
      rw [if_pos hr', mgetI_set_same]

end Go.Proofs.Sh

/- What has come of the first bytes. Plain. -/
set_option maxRecDepth 100000
set_option linter.unusedSimpArgs false
set_option linter.unusedVariables false
namespace Go.Proofs.Sh
open Go.Pv

theorem oLnil : oL [] = [] := rfl
theorem oL_app (a b : List Ot) : oL a ++ oL b = oL (a ++ b) := by simp [oL]
def u8L (l : List Nat) : List PV := l.map fun (n : Nat) => .int .u8 (n : Int)
theorem u8L_length (l : List Nat) : (u8L l).length = l.length := List.length_map _
theorem u8L_at {l : List Nat} {i : Nat} (h : i < l.length) : (u8L l).getD i PV.any = .int .u8 ((l.getD i 0 : Nat) : Int) := by
  rw [u8L, List.getD_eq_getElem?_getD, List.getElem?_map, List.getElem?_eq_getElem h, List.getD_eq_getElem?_getD, List.getElem?_eq_getElem h]; rfl
theorem u8L_sn (l : List Nat) (n : Nat) : u8L l ++ [.int .u8 (n : Int)] = u8L (l ++ [n]) := by simp [u8L]
/-- What has come of the first bytes. -/
structure Pt (s0 : Sb) (b : List UInt8) (n : Nat) where
  i : Nat
  p : Nat
  s : Sb
  L : List Ot
  hi : i ≤ n
  hp : p ≤ b.length
  lv : s.Live
  hn : s.n = s0.n
  hw : wholeS s.o s.came = false
  hq : s.q.length ≤ 1000000
  hc : s.came.length + 8 * L.length ≤ p
  e : ∀ t, (feedS s0 (b.take p ++ t)).2.2 = (feedS s t).2.2 ∧ ((feedS s t).2.2 = 0 → feedS s0 (b.take p ++ t) = ((feedS s t).1, L ++ (feedS s t).2.1, 0))
theorem feedS_n {s : Sb} (h : s.Live) {b : List UInt8} (h0 : (feedS s b).2.2 = 0) : (feedS s b).1.n = s.n := by
  rw [feedS_go h] at h0 ⊢
  split
  · obtain ⟨-, -, -, k4, -⟩ := go_keep ((s.came ++ b).length + 1) s.own (s.came ++ b)
    exact k4
  · rename_i h1; rw [if_neg h1] at h0; exact absurd h0 h1
theorem take_take {α : Type} (b : List α) (p m : Nat) : b.take p ++ (b.drop p).take m = b.take (p + m) := by
  rw [List.take_add]
theorem Pt.step {s0 : Sb} {b : List UInt8} {n : Nat} (a : Pt s0 b n) (m j : Nat) (hj : j ≤ n) (hm : m ≤ b.length - a.p) (h0 : (feedS a.s ((b.drop a.p).take m)).2.2 = 0) :
    ∃ a' : Pt s0 b n, a'.i = j ∧ a'.p = a.p + m ∧ a'.s = (feedS a.s ((b.drop a.p).take m)).1 ∧ a'.L = a.L ++ (feedS a.s ((b.drop a.p).take m)).2.1 := by
  obtain ⟨i, p, s, L, hi', hp, lv, hsn, hw, hq, hc, e⟩ := a
  simp only at hm h0 ⊢
  have hml : ((b.drop p).take m).length = m := by rw [List.length_take, List.length_drop]; omega
  obtain ⟨r1, r2, r3, r4⟩ := feedS_ok lv h0
  obtain ⟨hl1, -⟩ := (feedS_app lv ((b.drop p).take m) []).1 h0
  have hkn := feedS_n lv h0
  refine ⟨⟨j, p + m, _, _, hj, by omega, hl1, hkn.trans hsn, r1, by omega, by rw [List.length_append]; omega, fun t => ?_⟩, rfl, rfl, rfl, rfl⟩
  obtain ⟨e1, e2⟩ := e ((b.drop p).take m ++ t)
  obtain ⟨-, a1, a2⟩ := (feedS_app lv ((b.drop p).take m) t).1 h0
  rw [← take_take, List.append_assoc, e1, a1]
  refine ⟨rfl, fun h => ?_⟩
  rw [← a1] at h
  rw [e2 h, a2 h, List.append_assoc]
theorem Pt.bad {s0 : Sb} (h0 : s0.Live) {b : List UInt8} {n : Nat} (a : Pt s0 b n) (m : Nat) (h : ¬ (feedS a.s ((b.drop a.p).take m)).2.2 = 0) :
    (feedS s0 b).2.2 = (feedS a.s ((b.drop a.p).take m)).2.2 ∧ (feedS s0 b).2.1 = [] ∧ (feedS a.s ((b.drop a.p).take m)).2.1 = [] := by
  obtain ⟨e1, -⟩ := a.e ((b.drop a.p).take m ++ (b.drop a.p).drop m)
  rw [List.take_append_drop, List.take_append_drop] at e1
  have e2 := (feedS_app a.lv ((b.drop a.p).take m) ((b.drop a.p).drop m)).2 h
  rw [List.take_append_drop] at e2
  have e3 : ¬ (feedS s0 b).2.2 = 0 := by rw [e1, e2]; exact h
  refine ⟨by rw [e1, e2], by rw [feedS_err h0 e3]; rfl, by rw [feedS_err a.lv h]; rfl⟩
theorem Pt.all {s0 : Sb} {b : List UInt8} {n : Nat} (a : Pt s0 b n) (h : a.p = b.length) : feedS s0 b = (a.s.own, a.L, 0) := by
  have e := (a.e []).2 (by rw [feedS_nil a.lv a.hw])
  rw [h, List.take_length, List.append_nil, feedS_nil a.lv a.hw, List.append_nil] at e
  exact e

end Go.Proofs.Sh

/- TopBack. -/
set_option maxRecDepth 100000
set_option linter.unusedSimpArgs false
set_option linter.unusedVariables false
namespace Go.Proofs.Sh
open Go.Pv

theorem share {G R : Prop} (h : R → G) (r : R) : G := h r
theorem wkC_slt (β τ : List (Nat × Nat)) (em : List Nat) (q : PV) (sz : Nat) (es : List PV) (k' : Nat) : wkC β τ em q (.slt sz es k') = (match q with | .slt sz' es' k => sz' = sz ∧ es' = es ∧ lko τ k' = some k | .nilsl => es = [] ∧ k' ∈ em | _ => False) := rfl
theorem ask_mm (s : Sb) (x : Rq) : (asked s [x]).mm = if (replyOf x.C).isSome = true then msetI s.mm (s.n + 1) x.C else s.mm := by
  show (addR (s.n, s.q, s.mm) x).2.2 = _
  unfold addR
  simp only
  split <;> rfl
/-- The event behind the no-ops. -/
def noX (k : Int) : Ot := ⟨2, 12, k, [1], [], []⟩
theorem evX_ok {o : Int} (ho : o = 0 ∨ o = 1) : (tellS o (noX 60000)).2 = 0 ∧ (tellS o (noX 60000)).1.length ≤ 100 := by
  rcases ho with rfl | rfl <;> exact ⟨by kernel_rfl, by decide +kernel⟩
theorem skip_feed (s : Sb) (h : s.Live) (ho : s.o = 0 ∨ s.o = 1) (hc : s.came = []) (hq : s.q = []) (hl : s.l = 0) (hn : 60000 ≤ s.n) : feedS s (tellS s.o (noX 60000)).1 = ({ s.own with l := 60000, came := [] }, [noX 60000], 0) := by
  have e : cat s.o [noX 60000] = (tellS s.o (noX 60000)).1 := by simp [cat]
  have hs : Steps s.own [noX 60000] { s.own with l := 60000 } := ev_step (T := s.own) (b := 59999) (x := sd0) (X := []) (m := noX 60000) (.inr (by exact hq)) hn (by show (0 : Int) ≤ s.l; omega) (by show s.l ≤ _; omega) (by show _ < s.l + _; omega) (by omega) rfl rfl
  have h0 := hs []
  rw [List.append_nil, play] at h0
  rw [← e, feed_cat h hc _ (fun m hm => by obtain rfl := List.mem_singleton.1 hm; exact (evX_ok ho).1), h0, if_pos rfl]
  rfl
theorem wf_len : ∀ (X : List Sd) (b : Nat), (wf b X).length ≤ X.length
  | [], b => Nat.le_refl _
  | x :: X, b => by
    have := wf_len X (b + 1)
    rw [wf]
    split <;> simp only [List.length_cons] <;> omega
structure Tb (X : List Sd) where
  i : Nat
  sk : Nat
  b : Nat
  s : Sb
  hi : i ≤ X.length
  hb : b = 1000 * sk
  hsk : sk ≤ 100
  ho : s.o = 0 ∨ s.o = 1
  hc : s.c = 1
  hd : s.d = false
  hm : s.came = []
  hn : s.n = ((b + i : Nat) : Int)
  hq : s.q = wf b (X.take i)
  hmm : ∀ (j : Nat) (y : Sd), (X.take i)[j]? = some y → rep y = true → mgetI s.mm ((b + j + 1 : Nat) : Int) 0 = (bq y).C
  l0 : 0 ≤ s.l
  l1 : s.l ≤ (b : Int) + 1
  l2 : ((b + X.length : Nat) : Int) < s.l + 65536
  hu : s.out.length ≤ 4 + 24 * i
def Tb.st (Cu : List Nat) {X : List Sd} (a : Tb X) : PS := { n := 235, env := [(106, .int .i64 a.i), (105, .int .i64 X.length), (104, .sl 5 (sdL X)), (20, .nilsl), (19, .slt 6 (oL (saidL zz a.b (X.take a.i))) 50), (12, .int .i64 a.sk), (10, .box 0 0), (9, .int .i64 a.s.o), (2, .sl 1 (u8L Cu)), (1, .sl 5 (sdL X))], objs := [(0, some (a.s.cs (.sl 1 (ints a.s.q)) a.s.mpv))], live := [(50, true)], nxt := 60 }
structure Tc (M : List Ot) where
  j : Nat
  h : j ≤ M.length
def Tc.st (Cu : List Nat) (X : List Sd) (s : Sb) (sk : Nat) {M : List Ot} (a : Tc M) : PS := { n := 235, env := [(150, .int .i64 a.j), (149, .int .i64 M.length), (148, .sl 6 (oL M)), (25, .str (cat s.o (M.take a.j))), (20, .nilsl), (19, .sl 6 (oL M)), (12, .int .i64 sk), (10, .box 0 0), (9, .int .i64 s.o), (2, .sl 1 (u8L Cu)), (1, .sl 5 (sdL X))], objs := [(0, some (s.cs (.sl 1 (ints s.q)) s.mpv))], live := [], nxt := 60 }
def Pt.bst (b : List UInt8) (Cu : List Nat) (X : List Sd) (M : List Ot) (sk : Nat) {s0 : Sb} {n : Nat} (a : Pt s0 b n) : PS := { n := 235, env := [(172, .int .i64 a.i), (171, .int .i64 n), (170, .sl 1 (u8L (Cu ++ [255]))), (25, .str (b.drop a.p)), (20, .slt 6 (oL a.L) 50), (19, .sl 6 (oL M)), (12, .int .i64 sk), (10, .box 0 0), (2, .sl 1 (u8L Cu)), (1, .sl 5 (sdL X))], objs := [(0, some (a.s.cs (.sl 1 (ints a.s.q)) a.s.mpv))], live := [(50, true)], nxt := 60 }
set_option maxHeartbeats 16000000 in
theorem topBack_fs (big : Bool) (X : List Sd) (hN : ∀ x ∈ X, -32768 ≤ x.N ∧ x.N ≤ 32767) (hX : X.length ≤ 1000000000000000) (Cu : List Nat) (hC : ∀ c ∈ Cu, c < 256) (hCl : Cu.length ≤ 140737488351232) (th : Nat) (hth : th < 256) : Fsp Tryd.prog 10 [] 0 [.bool big, .sl 5 (sdL X), .sl 1 (u8L Cu), .int .u8 th] [] 0 (.bool true) := by
  cases k1 : decide ((12 : Int) < (X.length : Int))
  · have hX12 : X.length ≤ 12 := by simp at k1; omega
    cases k2 : decide ((40 : Int) < (Cu.length : Int))
    · have hC40 : Cu.length ≤ 40 := by simp at k2; omega
      (refine Fsp.of (nx := 0) mixed Tryd.func10 rfl (by decide) (by first | exact Nat.le_refl _ | simp) (by simp [Tryd.f10]) ⟨by decide, by decide⟩ ?_; simp -implicitDefEqProofs only [push_cast, Tryd.f10, sdL_length, u8L_length, k1, k2, seval])
      refine callE_pure backAwake_fs (by rfl) (by rfl) (by rfl) (by decide) (by rfl) (fun _ => by rfl) (by first | rfl | simp [gdOk, newToks]) ?_
      simp -implicitDefEqProofs only [push_cast, k1, k2, sdL_length, u8L_length, seval]
      apply share (R := ∀ a : Tb X, VC Tryd.prog 0 _ (loopK 0 (Tb.st Cu) (fun a : Tb X => X.length - a.i) a _) (Tb.st Cu a))
      · intro R
        have hbd : ∀ o : Int, (o = 0 ∨ o = 1) → newS o 1 = (({ sb0 with o := o, c := 1, out := bgn o } : Sb), 0) ∧ (bgn o).length ≤ 4 := by
          rintro o (rfl | rfl) <;> exact ⟨by rfl, by decide⟩
        refine condC_split (fun g1 => ?_) (fun g1 => ?_)
        · simp -implicitDefEqProofs only [push_cast, seval]
          have hN1 := new_fs 1 1
          rw [newR, (hbd 1 (by decide)).1] at hN1
          have hbl := (hbd 1 (by decide)).2
          have hN := hN1
          simp only [Sb.pv, Sb.cs, Sb.mpv, sb0, ints, List.map] at hN
          generalize hB0 : bgn 1 = B0 at *
          refine callE_pure hN (by rfl) (by rfl) (by rfl) (by decide) (by rfl) (fun _ => by rfl) (by first | rfl | simp [gdOk, newToks]) ?_
          simp -implicitDefEqProofs only [push_cast, seval]
          cases k3 : decide ((250 : Int) < (th : Int))
          · simp -implicitDefEqProofs only [push_cast, k3, seval]
            refine loopC_of (Tb.st Cu) (fun a : Tb X => X.length - a.i) ⟨0, 0, 0, ({ sb0 with o := 1, c := 1, out := B0 } : Sb), Nat.zero_le _, rfl, by omega, by first | exact .inl rfl | exact .inr rfl, rfl, rfl, rfl, rfl, rfl, fun j y h => by simp at h, Int.le_refl 0, by show (0 : Int) ≤ ((0 : Nat) : Int) + 1; decide, by show _ < (0 : Int) + 65536; omega, by show B0.length ≤ _; omega⟩ ?_ R
            skip
            (simp only [Tb.st, Sb.cs, sb0, List.take_zero]; exact Wk.by _ _ _ [(0, 76)] [] [50] (by simp) (by simp [wkV, PV.el, PV.weak, PS.get, PS.obj, PS.lv, lkp_hit, lkp_miss, lkp_nil, lko, wkL, res1, oL, saidL, ints, Sb.mpv, wkC, sdL_length]) (by simp [PS.get, PS.obj, PS.lv, lkp_hit, lkp_miss, lkp_nil, lko, wkL, mpv_wkC, wkC_int, wkC_str, wkC_bool, wkC_sl, wkC_mpure, wkC_any, PV.weak, wkL, res1, oL, saidL, ints, Sb.mpv, wkC, sdL_length]) (by simp [PS.get, PS.obj, PS.lv, lkp_hit, lkp_miss, lkp_nil, lko]) (by rfl) (by rfl) (by simp [lko]) (by simp) (by simp) (by simp) (fun i hi => absurd hi (Nat.not_lt_zero i)))
          · have h250 : 250 < th := by simp at k3; omega
            obtain ⟨v, hv⟩ : ∃ v : Nat, v = th - 250 := ⟨_, rfl⟩
            have hv5 : v ≤ 5 ∧ 1 ≤ v := by omega
            have w1 : IntKind.u8.wrap ((th : Int) - 250) = (v : Int) := by rw [wrap_u8_id (by omega) (by omega)]; omega
            have w2 : IntKind.i64.wrap (v : Int) = (v : Int) := wrap_i64_id (by omega) (by omega)
            obtain ⟨t, htv⟩ : ∃ t : Nat, t = 65 + v := ⟨_, rfl⟩
            have w3 : IntKind.i64.wrap (65 + (v : Int)) = (t : Int) := by rw [wrap_i64_id (by omega) (by omega)]; omega
            have hsk := backSkip_fs ({ sb0 with o := 1, c := 1, out := B0 } : Sb) t (by omega) (by first | exact .inl rfl | exact .inr rfl) (by show ¬ (1 : Int) = 0; decide) (by show B0.length ≤ 4; omega) (by show ([] : List Int).length ≤ _; decide) (Int.le_refl 0) (by show (0 : Int) ≤ _; decide)
            obtain ⟨f1, f2, f3, f4, f5, f6, f7, f8, f9⟩ := skS_at ({ sb0 with o := 1, c := 1, out := B0 } : Sb) (by first | exact .inl rfl | exact .inr rfl) (by show ¬ (1 : Int) = 0; decide) (by show B0.length ≤ 4; omega) t
            simp only [Sb.cs, show ({ sb0 with o := 1, c := 1, out := B0 } : Sb).mpv = .nilm from rfl, sb0, ints, List.map, PV.weak] at hsk
            simp only [sb0] at f1 f2 f3 f4 f5 f6 f7 f8 f9
            generalize skS t _ = s1 at *
            have hlv : s1.Live := by unfold Sb.Live; rw [f4, f5]; rfl
            have hsf := skip_feed s1 hlv (by rw [f3]; decide) f7 f2 f6 (by rw [f1]; omega)
            obtain ⟨x1, x2⟩ := evX_ok (o := s1.o) (by rw [f3]; decide)
            have hpt := tellPut_fs s1.o (noX 60000) ⟨by simp [noX], by simp [noX], by simp [noX]⟩
            rw [tellR, x1] at hpt
            have hfe := feedM_fs s1 (tellS s1.o (noX 60000)).1 (by rw [f2]; simp) (by rw [f7, List.nil_append]; omega)
            rw [feedR, hsf] at hfe
            generalize (tellS s1.o (noX 60000)).1 = bb at *
            rw [f3] at hpt
            simp only [noX, Ot.pv, ints, List.map] at hpt
            have hpt := hpt.nils (qs := [.int .i64 1, .agg [.int .i64 2, .int .i64 12, .int .i64 60000, .sl 1 [.int .i64 1], .str [], .nilsl]]) ⟨nlV_same _, nlV_agg (by simp [nlCs, nlC]), trivial⟩
            have e1 : ({ s1.own with l := 60000, came := [] } : Sb).o = 1 := f3
            have e2 : ({ s1.own with l := 60000, came := [] } : Sb).c = 1 := f4
            have e3 : ({ s1.own with l := 60000, came := [] } : Sb).d = false := f5
            have e4 : ({ s1.own with l := 60000, came := [] } : Sb).n = 1000 * (t : Int) := f1.trans (Int.zero_add _)
            have e5 : ({ s1.own with l := 60000, came := [] } : Sb).l = 60000 := rfl
            have e6 : ({ s1.own with l := 60000, came := [] } : Sb).came = [] := rfl
            have e7 : ({ s1.own with l := 60000, came := [] } : Sb).q = [] := f2
            have e8 : ({ s1.own with l := 60000, came := [] } : Sb).out.length ≤ 4 := f9
            generalize ({ s1.own with l := 60000, came := [] } : Sb) = s2 at *
            simp only [Sb.pv, Sb.cs, oL, List.map, noX, Ot.pv, ints] at hfe hsk
            simp -implicitDefEqProofs only [push_cast, k3, w1, w2, w3, seval]
            (repeat (first | refine ⟨by omega, ?_⟩ | refine ⟨by (unfold drawOk; kernel_rfl), ?_⟩))
            refine callE_pure hsk (by rfl) (by rfl) (by first | rfl | (simp only [List.map_cons, List.map_nil, List.toList_toArray, PS.ev, PS.get, lkp_hit, lkp_miss, lkp_nil, PV.un, PV.el, mpv_weak]; rfl)) (by decide) (by first | rfl | (simp only [tokLt, tokLt2, List.all_cons, List.all_nil, mpv_tok1]; rfl)) (fun _ => by rfl) (by first | rfl | simp [gdOk, newToks]) ?_
            simp -implicitDefEqProofs only [push_cast, mpv_weak, mpv_back1, mpv_tok1, mpv_cells, mpv_one, mpv_un, mpv_cnd, seval]
            skip
            refine callE_pure hpt (by rfl) (by rfl) (by rfl) (by decide) (by rfl) (fun _ => by rfl) (by first | rfl | simp [gdOk, newToks]) ?_
            simp -implicitDefEqProofs only [push_cast, mpv_weak, mpv_back1, mpv_tok1, mpv_cells, mpv_one, mpv_un, mpv_cnd, seval]
            refine callE_pure hfe (by rfl) (by rfl) (by first | rfl | (simp only [List.map_cons, List.map_nil, List.toList_toArray, PS.ev, PS.get, lkp_hit, lkp_miss, lkp_nil, PV.un, PV.el, mpv_weak]; rfl)) (by decide) (by first | rfl | (simp only [tokLt, tokLt2, List.all_cons, List.all_nil, mpv_tok1]; rfl)) (fun _ => by rfl) (by first | rfl | simp [gdOk, newToks]) ?_
            simp -implicitDefEqProofs only [push_cast, mpv_weak, mpv_back1, mpv_tok1, mpv_cells, mpv_one, mpv_un, mpv_cnd, seval]
            refine loopC_of (Tb.st Cu) (fun a : Tb X => X.length - a.i) ⟨0, t, 1000 * t, s2, Nat.zero_le _, rfl, by omega, by rw [e1]; decide, e2, e3, e6, by rw [e4]; omega, e7, fun j y h => by simp at h, by rw [e5]; decide, by rw [e5]; omega, by rw [e5]; omega, by omega⟩ ?_ R
            skip
            (simp only [Tb.st, Sb.cs, List.take_zero]; exact Wk.by _ _ _ [(0, 76)] [] [50] (by simp) (by simp [wkV, PV.el, PV.weak, PS.get, PS.obj, PS.lv, lkp_hit, lkp_miss, lkp_nil, lko, wkL, res1, oL, saidL, ints, sdL_length, wkC_slt, wkC_nilsl, e1]) (by simp [PS.get, PS.obj, PS.lv, lkp_hit, lkp_miss, lkp_nil, lko, wkL, mpv_wkC, wkC_int, wkC_str, wkC_bool, wkC_sl, wkC_mpure, wkC_any, PV.weak, wkL, res1, oL, saidL, ints, sdL_length, wkC_slt, wkC_nilsl, e1]) (by simp [PS.get, PS.obj, PS.lv, lkp_hit, lkp_miss, lkp_nil, lko]) (by rfl) (by rfl) (by simp [lko]) (by simp) (by simp) (by simp) (fun i hi => absurd hi (Nat.not_lt_zero i)))
        · simp -implicitDefEqProofs only [push_cast, seval]
          have hN1 := new_fs 0 1
          rw [newR, (hbd 0 (by decide)).1] at hN1
          have hbl := (hbd 0 (by decide)).2
          have hN := hN1
          simp only [Sb.pv, Sb.cs, Sb.mpv, sb0, ints, List.map] at hN
          generalize hB0 : bgn 0 = B0 at *
          refine callE_pure hN (by rfl) (by rfl) (by rfl) (by decide) (by rfl) (fun _ => by rfl) (by first | rfl | simp [gdOk, newToks]) ?_
          simp -implicitDefEqProofs only [push_cast, seval]
          cases k3 : decide ((250 : Int) < (th : Int))
          · simp -implicitDefEqProofs only [push_cast, k3, seval]
            refine loopC_of (Tb.st Cu) (fun a : Tb X => X.length - a.i) ⟨0, 0, 0, ({ sb0 with o := 0, c := 1, out := B0 } : Sb), Nat.zero_le _, rfl, by omega, by first | exact .inl rfl | exact .inr rfl, rfl, rfl, rfl, rfl, rfl, fun j y h => by simp at h, Int.le_refl 0, by show (0 : Int) ≤ ((0 : Nat) : Int) + 1; decide, by show _ < (0 : Int) + 65536; omega, by show B0.length ≤ _; omega⟩ ?_ R
            skip
            (simp only [Tb.st, Sb.cs, sb0, List.take_zero]; exact Wk.by _ _ _ [(0, 72)] [] [50] (by simp) (by simp [wkV, PV.el, PV.weak, PS.get, PS.obj, PS.lv, lkp_hit, lkp_miss, lkp_nil, lko, wkL, res1, oL, saidL, ints, Sb.mpv, wkC, sdL_length]) (by simp [PS.get, PS.obj, PS.lv, lkp_hit, lkp_miss, lkp_nil, lko, wkL, mpv_wkC, wkC_int, wkC_str, wkC_bool, wkC_sl, wkC_mpure, wkC_any, PV.weak, wkL, res1, oL, saidL, ints, Sb.mpv, wkC, sdL_length]) (by simp [PS.get, PS.obj, PS.lv, lkp_hit, lkp_miss, lkp_nil, lko]) (by rfl) (by rfl) (by simp [lko]) (by simp) (by simp) (by simp) (fun i hi => absurd hi (Nat.not_lt_zero i)))
          · have h250 : 250 < th := by simp at k3; omega
            obtain ⟨v, hv⟩ : ∃ v : Nat, v = th - 250 := ⟨_, rfl⟩
            have hv5 : v ≤ 5 ∧ 1 ≤ v := by omega
            have w1 : IntKind.u8.wrap ((th : Int) - 250) = (v : Int) := by rw [wrap_u8_id (by omega) (by omega)]; omega
            have w2 : IntKind.i64.wrap (v : Int) = (v : Int) := wrap_i64_id (by omega) (by omega)
            obtain ⟨t, htv⟩ : ∃ t : Nat, t = 65 + v := ⟨_, rfl⟩
            have w3 : IntKind.i64.wrap (65 + (v : Int)) = (t : Int) := by rw [wrap_i64_id (by omega) (by omega)]; omega
            have hsk := backSkip_fs ({ sb0 with o := 0, c := 1, out := B0 } : Sb) t (by omega) (by first | exact .inl rfl | exact .inr rfl) (by show ¬ (1 : Int) = 0; decide) (by show B0.length ≤ 4; omega) (by show ([] : List Int).length ≤ _; decide) (Int.le_refl 0) (by show (0 : Int) ≤ _; decide)
            obtain ⟨f1, f2, f3, f4, f5, f6, f7, f8, f9⟩ := skS_at ({ sb0 with o := 0, c := 1, out := B0 } : Sb) (by first | exact .inl rfl | exact .inr rfl) (by show ¬ (1 : Int) = 0; decide) (by show B0.length ≤ 4; omega) t
            simp only [Sb.cs, show ({ sb0 with o := 0, c := 1, out := B0 } : Sb).mpv = .nilm from rfl, sb0, ints, List.map, PV.weak] at hsk
            simp only [sb0] at f1 f2 f3 f4 f5 f6 f7 f8 f9
            generalize skS t _ = s1 at *
            have hlv : s1.Live := by unfold Sb.Live; rw [f4, f5]; rfl
            have hsf := skip_feed s1 hlv (by rw [f3]; decide) f7 f2 f6 (by rw [f1]; omega)
            obtain ⟨x1, x2⟩ := evX_ok (o := s1.o) (by rw [f3]; decide)
            have hpt := tellPut_fs s1.o (noX 60000) ⟨by simp [noX], by simp [noX], by simp [noX]⟩
            rw [tellR, x1] at hpt
            have hfe := feedM_fs s1 (tellS s1.o (noX 60000)).1 (by rw [f2]; simp) (by rw [f7, List.nil_append]; omega)
            rw [feedR, hsf] at hfe
            generalize (tellS s1.o (noX 60000)).1 = bb at *
            rw [f3] at hpt
            simp only [noX, Ot.pv, ints, List.map] at hpt
            have hpt := hpt.nils (qs := [.int .i64 0, .agg [.int .i64 2, .int .i64 12, .int .i64 60000, .sl 1 [.int .i64 1], .str [], .nilsl]]) ⟨nlV_same _, nlV_agg (by simp [nlCs, nlC]), trivial⟩
            have e1 : ({ s1.own with l := 60000, came := [] } : Sb).o = 0 := f3
            have e2 : ({ s1.own with l := 60000, came := [] } : Sb).c = 1 := f4
            have e3 : ({ s1.own with l := 60000, came := [] } : Sb).d = false := f5
            have e4 : ({ s1.own with l := 60000, came := [] } : Sb).n = 1000 * (t : Int) := f1.trans (Int.zero_add _)
            have e5 : ({ s1.own with l := 60000, came := [] } : Sb).l = 60000 := rfl
            have e6 : ({ s1.own with l := 60000, came := [] } : Sb).came = [] := rfl
            have e7 : ({ s1.own with l := 60000, came := [] } : Sb).q = [] := f2
            have e8 : ({ s1.own with l := 60000, came := [] } : Sb).out.length ≤ 4 := f9
            generalize ({ s1.own with l := 60000, came := [] } : Sb) = s2 at *
            simp only [Sb.pv, Sb.cs, oL, List.map, noX, Ot.pv, ints] at hfe hsk
            simp -implicitDefEqProofs only [push_cast, k3, w1, w2, w3, seval]
            (repeat (first | refine ⟨by omega, ?_⟩ | refine ⟨by (unfold drawOk; kernel_rfl), ?_⟩))
            refine callE_pure hsk (by rfl) (by rfl) (by first | rfl | (simp only [List.map_cons, List.map_nil, List.toList_toArray, PS.ev, PS.get, lkp_hit, lkp_miss, lkp_nil, PV.un, PV.el, mpv_weak]; rfl)) (by decide) (by first | rfl | (simp only [tokLt, tokLt2, List.all_cons, List.all_nil, mpv_tok1]; rfl)) (fun _ => by rfl) (by first | rfl | simp [gdOk, newToks]) ?_
            simp -implicitDefEqProofs only [push_cast, mpv_weak, mpv_back1, mpv_tok1, mpv_cells, mpv_one, mpv_un, mpv_cnd, seval]
            skip
            refine callE_pure hpt (by rfl) (by rfl) (by rfl) (by decide) (by rfl) (fun _ => by rfl) (by first | rfl | simp [gdOk, newToks]) ?_
            simp -implicitDefEqProofs only [push_cast, mpv_weak, mpv_back1, mpv_tok1, mpv_cells, mpv_one, mpv_un, mpv_cnd, seval]
            refine callE_pure hfe (by rfl) (by rfl) (by first | rfl | (simp only [List.map_cons, List.map_nil, List.toList_toArray, PS.ev, PS.get, lkp_hit, lkp_miss, lkp_nil, PV.un, PV.el, mpv_weak]; rfl)) (by decide) (by first | rfl | (simp only [tokLt, tokLt2, List.all_cons, List.all_nil, mpv_tok1]; rfl)) (fun _ => by rfl) (by first | rfl | simp [gdOk, newToks]) ?_
            simp -implicitDefEqProofs only [push_cast, mpv_weak, mpv_back1, mpv_tok1, mpv_cells, mpv_one, mpv_un, mpv_cnd, seval]
            refine loopC_of (Tb.st Cu) (fun a : Tb X => X.length - a.i) ⟨0, t, 1000 * t, s2, Nat.zero_le _, rfl, by omega, by rw [e1]; decide, e2, e3, e6, by rw [e4]; omega, e7, fun j y h => by simp at h, by rw [e5]; decide, by rw [e5]; omega, by rw [e5]; omega, by omega⟩ ?_ R
            skip
            (simp only [Tb.st, Sb.cs, List.take_zero]; exact Wk.by _ _ _ [(0, 72)] [] [50] (by simp) (by simp [wkV, PV.el, PV.weak, PS.get, PS.obj, PS.lv, lkp_hit, lkp_miss, lkp_nil, lko, wkL, res1, oL, saidL, ints, sdL_length, wkC_slt, wkC_nilsl, e1]) (by simp [PS.get, PS.obj, PS.lv, lkp_hit, lkp_miss, lkp_nil, lko, wkL, mpv_wkC, wkC_int, wkC_str, wkC_bool, wkC_sl, wkC_mpure, wkC_any, PV.weak, wkL, res1, oL, saidL, ints, sdL_length, wkC_slt, wkC_nilsl, e1]) (by simp [PS.get, PS.obj, PS.lv, lkp_hit, lkp_miss, lkp_nil, lko]) (by rfl) (by rfl) (by simp [lko]) (by simp) (by simp) (by simp) (fun i hi => absurd hi (Nat.not_lt_zero i)))
      · rintro ⟨i, sk, b, s, hi, hb, hsk, ho, hc, hd, hm, hn, hq, hmm, l0, l1, l2, hu⟩
        simp -implicitDefEqProofs only [push_cast, Tb.st, Sb.cs, sdL_length, seval]
        refine condC_split (fun g1 => ?_) (fun g1 => ?_)
        · have hlt : i < X.length := by simp at g1; omega
          have hg := sd_at hlt
          have hxN := hN _ (getD_mem sd0 hlt)
          have htk : X.take (i + 1) = X.take i ++ [X.getD i sd0] := by rw [List.take_add_one, List.getD_eq_getElem?_getD, List.getElem?_eq_getElem hlt]; rfl
          have hti : (X.take i).length = i := by rw [List.length_take]; omega
          generalize X.getD i sd0 = x at *
          have hsl := saidL_sn zz (X.take i) b x
          have hbr := backRequest_fs x
          have hak := askM_fs s [bq x] ⟨by rw [hq]; exact Nat.le_trans (wf_len _ _) (by rw [hti]; omega), by omega, by omega, by omega⟩ (by simp) (fun y hy => by obtain rfl := List.mem_singleton.1 hy; exact bq_few x)
          obtain ⟨r1, r2, r3, r4, r5, r6, r7, r8, r9, -⟩ := ask_one s x ho (by omega) (by omega)
          have r10 := ask_mm s (bq x)
          rw [askR, r1] at hak
          obtain ⟨y1, y2⟩ := rdy_sn (X := X.take i) (x := x) hq (by rw [hti]; exact hn) hmm r8 r10
          rw [← htk] at y1 y2 hsl
          rw [hti] at hsl
          have hok := said_ok ho (X.take i) b (by omega) (fun y hy => hN y (List.mem_of_mem_take hy))
          rw [hti] at hok
          have hok1 := hok.1
          obtain ⟨Q, hQ⟩ : ∃ Q : Int, Q = ((b + i + 1 : Nat) : Int) := ⟨_, rfl⟩
          have he1 := backEvents_fs x.A Q x.N x.hA hxN
          have he2 := backAnswer_fs x Q hxN
          have he3 := backEvents_fs x.B Q x.N x.hB hxN
          have ha1 := (ans_ok ho (Q := Q) (by omega) (by omega) x hxN).1
          have hE1 : (evs (x.A % 3) Q (zf x.N)).length ≤ 2 := by simp only [evs, List.length_map, List.length_range]; omega
          have hE3 : (evs (x.B % 3) Q (zf x.N)).length ≤ 2 := by simp only [evs, List.length_map, List.length_range]; omega
          rw [← hQ, said1, show zz x = zf x.N from rfl] at hsl
          clear hok
          generalize evs (x.A % 3) Q (zf x.N) = E1 at *
          generalize evs (x.B % 3) Q (zf x.N) = E3 at *
          generalize ans x Q = E2 at *
          generalize saidL zz b (X.take i) = L at *
          have hLL : L ++ (E1 ++ (E2 ++ E3)) = saidL zz b (X.take (i + 1)) := by rw [hsl, List.append_assoc]
          clear r8 r10
          generalize asked s [bq x] = s' at *
          have hbp : (bq x).pv = .agg [.int .i64 (bq x).C, .sl 1 (ints (bq x).N), .str (bq x).B, .sl 1 (ints (bq x).L)] := rfl
          simp only [rqL, List.map, hbp, Sb.pv, Sb.cs] at hak hbr he2
          generalize (bq x).C = xC at *
          generalize (bq x).N = xN at *
          generalize (bq x).B = xB at *
          generalize (bq x).L = xL at *
          simp only [Sd.pv] at hg hbr he2
          have w1 : IntKind.i64.wrap (1000 * (sk : Int)) = (b : Int) := by rw [wrap_i64_id (by omega) (by omega)]; omega
          have w2 : IntKind.i64.wrap ((b : Int) + (i : Int)) = (b : Int) + (i : Int) := wrap_i64_id (by omega) (by omega)
          have w3 : IntKind.i64.wrap ((b : Int) + (i : Int) + 1) = Q := by rw [wrap_i64_id (by omega) (by omega)]; omega
          have wi : IntKind.i64.wrap ((i : Int) + 1) = (i : Int) + 1 := wrap_i64_id (by omega) (by omega)
          simp -implicitDefEqProofs only [push_cast, hg, sdL_length, seval]
          (repeat (first | refine ⟨by omega, ?_⟩ | refine ⟨by (unfold drawOk; kernel_rfl), ?_⟩))
          refine callE_pure hbr (by rfl) (by rfl) (by rfl) (by decide) (by rfl) (fun _ => by rfl) (by first | rfl | simp [gdOk, newToks]) ?_
          simp -implicitDefEqProofs only [push_cast, seval]
          refine callE_pure hak (by rfl) (by rfl) (by first | rfl | (simp only [List.map_cons, List.map_nil, List.toList_toArray, PS.ev, PS.get, lkp_hit, lkp_miss, lkp_nil, PV.un, PV.el, mpv_weak]; rfl)) (by decide) (by first | rfl | (simp only [tokLt, tokLt2, List.all_cons, List.all_nil, mpv_tok1]; rfl)) (fun _ => by rfl) (by first | rfl | simp [gdOk, newToks]) ?_
          simp -implicitDefEqProofs only [push_cast, w1, w2, w3, mpv_weak, mpv_back1, mpv_tok1, mpv_cells, mpv_one, mpv_un, mpv_cnd, seval]
          (repeat (first | refine ⟨by omega, ?_⟩ | refine ⟨by (unfold drawOk; kernel_rfl), ?_⟩))
          refine callE_pure he1 (by rfl) (by rfl) (by rfl) (by decide) (by rfl) (fun _ => by rfl) (by first | rfl | simp [gdOk, newToks]) ?_
          simp -implicitDefEqProofs only [push_cast, oL_length, oL_app, List.length_append, mpv_weak, mpv_back1, mpv_tok1, mpv_cells, mpv_one, mpv_un, mpv_cnd, seval]
          (repeat (first | refine ⟨by omega, ?_⟩ | refine ⟨by (unfold drawOk; kernel_rfl), ?_⟩))
          refine callE_pure he2 (by rfl) (by rfl) (by rfl) (by decide) (by rfl) (fun _ => by rfl) (by first | rfl | simp [gdOk, newToks]) ?_
          simp -implicitDefEqProofs only [push_cast, oL_length, oL_app, List.length_append, mpv_weak, mpv_back1, mpv_tok1, mpv_cells, mpv_one, mpv_un, mpv_cnd, seval]
          (repeat (first | refine ⟨by omega, ?_⟩ | refine ⟨by (unfold drawOk; kernel_rfl), ?_⟩))
          refine callE_pure he3 (by rfl) (by rfl) (by rfl) (by decide) (by rfl) (fun _ => by rfl) (by first | rfl | simp [gdOk, newToks]) ?_
          simp -implicitDefEqProofs only [push_cast, oL_length, oL_app, List.length_append, wi, mpv_weak, mpv_back1, mpv_tok1, mpv_cells, mpv_one, mpv_un, mpv_cnd, seval]
          (repeat (first | refine ⟨by omega, ?_⟩ | refine ⟨by (unfold drawOk; kernel_rfl), ?_⟩))
          refine ⟨⟨i + 1, sk, b, s', hlt, hb, hsk, by rw [r4]; exact ho, r2.trans hc, r3.trans hd, r6.trans hm, by rw [r7, hn]; omega, y1, y2, by rw [r5]; exact l0, by rw [r5]; exact l1, by rw [r5]; exact l2, by omega⟩, Nat.sub_lt_sub_left hlt (Nat.lt_succ_self _), ?_⟩
          (simp only [Tb.st, Sb.cs, hLL, r4]; exact Wk.by _ _ _ [(0, 0)] [(50, 248)] [] (by simp) (by simp [wkV, PV.el, PV.weak, PS.get, PS.obj, PS.lv, lkp_hit, lkp_miss, lkp_nil, lko, wkL, res1, wkC_slt, wkC_nilsl]) (by simp [PS.get, PS.obj, PS.lv, lkp_hit, lkp_miss, lkp_nil, lko, wkL, mpv_wkC, wkC_int, wkC_str, wkC_bool, wkC_sl, wkC_mpure, wkC_any, PV.weak, wkL, res1, wkC_slt, wkC_nilsl]) (by simp [PS.get, PS.obj, PS.lv, lkp_hit, lkp_miss, lkp_nil, lko]) (by rfl) (by rfl) (by simp [lko]) (by simp) (by simp) (by simp) (fun i hi => absurd hi (Nat.not_lt_zero i)))
        · have hie : i = X.length := by simp at g1; omega
          subst hie
          have hq' := hq
          have hmm' := hmm
          rw [List.take_length] at hq' hmm'
          have htX : saidL zz b (X.take X.length) = saidL zz b X := by rw [List.take_length]
          have hrd : Rdy s b X := ⟨hq', by rw [hn]; exact Int.le_refl _, l0, l1, l2, by omega, hmm'⟩
          have hlv : s.Live := by unfold Sb.Live; rw [hc, hd]; rfl
          obtain ⟨hML, hMo⟩ := said_ok ho X b (by omega) hN
          obtain ⟨T, hfs, -, -⟩ := feed_said zz hlv hm hrd (fun m hm => (hMo m hm).1)
          have hcl := cat_len (o := s.o) _ (fun m hm => (hMo m hm).1)
          have hql : s.q.length ≤ 1000000 := by rw [hq']; exact Nat.le_trans (wf_len _ _) (by omega)
          generalize saidL zz b X = M at *
          simp -implicitDefEqProofs only [push_cast, htX, oL_length, seval]
          refine loopC_of (α := Tc M) (Tc.st Cu X s sk) (fun a => M.length - a.j) ⟨0, Nat.zero_le _⟩ ?_ ?_
          · (simp only [Tc.st, Sb.cs, List.take_zero]; exact Wk.by _ _ _ [(0, 0)] [] [] (by simp) (by simp [wkV, PV.el, PV.weak, PS.get, PS.obj, PS.lv, lkp_hit, lkp_miss, lkp_nil, lko, wkL, res1, oL_length, cat, wkC_nilsl]) (by simp [PS.get, PS.obj, PS.lv, lkp_hit, lkp_miss, lkp_nil, lko, wkL, mpv_wkC, wkC_int, wkC_str, wkC_bool, wkC_sl, wkC_mpure, wkC_any, PV.weak, wkL, res1, oL_length, cat, wkC_nilsl]) (by simp [PS.get, PS.obj, PS.lv, lkp_hit, lkp_miss, lkp_nil, lko]) (by rfl) (by rfl) (by simp [lko]) (by simp) (by simp) (by simp) (fun i hi => absurd hi (Nat.not_lt_zero i)))
          · rintro ⟨j, hj⟩
            simp -implicitDefEqProofs only [push_cast, Tc.st, Sb.cs, oL_length, seval]
            refine condC_split (fun g2 => ?_) (fun g2 => ?_)
            · have hlt2 : j < M.length := by simp at g2; omega
              have hg2 := ot_at hlt2
              have hmy := hMo _ (getD_mem ot0' hlt2)
              have htk2 : M.take (j + 1) = M.take j ++ [M.getD j ot0'] := by rw [List.take_add_one, List.getD_eq_getElem?_getD, List.getElem?_eq_getElem hlt2]; rfl
              have hcs : cat s.o (M.take (j + 1)) = cat s.o (M.take j) ++ (tellS s.o (M.getD j ot0')).1 := by rw [htk2, cat_sn]
              have hc1 := cat_len (o := s.o) (M.take (j + 1)) (fun m hm => (hMo m (List.mem_of_mem_take hm)).1)
              rw [List.length_take, hcs, List.length_append] at hc1
              generalize M.getD j ot0' = y at *
              have hpt := tellPut_fs s.o y hmy.2.few
              rw [tellR, hmy.1] at hpt
              generalize (tellS s.o y).1 = bb at *
              have wj : IntKind.i64.wrap ((j : Int) + 1) = (j : Int) + 1 := wrap_i64_id (by omega) (by omega)
              obtain ⟨yK, yC, yQ, yN, yB, yL⟩ := y
              simp only [Ot.pv] at hpt hg2
              simp -implicitDefEqProofs only [push_cast, hg2, oL_length, seval]
              (repeat (first | refine ⟨by omega, ?_⟩ | refine ⟨by (unfold drawOk; kernel_rfl), ?_⟩))
              refine callE_pure hpt (by rfl) (by rfl) (by rfl) (by decide) (by rfl) (fun _ => by rfl) (by first | rfl | simp [gdOk, newToks]) ?_
              simp -implicitDefEqProofs only [push_cast, wj, seval]
              (repeat (first | refine ⟨by omega, ?_⟩ | refine ⟨by (unfold drawOk; kernel_rfl), ?_⟩))
              skip
              refine ⟨⟨j + 1, hlt2⟩, Nat.sub_lt_sub_left hlt2 (Nat.lt_succ_self _), ?_⟩
              (simp only [Tc.st, Sb.cs, hcs]; exact Wk.by _ _ _ [(0, 0)] [] [] (by simp) (by simp [wkV, PV.el, PV.weak, PS.get, PS.obj, PS.lv, lkp_hit, lkp_miss, lkp_nil, lko, wkL, res1, wkC_nilsl]) (by simp [PS.get, PS.obj, PS.lv, lkp_hit, lkp_miss, lkp_nil, lko, wkL, mpv_wkC, wkC_int, wkC_str, wkC_bool, wkC_sl, wkC_mpure, wkC_any, PV.weak, wkL, res1, wkC_nilsl]) (by simp [PS.get, PS.obj, PS.lv, lkp_hit, lkp_miss, lkp_nil, lko]) (by rfl) (by rfl) (by simp [lko]) (by simp) (by simp) (by simp) (fun i hi => absurd hi (Nat.not_lt_zero i)))
            · have hje : j = M.length := by simp at g2; omega
              subst hje
              obtain ⟨B, hB⟩ : ∃ B, B = cat s.o M := ⟨_, rfl⟩
              have htl : cat s.o (M.take M.length) = B := by rw [List.take_length, hB]
              rw [← hB] at hfs hcl
              have hsl : (Cu ++ [255]).length = Cu.length + 1 := by simp
              simp -implicitDefEqProofs only [push_cast, htl, u8L_length, seval]
              refine callE_bs ?_
              simp -implicitDefEqProofs only [push_cast, seval]
              refine ⟨by rw [u8L_length]; omega, by rw [u8L_length]; omega, by rw [u8L_length]; omega, by rw [u8L_length]; omega, ?_⟩
              skip
              refine loopC_of (α := Pt s B (Cu.length + 1)) (Pt.bst B Cu X M sk) (fun a => Cu.length + 1 - a.i) ⟨0, 0, s, [], by omega, by omega, hlv, rfl, by rw [hm]; rfl, hql, by rw [hm]; simp, fun t => by simp only [List.take_zero, List.nil_append]; exact ⟨trivial, fun h => by rw [← h]⟩⟩ ?_ ?_
              · (simp only [Pt.bst, Sb.cs, List.drop_zero]; exact Wk.by _ _ _ [(0, 0)] [] [50] (by simp) (by simp [wkV, PV.el, PV.weak, PS.get, PS.obj, PS.lv, lkp_hit, lkp_miss, lkp_nil, lko, wkL, res1, oL, u8L, wkC_slt, wkC_nilsl]) (by simp [PS.get, PS.obj, PS.lv, lkp_hit, lkp_miss, lkp_nil, lko, wkL, mpv_wkC, wkC_int, wkC_str, wkC_bool, wkC_sl, wkC_mpure, wkC_any, PV.weak, wkL, res1, oL, u8L, wkC_slt, wkC_nilsl]) (by simp [PS.get, PS.obj, PS.lv, lkp_hit, lkp_miss, lkp_nil, lko]) (by rfl) (by rfl) (by simp [lko]) (by simp) (by simp) (by simp) (fun i hi => absurd hi (Nat.not_lt_zero i)))
              · rintro ⟨i, p, s', L, hi3, hp, lv, hsn, hw3, hq3, hcL, e⟩
                simp -implicitDefEqProofs only [push_cast, Pt.bst, Sb.cs, u8L_length, hsl, seval]
                refine condC_split (fun g3 => ?_) (fun g3 => ?_)
                · have hlt3 : i < Cu.length + 1 := by simp at g3; omega
                  have hg := u8L_at (l := Cu ++ [255]) (i := i) (by rw [hsl]; exact hlt3)
                  have hc8 : (Cu ++ [255]).getD i 0 < 256 := by
                    have : (Cu ++ [255]).getD i 0 ∈ Cu ++ [255] := by
                      rw [List.getD_eq_getElem?_getD, List.getElem?_eq_getElem (by rw [hsl]; exact hlt3)]; exact List.getElem_mem _
                    rcases List.mem_append.1 this with h | h
                    · exact hC _ h
                    · rw [List.mem_singleton.1 h]; decide
                  generalize (Cu ++ [255]).getD i 0 = c at *
                  have b1 : IntKind.i64.wrap (c : Int) = (c : Int) := wrap_i64_id (by omega) (by omega)
                  have hdl : (List.drop p B).length = B.length - p := List.length_drop
                  obtain ⟨zm, hzm⟩ : ∃ zm : Nat, zm = min c (B.length - p) := ⟨_, rfl⟩
                  have hmin : (if ((B.length - p : Nat) : Int) < (c : Int) then ((B.length - p : Nat) : Int) else (c : Int)) = (zm : Int) := by split <;> omega
                  cases k5 : decide ((0 : Int) < (Cu.length : Int))
                  · simp -implicitDefEqProofs only [push_cast, hg, u8L_length, hsl, b1, hdl, hmin, k5, seval]
                    (repeat (first | refine ⟨by omega, ?_⟩ | refine ⟨by (unfold drawOk; kernel_rfl), ?_⟩))
                    skip
                    have hz : zm ≤ B.length - p := by omega
                    generalize zm = z at *
                    have wi : IntKind.i64.wrap ((i : Int) + 1) = (i : Int) + 1 := wrap_i64_id (by omega) (by omega)
                    have hzl : (List.take z (List.drop p B)).length = z := by rw [List.length_take, List.length_drop]; omega
                    have hfr := feedM_fs s' (List.take z (List.drop p B)) hq3 (by rw [List.length_append, hzl]; omega)
                    rw [feedR] at hfr
                    have hst := Pt.step ⟨i, p, s', L, hi3, hp, lv, hsn, hw3, hq3, hcL, e⟩ z (i + 1) hlt3 hz
                    have hbd := Pt.bad hlv ⟨i, p, s', L, hi3, hp, lv, hsn, hw3, hq3, hcL, e⟩ z
                    simp only at hst hbd
                    have hok := fun h => feedS_ok lv (b := List.take z (List.drop p B)) h
                    generalize feedS s' (List.take z (List.drop p B)) = R at *
                    obtain ⟨s2, M2, er⟩ := R
                    simp only [Sb.pv, Sb.cs] at hfr hst hbd hok
                    have he0 : er = 0 := by
                      by_cases h : er = 0
                      · exact h
                      · have := (hbd h).1
                        rw [hfs] at this
                        exact absurd this.symm h
                    subst he0
                    obtain ⟨a', j1, j2, j3, j4⟩ := hst rfl
                    obtain ⟨o1, o2, o3, -⟩ := hok rfl
                    clear hst hbd hok
                    have hML2 : L.length + M2.length ≤ 1000000 := by omega
                    have hdd : List.drop z (List.drop p B) = List.drop (p + z) B := List.drop_drop ..
                    have htd : List.take (B.length - p - z) (List.drop (p + z) B) = List.drop (p + z) B := List.take_of_length_le (by rw [List.length_drop]; omega)
                    (repeat (first | refine ⟨(by omega : _ ≤ _), ?_⟩ | refine ⟨(by omega : _ < _), ?_⟩ | refine ⟨by (unfold drawOk; kernel_rfl), ?_⟩))
                    refine callE_pure hfr (by rfl) (by rfl) (by first | rfl | (simp only [List.map_cons, List.map_nil, List.toList_toArray, PS.ev, PS.get, lkp_hit, lkp_miss, lkp_nil, PV.un, PV.el, mpv_weak]; rfl)) (by decide) (by first | rfl | (simp only [tokLt, tokLt2, List.all_cons, List.all_nil, mpv_tok1]; rfl)) (fun _ => by rfl) (by first | rfl | simp [gdOk, newToks]) ?_
                    simp -implicitDefEqProofs only [push_cast, wi, oL_length, oL_app, mpv_weak, mpv_back1, mpv_tok1, mpv_cells, mpv_one, mpv_un, mpv_cnd, seval]
                    skip
                    (repeat (first | refine ⟨(by omega : _ ≤ _), ?_⟩ | refine ⟨(by omega : _ < _), ?_⟩ | refine ⟨by (unfold drawOk; kernel_rfl), ?_⟩))
                    refine ⟨a', by rw [j1]; omega, ?_⟩
                    (simp only [Pt.bst, Sb.cs, j1, j2, j3, j4, hdd]; exact Wk.by _ _ _ [(0, 0)] [(50, 200)] [] (by simp) (by simp [wkV, PV.el, PV.weak, PS.get, PS.obj, PS.lv, lkp_hit, lkp_miss, lkp_nil, lko, wkL, res1, wkC_slt, wkC_nilsl, htd]) (by simp [PS.get, PS.obj, PS.lv, lkp_hit, lkp_miss, lkp_nil, lko, wkL, mpv_wkC, wkC_int, wkC_str, wkC_bool, wkC_sl, wkC_mpure, wkC_any, PV.weak, wkL, res1, wkC_slt, wkC_nilsl, htd]) (by simp [PS.get, PS.obj, PS.lv, lkp_hit, lkp_miss, lkp_nil, lko]) (by rfl) (by rfl) (by simp [lko]) (by simp) (by simp) (by simp) (fun i hi => absurd hi (Nat.not_lt_zero i)))
                  · simp -implicitDefEqProofs only [push_cast, hg, u8L_length, hsl, b1, hdl, hmin, k5, seval]
                    (repeat (first | refine ⟨(by omega : _ ≤ _), ?_⟩ | refine ⟨(by omega : _ < _), ?_⟩ | refine ⟨by (unfold drawOk; kernel_rfl), ?_⟩))
                    skip
                    refine condC_split (fun g4 => ?_) (fun g4 => ?_)
                    · have hz : B.length - p ≤ B.length - p := Nat.le_refl _
                      generalize hzz : B.length - p = z at *
                      replace hz : z ≤ B.length - p := by omega
                      simp -implicitDefEqProofs only [push_cast, hdl, seval]
                      have wi : IntKind.i64.wrap ((i : Int) + 1) = (i : Int) + 1 := wrap_i64_id (by omega) (by omega)
                      have hzl : (List.take z (List.drop p B)).length = z := by rw [List.length_take, List.length_drop]; omega
                      have hfr := feedM_fs s' (List.take z (List.drop p B)) hq3 (by rw [List.length_append, hzl]; omega)
                      rw [feedR] at hfr
                      have hst := Pt.step ⟨i, p, s', L, hi3, hp, lv, hsn, hw3, hq3, hcL, e⟩ z (i + 1) hlt3 hz
                      have hbd := Pt.bad hlv ⟨i, p, s', L, hi3, hp, lv, hsn, hw3, hq3, hcL, e⟩ z
                      simp only at hst hbd
                      have hok := fun h => feedS_ok lv (b := List.take z (List.drop p B)) h
                      generalize feedS s' (List.take z (List.drop p B)) = R at *
                      obtain ⟨s2, M2, er⟩ := R
                      simp only [Sb.pv, Sb.cs] at hfr hst hbd hok
                      have he0 : er = 0 := by
                        by_cases h : er = 0
                        · exact h
                        · have := (hbd h).1
                          rw [hfs] at this
                          exact absurd this.symm h
                      subst he0
                      obtain ⟨a', j1, j2, j3, j4⟩ := hst rfl
                      obtain ⟨o1, o2, o3, -⟩ := hok rfl
                      clear hst hbd hok
                      have hML2 : L.length + M2.length ≤ 1000000 := by omega
                      have hdd : List.drop z (List.drop p B) = List.drop (p + z) B := List.drop_drop ..
                      have htd : List.take (B.length - p - z) (List.drop (p + z) B) = List.drop (p + z) B := List.take_of_length_le (by rw [List.length_drop]; omega)
                      (repeat (first | refine ⟨(by omega : _ ≤ _), ?_⟩ | refine ⟨(by omega : _ < _), ?_⟩ | refine ⟨by (unfold drawOk; kernel_rfl), ?_⟩))
                      refine callE_pure hfr (by rfl) (by rfl) (by first | rfl | (simp only [List.map_cons, List.map_nil, List.toList_toArray, PS.ev, PS.get, lkp_hit, lkp_miss, lkp_nil, PV.un, PV.el, mpv_weak]; rfl)) (by decide) (by first | rfl | (simp only [tokLt, tokLt2, List.all_cons, List.all_nil, mpv_tok1]; rfl)) (fun _ => by rfl) (by first | rfl | simp [gdOk, newToks]) ?_
                      simp -implicitDefEqProofs only [push_cast, wi, oL_length, oL_app, mpv_weak, mpv_back1, mpv_tok1, mpv_cells, mpv_one, mpv_un, mpv_cnd, seval]
                      skip
                      (repeat (first | refine ⟨(by omega : _ ≤ _), ?_⟩ | refine ⟨(by omega : _ < _), ?_⟩ | refine ⟨by (unfold drawOk; kernel_rfl), ?_⟩))
                      refine ⟨a', by rw [j1]; omega, ?_⟩
                      (simp only [Pt.bst, Sb.cs, j1, j2, j3, j4, hdd]; exact Wk.by _ _ _ [(0, 0)] [(50, 212)] [] (by simp) (by simp [wkV, PV.el, PV.weak, PS.get, PS.obj, PS.lv, lkp_hit, lkp_miss, lkp_nil, lko, wkL, res1, wkC_slt, wkC_nilsl, htd]) (by simp [PS.get, PS.obj, PS.lv, lkp_hit, lkp_miss, lkp_nil, lko, wkL, mpv_wkC, wkC_int, wkC_str, wkC_bool, wkC_sl, wkC_mpure, wkC_any, PV.weak, wkL, res1, wkC_slt, wkC_nilsl, htd]) (by simp [PS.get, PS.obj, PS.lv, lkp_hit, lkp_miss, lkp_nil, lko]) (by rfl) (by rfl) (by simp [lko]) (by simp) (by simp) (by simp) (fun i hi => absurd hi (Nat.not_lt_zero i)))
                    · have hz : zm ≤ B.length - p := by omega
                      generalize zm = z at *
                      simp -implicitDefEqProofs only [push_cast, seval]
                      have wi : IntKind.i64.wrap ((i : Int) + 1) = (i : Int) + 1 := wrap_i64_id (by omega) (by omega)
                      have hzl : (List.take z (List.drop p B)).length = z := by rw [List.length_take, List.length_drop]; omega
                      have hfr := feedM_fs s' (List.take z (List.drop p B)) hq3 (by rw [List.length_append, hzl]; omega)
                      rw [feedR] at hfr
                      have hst := Pt.step ⟨i, p, s', L, hi3, hp, lv, hsn, hw3, hq3, hcL, e⟩ z (i + 1) hlt3 hz
                      have hbd := Pt.bad hlv ⟨i, p, s', L, hi3, hp, lv, hsn, hw3, hq3, hcL, e⟩ z
                      simp only at hst hbd
                      have hok := fun h => feedS_ok lv (b := List.take z (List.drop p B)) h
                      generalize feedS s' (List.take z (List.drop p B)) = R at *
                      obtain ⟨s2, M2, er⟩ := R
                      simp only [Sb.pv, Sb.cs] at hfr hst hbd hok
                      have he0 : er = 0 := by
                        by_cases h : er = 0
                        · exact h
                        · have := (hbd h).1
                          rw [hfs] at this
                          exact absurd this.symm h
                      subst he0
                      obtain ⟨a', j1, j2, j3, j4⟩ := hst rfl
                      obtain ⟨o1, o2, o3, -⟩ := hok rfl
                      clear hst hbd hok
                      have hML2 : L.length + M2.length ≤ 1000000 := by omega
                      have hdd : List.drop z (List.drop p B) = List.drop (p + z) B := List.drop_drop ..
                      have htd : List.take (B.length - p - z) (List.drop (p + z) B) = List.drop (p + z) B := List.take_of_length_le (by rw [List.length_drop]; omega)
                      (repeat (first | refine ⟨(by omega : _ ≤ _), ?_⟩ | refine ⟨(by omega : _ < _), ?_⟩ | refine ⟨by (unfold drawOk; kernel_rfl), ?_⟩))
                      refine callE_pure hfr (by rfl) (by rfl) (by first | rfl | (simp only [List.map_cons, List.map_nil, List.toList_toArray, PS.ev, PS.get, lkp_hit, lkp_miss, lkp_nil, PV.un, PV.el, mpv_weak]; rfl)) (by decide) (by first | rfl | (simp only [tokLt, tokLt2, List.all_cons, List.all_nil, mpv_tok1]; rfl)) (fun _ => by rfl) (by first | rfl | simp [gdOk, newToks]) ?_
                      simp -implicitDefEqProofs only [push_cast, wi, oL_length, oL_app, mpv_weak, mpv_back1, mpv_tok1, mpv_cells, mpv_one, mpv_un, mpv_cnd, seval]
                      skip
                      (repeat (first | refine ⟨(by omega : _ ≤ _), ?_⟩ | refine ⟨(by omega : _ < _), ?_⟩ | refine ⟨by (unfold drawOk; kernel_rfl), ?_⟩))
                      refine ⟨a', by rw [j1]; omega, ?_⟩
                      (simp only [Pt.bst, Sb.cs, j1, j2, j3, j4, hdd]; exact Wk.by _ _ _ [(0, 0)] [(50, 200)] [] (by simp) (by simp [wkV, PV.el, PV.weak, PS.get, PS.obj, PS.lv, lkp_hit, lkp_miss, lkp_nil, lko, wkL, res1, wkC_slt, wkC_nilsl, htd]) (by simp [PS.get, PS.obj, PS.lv, lkp_hit, lkp_miss, lkp_nil, lko, wkL, mpv_wkC, wkC_int, wkC_str, wkC_bool, wkC_sl, wkC_mpure, wkC_any, PV.weak, wkL, res1, wkC_slt, wkC_nilsl, htd]) (by simp [PS.get, PS.obj, PS.lv, lkp_hit, lkp_miss, lkp_nil, lko]) (by rfl) (by rfl) (by simp [lko]) (by simp) (by simp) (by simp) (fun i hi => absurd hi (Nat.not_lt_zero i)))
                · have hie : i = Cu.length + 1 := by simp at g3; omega
                  subst hie
                  have hdl : (List.drop p B).length = B.length - p := List.length_drop
                  have hfr := feedM_fs s' (List.drop p B) hq3 (by rw [List.length_append, hdl]; omega)
                  rw [feedR] at hfr
                  obtain ⟨e1, e2⟩ := e (List.drop p B)
                  rw [List.take_append_drop, hfs] at e1
                  rw [List.take_append_drop, hfs] at e2
                  have hok := feedS_ok lv (b := List.drop p B) e1.symm
                  generalize feedS s' (List.drop p B) = R at *
                  obtain ⟨s2, M2, er⟩ := R
                  simp only at e1 e2 hfr hok
                  subst e1
                  have e3 := e2 rfl
                  simp only [Prod.mk.injEq] at e3
                  obtain ⟨-, e3, -⟩ := e3
                  simp only [Sb.pv, Sb.cs] at hfr
                  have hsa := backSame_fs M (by omega) (fun m hm => (hMo m hm).2)
                  have hse := sentM_fs s'
                  simp only [Sb.cs] at hse
                  have hML2 : L.length + M2.length ≤ 1000000 := by
                    have := congrArg List.length e3
                    rw [List.length_append] at this
                    omega
                  have w1 : IntKind.i64.wrap (1000 * (sk : Int)) = (b : Int) := by rw [wrap_i64_id (by omega) (by omega)]; omega
                  have w2 : IntKind.i64.wrap ((b : Int) + (X.length : Int)) = (b : Int) + (X.length : Int) := wrap_i64_id (by omega) (by omega)
                  have hsn2 : s'.n = (b : Int) + (X.length : Int) := by rw [hsn, hn]; omega
                  simp -implicitDefEqProofs only [push_cast, seval]
                  refine callE_pure hfr (by rfl) (by rfl) (by first | rfl | (simp only [List.map_cons, List.map_nil, List.toList_toArray, PS.ev, PS.get, lkp_hit, lkp_miss, lkp_nil, PV.un, PV.el, mpv_weak]; rfl)) (by decide) (by first | rfl | (simp only [tokLt, tokLt2, List.all_cons, List.all_nil, mpv_tok1]; rfl)) (fun _ => by rfl) (by first | rfl | simp [gdOk, newToks]) ?_
                  simp -implicitDefEqProofs only [push_cast, oL_length, oL_app, beq_self_eq_true, ←e3, mpv_weak, mpv_back1, mpv_tok1, mpv_cells, mpv_one, mpv_un, mpv_cnd, seval]
                  (repeat (first | refine ⟨by omega, ?_⟩ | refine ⟨by (unfold drawOk; kernel_rfl), ?_⟩))
                  skip
                  refine callE_pure hsa (by rfl) (by rfl) (by rfl) (by decide) (by rfl) (fun _ => by rfl) (by first | rfl | simp [gdOk, newToks]) ?_
                  simp -implicitDefEqProofs only [push_cast, mpv_weak, mpv_back1, mpv_tok1, mpv_cells, mpv_one, mpv_un, mpv_cnd, seval]
                  refine callE_pure hse (by rfl) (by rfl) (by first | rfl | (simp only [List.map_cons, List.map_nil, List.toList_toArray, PS.ev, PS.get, lkp_hit, lkp_miss, lkp_nil, PV.un, PV.el, mpv_weak]; rfl)) (by decide) (by first | rfl | (simp only [tokLt, tokLt2, List.all_cons, List.all_nil, mpv_tok1]; rfl)) (fun _ => by rfl) (by first | rfl | simp [gdOk, newToks]) ?_
                  simp -implicitDefEqProofs only [push_cast, w1, w2, sdL_length, hsn2, beq_self_eq_true, mpv_weak, mpv_back1, mpv_tok1, mpv_cells, mpv_one, mpv_un, mpv_cnd, seval]
                  skip
    · (refine Fsp.of (nx := 0) mixed Tryd.func10 rfl (by decide) (by first | exact Nat.le_refl _ | simp) (by simp [Tryd.f10]) ⟨by decide, by decide⟩ ?_; simp -implicitDefEqProofs only [push_cast, Tryd.f10, sdL_length, u8L_length, k1, k2, seval])
      refine callE_pure backAwake_fs (by rfl) (by rfl) (by rfl) (by decide) (by rfl) (fun _ => by rfl) (by first | rfl | simp [gdOk, newToks]) ?_
      simp -implicitDefEqProofs only [push_cast, k1, k2, sdL_length, u8L_length, seval]
  · (refine Fsp.of (nx := 0) mixed Tryd.func10 rfl (by decide) (by first | exact Nat.le_refl _ | simp) (by simp [Tryd.f10]) ⟨by decide, by decide⟩ ?_; simp -implicitDefEqProofs only [push_cast, Tryd.f10, sdL_length, k1, seval])
    refine callE_pure backAwake_fs (by rfl) (by rfl) (by rfl) (by decide) (by rfl) (fun _ => by rfl) (by first | rfl | simp [gdOk, newToks]) ?_
    simp -implicitDefEqProofs only [push_cast, k1, sdL_length, seval]

end Go.Proofs.Sh
