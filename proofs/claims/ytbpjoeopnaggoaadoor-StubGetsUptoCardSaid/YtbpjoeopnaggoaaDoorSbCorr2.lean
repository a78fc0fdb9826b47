/- Numbers as bytes, and back. Plain. -/
import Derived.Test.YtbpjoeopnaggoaaDoorTlPut
import Derived.Test.YtbpjoeopnaggoaaDoorSbGoW
import Derived.Test.YtbpjoeopnaggoaaDoorSbWide
import Derived.Test.YtbpjoeopnaggoaaDoorPvNl
set_option maxRecDepth 100000
namespace Go.Proofs.Sh
open Go.Pv
theorem byteAt_nat (v : Int) (k : Nat) : ((byteAt v k).toNat : Int) = (v / 256 ^ k) % 256 := byteAt_toNat v k
theorem dec_enc {o : Int} (ho : isOrder o) {s : Int} (hs : isSize s) (v : Int) : (decU o (encB o (wid s) v) : Int) = v % 256 ^ wid s := by
  have h0 := byteAt_nat v 0
  have h1 := byteAt_nat v 1
  have h2 := byteAt_nat v 2
  have h3 := byteAt_nat v 3
  simp only [Int.reducePow] at h0 h1 h2 h3
  rcases ho with rfl | rfl <;> rcases hs with rfl | rfl | rfl | rfl | rfl | rfl <;>
    simp [encB, decU, little, wid, List.range_succ] <;> omega
theorem read_enc {o : Int} (ho : isOrder o) {s : Int} (hs : isSize s) {v : Int} (hf : fitsN s v = true) : readV o s (encB o (wid s) v) = v := by
  have h := dec_enc ho hs v
  unfold readV
  rcases hs with rfl | rfl | rfl | rfl | rfl | rfl <;> simp [fitsN, low, high, wid] at hf h ⊢ <;> split <;> omega
theorem fits_read {o : Int} {s : Int} (hs : isSize s) {b : List UInt8} (hb : b.length = wid s) : fitsN s (readV o s b) = true := by
  have h := decU_lt o b
  rw [hb] at h
  unfold readV
  rcases hs with rfl | rfl | rfl | rfl | rfl | rfl <;> simp [fitsN, low, high, wid] at h ⊢ <;> split <;> omega
theorem byteAt_eq {v : Int} {k : Nat} {x : UInt8} (h : (v / 256 ^ k) % 256 = (x.toNat : Int)) : byteAt v k = x := by
  apply UInt8.toNat_inj.1
  have := byteAt_nat v k
  omega
theorem enc_read {o : Int} (ho : isOrder o) {s : Int} (hs : isSize s) {b : List UInt8} (hb : b.length = wid s) : encB o (wid s) (readV o s b) = b := by
  have key : ∀ (k : Nat) (x : UInt8), k < 4 → ((decU o b : Int) / 256 ^ k) % 256 = (x.toNat : Int) → k < wid s → byteAt (readV o s b) k = x := by
    intro k x hk h hw
    apply byteAt_eq
    rw [← h]
    unfold readV
    split
    · have : k = 0 ∨ k = 1 ∨ k = 2 ∨ k = 3 := by omega
      rcases hs with rfl | rfl | rfl | rfl | rfl | rfl <;> rcases this with rfl | rfl | rfl | rfl <;> simp [wid] at hw ⊢ <;> omega
    · rfl
  rcases ho with rfl | rfl <;> rcases hs with rfl | rfl | rfl | rfl | rfl | rfl
  · match b, hb with
    | [b0], _ =>
      have h_b0 := b0.toNat_lt
      have e_b0 := key 0 b0 (by decide) (by simp [decU, little]; omega) (by decide)
      show [byteAt _ 0] = _
      rw [e_b0]
  · match b, hb with
    | [b0, b1], _ =>
      have h_b0 := b0.toNat_lt
      have h_b1 := b1.toNat_lt
      have e_b0 := key 0 b0 (by decide) (by simp [decU, little]; omega) (by decide)
      have e_b1 := key 1 b1 (by decide) (by simp [decU, little]; omega) (by decide)
      show [byteAt _ 0, byteAt _ 1] = _
      rw [e_b0, e_b1]
  · match b, hb with
    | [b0, b1, b2, b3], _ =>
      have h_b0 := b0.toNat_lt
      have h_b1 := b1.toNat_lt
      have h_b2 := b2.toNat_lt
      have h_b3 := b3.toNat_lt
      have e_b0 := key 0 b0 (by decide) (by simp [decU, little]; omega) (by decide)
      have e_b1 := key 1 b1 (by decide) (by simp [decU, little]; omega) (by decide)
      have e_b2 := key 2 b2 (by decide) (by simp [decU, little]; omega) (by decide)
      have e_b3 := key 3 b3 (by decide) (by simp [decU, little]; omega) (by decide)
      show [byteAt _ 0, byteAt _ 1, byteAt _ 2, byteAt _ 3] = _
      rw [e_b0, e_b1, e_b2, e_b3]
  · match b, hb with
    | [b0], _ =>
      have h_b0 := b0.toNat_lt
      have e_b0 := key 0 b0 (by decide) (by simp [decU, little]; omega) (by decide)
      show [byteAt _ 0] = _
      rw [e_b0]
  · match b, hb with
    | [b0, b1], _ =>
      have h_b0 := b0.toNat_lt
      have h_b1 := b1.toNat_lt
      have e_b0 := key 0 b0 (by decide) (by simp [decU, little]; omega) (by decide)
      have e_b1 := key 1 b1 (by decide) (by simp [decU, little]; omega) (by decide)
      show [byteAt _ 0, byteAt _ 1] = _
      rw [e_b0, e_b1]
  · match b, hb with
    | [b0, b1, b2, b3], _ =>
      have h_b0 := b0.toNat_lt
      have h_b1 := b1.toNat_lt
      have h_b2 := b2.toNat_lt
      have h_b3 := b3.toNat_lt
      have e_b0 := key 0 b0 (by decide) (by simp [decU, little]; omega) (by decide)
      have e_b1 := key 1 b1 (by decide) (by simp [decU, little]; omega) (by decide)
      have e_b2 := key 2 b2 (by decide) (by simp [decU, little]; omega) (by decide)
      have e_b3 := key 3 b3 (by decide) (by simp [decU, little]; omega) (by decide)
      show [byteAt _ 0, byteAt _ 1, byteAt _ 2, byteAt _ 3] = _
      rw [e_b0, e_b1, e_b2, e_b3]
  · match b, hb with
    | [b0], _ =>
      have h_b0 := b0.toNat_lt
      have e_b0 := key 0 b0 (by decide) (by simp [decU, little]; omega) (by decide)
      show [byteAt _ 0] = _
      rw [e_b0]
  · match b, hb with
    | [b0, b1], _ =>
      have h_b0 := b0.toNat_lt
      have h_b1 := b1.toNat_lt
      have e_b0 := key 1 b0 (by decide) (by simp [decU, little]; omega) (by decide)
      have e_b1 := key 0 b1 (by decide) (by simp [decU, little]; omega) (by decide)
      show [byteAt _ 1, byteAt _ 0] = _
      rw [e_b0, e_b1]
  · match b, hb with
    | [b0, b1, b2, b3], _ =>
      have h_b0 := b0.toNat_lt
      have h_b1 := b1.toNat_lt
      have h_b2 := b2.toNat_lt
      have h_b3 := b3.toNat_lt
      have e_b0 := key 3 b0 (by decide) (by simp [decU, little]; omega) (by decide)
      have e_b1 := key 2 b1 (by decide) (by simp [decU, little]; omega) (by decide)
      have e_b2 := key 1 b2 (by decide) (by simp [decU, little]; omega) (by decide)
      have e_b3 := key 0 b3 (by decide) (by simp [decU, little]; omega) (by decide)
      show [byteAt _ 3, byteAt _ 2, byteAt _ 1, byteAt _ 0] = _
      rw [e_b0, e_b1, e_b2, e_b3]
  · match b, hb with
    | [b0], _ =>
      have h_b0 := b0.toNat_lt
      have e_b0 := key 0 b0 (by decide) (by simp [decU, little]; omega) (by decide)
      show [byteAt _ 0] = _
      rw [e_b0]
  · match b, hb with
    | [b0, b1], _ =>
      have h_b0 := b0.toNat_lt
      have h_b1 := b1.toNat_lt
      have e_b0 := key 1 b0 (by decide) (by simp [decU, little]; omega) (by decide)
      have e_b1 := key 0 b1 (by decide) (by simp [decU, little]; omega) (by decide)
      show [byteAt _ 1, byteAt _ 0] = _
      rw [e_b0, e_b1]
  · match b, hb with
    | [b0, b1, b2, b3], _ =>
      have h_b0 := b0.toNat_lt
      have h_b1 := b1.toNat_lt
      have h_b2 := b2.toNat_lt
      have h_b3 := b3.toNat_lt
      have e_b0 := key 3 b0 (by decide) (by simp [decU, little]; omega) (by decide)
      have e_b1 := key 2 b1 (by decide) (by simp [decU, little]; omega) (by decide)
      have e_b2 := key 1 b2 (by decide) (by simp [decU, little]; omega) (by decide)
      have e_b3 := key 0 b3 (by decide) (by simp [decU, little]; omega) (by decide)
      show [byteAt _ 3, byteAt _ 2, byteAt _ 1, byteAt _ 0] = _
      rw [e_b0, e_b1, e_b2, e_b3]
end Go.Proofs.Sh

/- Numbers taken at their places. Plain. -/
set_option maxRecDepth 100000
namespace Go.Proofs.Sh
open Go.Pv
theorem num_at {o : Int} (ho : isOrder o) {z : Int} (hz : isSize z) {v : Int} (hf : fitsN z v = true) (P B : List UInt8) : num o (P ++ encB o (wid z) v ++ B) z ⟨P.length, 0⟩ = (v, ⟨P.length + wid z, 0⟩) := by
  have he := encB_length o (wid z) v
  rw [num, if_pos rfl, if_neg (by simp only [List.length_append, he]; omega)]
  have ht : ((P ++ encB o (wid z) v ++ B).drop P.length).take (wid z) = encB o (wid z) v := by
    rw [List.append_assoc, List.drop_left]
    exact List.take_left' he
  simp only [ht, read_enc ho hz hf]
theorem filP_zeros (P B : List UInt8) : ∀ k j : Nat, k + j ≤ 4 → filP (P ++ zeros (k + j) ++ B) k (P.length + j) = ⟨P.length + j + k, 0⟩
  | 0, j, _ => rfl
  | k + 1, j, h => by
    unfold filP
    rw [if_neg (by simp [zeros]; omega), if_pos (by
      have : (P ++ zeros (k + 1 + j) ++ B).getD (P.length + j) 0 = 0 := by
        rw [List.append_assoc, List.getD_eq_getElem?_getD, List.getElem?_append_right (by omega), List.getElem?_append_left (by simp [zeros])]
        simp [zeros]
      exact this)]
    have := filP_zeros P B k (j + 1) (by omega)
    rw [show k + 1 + j = k + (j + 1) by omega, show P.length + j + 1 = P.length + (j + 1) by omega, this]
    congr 1; omega
theorem fil_at (P B : List UInt8) : fil (P ++ zeros (padN P.length) ++ B) ⟨P.length, 0⟩ = ⟨P.length + padN P.length, 0⟩ := by
  rw [fil, if_pos rfl]
  exact filP_zeros P B (padN P.length) 0 (by have := padN_le P.length; omega)
theorem fil_p1 (P B : List UInt8) : fil (p1 P ++ B) ⟨P.length, 0⟩ = ⟨(p1 P).length, 0⟩ := by
  have h := fil_at P B
  rw [show (p1 P).length = P.length + padN P.length by simp [p1, zeros]]
  exact h
theorem row_cons (o z v : Int) (F N : List Int) (k : Nat) : row o (z :: F) (v :: N) (k + 1) = putS o z v ++ row o F N k := by
  simp only [row, List.range_succ_eq_map, List.flatMap_cons, List.flatMap_map]
  rfl
theorem allFit_cons {z v : Int} {F N : List Int} {k : Nat} : allFit (z :: F) (v :: N) (k + 1) = (fitsN z v && allFit F N k) := by
  simp only [allFit, List.range_succ_eq_map, List.all_cons, List.all_map]
  rfl
theorem nums_row {o : Int} (ho : isOrder o) : ∀ (F N : List Int) (P B : List UInt8), N.length = F.length → (∀ z ∈ F, isSize z) → allFit F N N.length = true →
    nums o (P ++ row o F N N.length ++ B) F ⟨P.length, 0⟩ = (N, ⟨(P ++ row o F N N.length).length, 0⟩)
  | [], [], P, B, _, _, _ => by simp [nums, row]
  | [], _ :: _, _, _, h, _, _ => by simp at h
  | _ :: _, [], _, _, h, _, _ => by simp at h
  | z :: F, v :: N, P, B, hl, hs, hf => by
    rw [List.length_cons, allFit_cons, Bool.and_eq_true] at hf
    have hz := hs z (List.mem_cons_self ..)
    have hp : putS o z v = encB o (wid z) v := by rw [putS, if_pos hf.1]
    rw [List.length_cons, row_cons, hp]
    have h1 := num_at ho hz hf.1 P (row o F N N.length ++ B)
    have h2 := nums_row ho F N (P ++ encB o (wid z) v) B (by simpa using hl) (fun y hy => hs y (List.mem_cons_of_mem _ hy)) hf.2
    have e1 : P ++ (encB o (wid z) v ++ row o F N N.length) ++ B = P ++ encB o (wid z) v ++ (row o F N N.length ++ B) := by simp
    have e2 : P ++ encB o (wid z) v ++ row o F N N.length ++ B = P ++ encB o (wid z) v ++ (row o F N N.length ++ B) := by simp
    rw [e2] at h2
    rw [e1]
    have e3 : (P ++ encB o (wid z) v).length = P.length + wid z := by rw [List.length_append, encB_length]
    rw [e3] at h2
    simp only [nums, h1, h2]
    simp
theorem row1_row (o z : Int) : ∀ (L : List Int), row1 o z L L.length = row o (List.replicate L.length z) L L.length := by
  intro L
  simp only [row1, row, List.flatMap_def]
  congr 1
  apply List.map_congr_left
  intro j hj
  rw [List.mem_range] at hj
  rw [show (List.replicate L.length z).getD j 0 = z by simp [List.getD_eq_getElem?_getD, hj]]
theorem rowFit_all (z : Int) (L : List Int) (h : rowFit z L L.length = true) : allFit (List.replicate L.length z) L L.length = true := by
  unfold allFit
  unfold rowFit at h
  rw [List.all_eq_true] at h ⊢
  intro j hj
  have hj' := List.mem_range.1 hj
  rw [show (List.replicate L.length z).getD j 0 = z by simp [List.getD_eq_getElem?_getD, hj']]
  exact h j hj
/-- What fits, part by part. -/
structure FitsR (f : Fm) (x : Fd) : Prop where
  n : x.N.length = f.F.length
  a : allFit f.F x.N x.N.length = true
  b : f.B = true ∨ x.B = []
  bl : x.B.length ≤ 65536
  l : f.L ≠ 0 ∨ x.L = []
  ll : x.L.length ≤ 65536
  r : rowFit f.L x.L x.L.length = true
theorem fitsE_parts {f : Fm} {x : Fd} (h : fitsE f x = 0) : FitsR f x := by
  unfold fitsE at h
  split at h
  · exact absurd h (by decide)
  rename_i h1
  split at h
  · exact absurd h (by decide)
  rename_i h2
  split at h
  · exact absurd h (by decide)
  rename_i h3
  split at h
  · exact absurd h (by decide)
  rename_i h4
  split at h
  · exact absurd h (by decide)
  rename_i h5
  split at h
  · exact absurd h (by decide)
  rename_i h6
  split at h
  · exact absurd h (by decide)
  rename_i h7
  refine ⟨by simp at h1; omega, by simpa using h2, ?_, by simp at h4; omega, ?_, by simp at h6; omega, by simpa using h7⟩
  · cases hb : f.B
    · right
      rw [hb] at h3
      simpa using h3
    · exact .inl rfl
  · rcases Decidable.em (f.L = 0) with hl | hl
    · right
      rw [hl] at h5
      simp at h5
      exact List.eq_nil_of_length_eq_zero (by simpa using h5)
    · exact .inl hl
theorem putS4 {o : Int} {n : Nat} (h : n ≤ 65536) : fitsN 4 (n : Int) = true ∧ putS o 4 (n : Int) = encB o (wid 4) (n : Int) := by
  have hf : fitsN 4 (n : Int) = true := by simp [fitsN, low, high]; omega
  exact ⟨hf, by rw [putS, if_pos hf]⟩
/-- The text, taken where it was put. -/
theorem stB_at {o : Int} (ho : isOrder o) (P t B : List UInt8) (ht : t.length ≤ 65536) :
    stB o (p1 (P ++ putS o 4 t.length ++ t) ++ B) true ⟨P.length, 0⟩ = (true, t, ⟨(p1 (P ++ putS o 4 t.length ++ t)).length, 0⟩) := by
  obtain ⟨hf, hp⟩ := putS4 (o := o) ht
  have hz : isSize 4 := by unfold isSize; omega
  have hw : wid 4 = 4 := rfl
  have he := encB_length o (wid 4) (t.length : Int)
  have e1 : p1 (P ++ putS o 4 t.length ++ t) ++ B = P ++ encB o (wid 4) (t.length : Int) ++ (t ++ (zeros (padN (P ++ putS o 4 t.length ++ t).length) ++ B)) := by
    rw [p1, hp]; simp only [List.append_assoc]
  have hn := num_at ho hz hf P (t ++ (zeros (padN (P ++ putS o 4 t.length ++ t).length) ++ B))
  have hfl := fil_p1 (P ++ putS o 4 t.length ++ t) B
  rw [← e1] at hn
  rw [stB, if_pos rfl, hn]
  simp only [if_true]
  have hlen : (p1 (P ++ putS o 4 t.length ++ t) ++ B).length = P.length + wid 4 + (t.length + (padN (P ++ putS o 4 t.length ++ t).length + B.length)) := by
    rw [e1]; simp only [List.length_append, he, zeros, List.length_replicate]
  rw [if_neg (by rw [hlen]; omega)]
  have hd : (p1 (P ++ putS o 4 t.length ++ t) ++ B).drop (P.length + wid 4) = t ++ (zeros (padN (P ++ putS o 4 t.length ++ t).length) ++ B) := by
    rw [e1]
    exact List.drop_left' (by rw [List.length_append, he])
  have hl2 : (P ++ putS o 4 t.length ++ t).length = P.length + wid 4 + t.length := by rw [hp]; simp only [List.length_append, he]
  rw [hl2] at hfl
  rw [hd, Int.toNat_natCast, List.take_left, hfl]
theorem row_len {o : Int} {z : Int} : ∀ (L : List Int), allFit (List.replicate L.length z) L L.length = true → (row o (List.replicate L.length z) L L.length).length = L.length * wid z
  | [], _ => by simp [row]
  | v :: L, h => by
    rw [List.length_cons, List.replicate_succ, allFit_cons, Bool.and_eq_true] at h
    rw [List.length_cons, List.replicate_succ, row_cons, List.length_append, row_len L h.2, putS, if_pos h.1, encB_length, Nat.succ_mul]
    omega
/-- The row, taken where it was put. -/
theorem stL_at {o : Int} (ho : isOrder o) {z : Int} (hz : isSize z) (P : List UInt8) (L : List Int) (hL : L.length ≤ 65536) (hf : rowFit z L L.length = true) :
    stL o (p1 (P ++ putS o 4 L.length ++ row1 o z L L.length)) z ⟨P.length, 0⟩ = (L, ⟨(p1 (P ++ putS o 4 L.length ++ row1 o z L L.length)).length, 0⟩) := by
  obtain ⟨hf4, hp⟩ := putS4 (o := o) hL
  have hz4 : isSize 4 := by unfold isSize; omega
  have hz0 : ¬ z = 0 := by rcases hz with rfl | rfl | rfl | rfl | rfl | rfl <;> decide
  have he := encB_length o (wid 4) (L.length : Int)
  have hr := row1_row o z L
  have hall := rowFit_all z L hf
  have hnr := nums_row ho (List.replicate L.length z) L (P ++ putS o 4 L.length) (zeros (padN (P ++ putS o 4 L.length ++ row1 o z L L.length).length)) (by simp) (fun y hy => by rw [List.eq_of_mem_replicate hy]; exact hz) hall
  rw [← hr] at hnr
  have hfl := fil_p1 (P ++ putS o 4 L.length ++ row1 o z L L.length) []
  rw [List.append_nil] at hfl
  have e1 : p1 (P ++ putS o 4 L.length ++ row1 o z L L.length) = P ++ encB o (wid 4) (L.length : Int) ++ (row1 o z L L.length ++ zeros (padN (P ++ putS o 4 L.length ++ row1 o z L L.length).length)) := by
    rw [p1, hp]; simp only [List.append_assoc]
  have hn := num_at ho hz4 hf4 P (row1 o z L L.length ++ zeros (padN (P ++ putS o 4 L.length ++ row1 o z L L.length).length))
  rw [← e1] at hn
  rw [show P ++ putS o 4 ↑L.length ++ row1 o z L L.length ++ zeros (padN (P ++ putS o 4 ↑L.length ++ row1 o z L L.length).length) = p1 (P ++ putS o 4 L.length ++ row1 o z L L.length) from rfl] at hnr
  rw [show (P ++ putS o 4 (L.length : Int)).length = P.length + wid 4 by rw [hp, List.length_append, he]] at hnr
  rw [stL, if_neg hz0, hn]
  simp only [if_true, Int.toNat_natCast]
  have hrl := row_len (o := o) L hall
  rw [← hr] at hrl
  have hlen : (p1 (P ++ putS o 4 L.length ++ row1 o z L L.length)).length = P.length + wid 4 + (L.length * wid z + padN (P ++ putS o 4 L.length ++ row1 o z L L.length).length) := by
    rw [e1]; simp only [List.length_append, he, zeros, List.length_replicate, hrl]
  have hm : (L.length : Int) * (wid z : Int) = ((L.length * wid z : Nat) : Int) := (Int.natCast_mul _ _).symm
  rw [hm, if_neg (by rw [hlen]; omega), hnr]
  simp only
  rw [hfl]
end Go.Proofs.Sh

/- What is put is got, and what is got is put. Plain. -/
set_option maxRecDepth 100000
namespace Go.Proofs.Sh
open Go.Pv
theorem p1_eq (l : List UInt8) : p1 l = l ++ zeros (padN l.length) := rfl
theorem stB_none {o : Int} {s : List UInt8} {c : Cu} : stB o s false c = (true, [], c) := by rw [stB, if_neg (by decide)]
theorem stL_none {o : Int} {s : List UInt8} {c : Cu} : stL o s 0 c = ([], c) := by rw [stL, if_pos rfl]
/-- The text of fields, taken where it was put. -/
theorem stB_fmt {o : Int} (ho : isOrder o) {f : Fm} {x : Fd} (h : FitsR f x) (B : List UInt8) :
    stB o (fmt2 o f x ++ B) f.B ⟨(fmt1 o f x).length, 0⟩ = (true, x.B, ⟨(fmt2 o f x).length, 0⟩) := by
  cases hb : f.B
  · have hx : x.B = [] := by rcases h.b with h1 | h1
                             · rw [hb] at h1; cases h1
                             · exact h1
    have h2 : fmt2 o f x = fmt1 o f x := by rw [fmt2, if_neg (by rw [hb]; decide)]
    rw [stB_none, hx, h2]
  · have h2 : fmt2 o f x = p1 (fmt1 o f x ++ putS o 4 x.B.length ++ x.B) := by rw [fmt2, if_pos hb]
    rw [h2]
    exact stB_at ho (fmt1 o f x) x.B B h.bl
theorem stL_fmt {o : Int} (ho : isOrder o) {f : Fm} (hf : f.Ok) {x : Fd} (h : FitsR f x) :
    stL o (fmt o f x) f.L ⟨(fmt2 o f x).length, 0⟩ = (x.L, ⟨(fmt o f x).length, 0⟩) := by
  rcases Decidable.em (f.L = 0) with hl | hl
  · have hx : x.L = [] := by rcases h.l with h1 | h1
                             · exact absurd hl h1
                             · exact h1
    have h2 : fmt o f x = fmt2 o f x := by rw [fmt, if_neg (by simp [hl])]
    rw [h2, hl, stL_none, hx]
  · have h2 : fmt o f x = p1 (fmt2 o f x ++ putS o 4 x.L.length ++ row1 o f.L x.L x.L.length) := by rw [fmt, if_pos (by simpa using hl)]
    have hz : isSize f.L := hf.l.resolve_left hl
    rw [h2]
    exact stL_at ho hz (fmt2 o f x) x.L h.ll h.r
theorem fmt2_ext (o : Int) (f : Fm) (x : Fd) : ∃ C, fmt2 o f x = fmt1 o f x ++ C := by
  unfold fmt2
  split
  · exact ⟨putS o 4 x.B.length ++ x.B ++ zeros (padN (fmt1 o f x ++ putS o 4 x.B.length ++ x.B).length), by rw [p1]; simp only [List.append_assoc]⟩
  · exact ⟨[], (List.append_nil _).symm⟩
theorem fmt_ext (o : Int) (f : Fm) (x : Fd) : ∃ C, fmt o f x = fmt2 o f x ++ C := by
  unfold fmt
  split
  · exact ⟨putS o 4 x.L.length ++ row1 o f.L x.L x.L.length ++ zeros (padN (fmt2 o f x ++ putS o 4 x.L.length ++ row1 o f.L x.L x.L.length).length), by rw [p1]; simp only [List.append_assoc]⟩
  · exact ⟨[], (List.append_nil _).symm⟩
/-- What is put is got. -/
theorem body_fmt {o : Int} (ho : isOrder o) {f : Fm} (hf : f.Ok) {x : Fd} (h : fitsE f x = 0) : body o (fmt o f x) f ⟨0, 0⟩ = (x, ⟨(fmt o f x).length, 0⟩) := by
  have hp := fitsE_parts h
  obtain ⟨C1, hC1⟩ := fmt2_ext o f x
  obtain ⟨C2, hC2⟩ := fmt_ext o f x
  have hn : nums o (fmt o f x) f.F ⟨0, 0⟩ = (x.N, ⟨(row o f.F x.N x.N.length).length, 0⟩) := by
    have := nums_row ho f.F x.N [] (zeros (padN (row o f.F x.N x.N.length).length) ++ (C1 ++ C2)) hp.n hf.s hp.a
    have e : [] ++ row o f.F x.N x.N.length ++ (zeros (padN (row o f.F x.N x.N.length).length) ++ (C1 ++ C2)) = fmt o f x := by
      rw [hC2, hC1, fmt1, p1]; simp only [List.append_assoc, List.nil_append]
    rw [e] at this
    exact this
  have hfl : fil (fmt o f x) ⟨(row o f.F x.N x.N.length).length, 0⟩ = ⟨(fmt1 o f x).length, 0⟩ := by
    have := fil_p1 (row o f.F x.N x.N.length) (C1 ++ C2)
    have e : p1 (row o f.F x.N x.N.length) ++ (C1 ++ C2) = fmt o f x := by
      rw [hC2, hC1, fmt1]; simp only [List.append_assoc]
    rw [e] at this
    exact this
  have hB := stB_fmt ho hp C2
  rw [← hC2] at hB
  have hL := stL_fmt ho hf hp
  unfold body
  simp only [hn, hfl, hB, hL, if_true]
theorem getF_fmt {o : Int} (ho : isOrder o) {f : Fm} (hf : f.Ok) {x : Fd} (h : fitsE f x = 0) (hl : (fmt o f x).length ≤ 65536) : getF o f (fmt o f x) = (x, 0) := by
  have hb := body_fmt ho hf h
  have hX : getX (fmt o f x) ⟨(fmt o f x).length, 0⟩ = 0 := by rw [getX, if_neg (by simp)]
  rw [getF, if_neg (by omega), hb]
  simp only [hX, if_true]
/-- Back: a number. -/
theorem num_back {o : Int} (ho : isOrder o) {z : Int} (hz : isSize z) {s : List UInt8} {c : Cu} (h : (num o s z c).2.e = 0) :
    c.e = 0 ∧ (num o s z c).2.a ≤ s.length ∧ (num o s z c).2.a = c.a + wid z ∧ fitsN z (num o s z c).1 = true ∧ s.take (num o s z c).2.a = s.take c.a ++ putS o z (num o s z c).1 := by
  unfold num at h ⊢
  split at h
  · rename_i h0
    rw [if_pos h0]
    split at h
    · exact absurd h (by simp)
    · rename_i h1
      rw [if_neg h1]
      have hb : ((s.drop c.a).take (wid z)).length = wid z := by simp; omega
      have hfit := fits_read (o := o) hz hb
      refine ⟨h0, by simp only; omega, rfl, hfit, ?_⟩
      simp only [putS, if_pos hfit, enc_read ho hz hb, List.take_add]
  · rename_i h0
    exact absurd h h0
theorem nums_back {o : Int} (ho : isOrder o) {s : List UInt8} : ∀ (F : List Int) {c : Cu}, (∀ z ∈ F, isSize z) → (nums o s F c).2.e = 0 → c.a ≤ s.length →
    c.e = 0 ∧ (nums o s F c).2.a ≤ s.length ∧ allFit F (nums o s F c).1 (nums o s F c).1.length = true ∧ s.take (nums o s F c).2.a = s.take c.a ++ row o F (nums o s F c).1 (nums o s F c).1.length
  | [], c, _, h, ha => ⟨h, ha, by simp [nums, allFit], by simp [nums, row]⟩
  | z :: F, c, hs, h, ha => by
    have h' : (nums o s F (num o s z c).2).2.e = 0 := h
    obtain ⟨h1, h2, h3, h4⟩ := nums_back ho F (fun y hy => hs y (List.mem_cons_of_mem _ hy)) h' (num_le ha)
    obtain ⟨g1, g2, g3, g4, g5⟩ := num_back ho (hs z (List.mem_cons_self ..)) h1
    refine ⟨g1, h2, ?_, ?_⟩
    · show allFit (z :: F) ((num o s z c).1 :: (nums o s F (num o s z c).2).1) ((nums o s F (num o s z c).2).1.length + 1) = true
      rw [allFit_cons, g4, h3]; rfl
    · show s.take (nums o s F (num o s z c).2).2.a = s.take c.a ++ row o (z :: F) ((num o s z c).1 :: (nums o s F (num o s z c).2).1) ((nums o s F (num o s z c).2).1.length + 1)
      rw [row_cons, h4, g5, List.append_assoc]
theorem filP_back {s : List UInt8} : ∀ (k a : Nat), a ≤ s.length → (filP s k a).e = 0 → (filP s k a).a = a + k ∧ a + k ≤ s.length ∧ s.take (a + k) = s.take a ++ zeros k
  | 0, a, ha, _ => ⟨rfl, ha, by simp [zeros]⟩
  | k + 1, a, ha, h => by
    unfold filP at h ⊢
    split at h
    · exact absurd h (by simp)
    · rename_i h1
      split at h
      · rename_i h2
        obtain ⟨g1, g2, g3⟩ := filP_back k (a + 1) (by omega) h
        rw [if_neg h1, if_pos h2]
        refine ⟨by rw [g1]; omega, by omega, ?_⟩
        rw [show a + (k + 1) = a + 1 + k by omega, g3]
        have hlt : a < s.length := by omega
        rw [List.take_add_one, List.getElem?_eq_getElem hlt]
        have h3 : s[a] = 0 := by
          rw [List.getD_eq_getElem?_getD, List.getElem?_eq_getElem hlt] at h2; exact h2
        rw [h3]
        simp [zeros, List.replicate_succ]
      · exact absurd h (by simp)
theorem fil_back {s : List UInt8} {c : Cu} (ha : c.a ≤ s.length) (h : (fil s c).e = 0) : c.e = 0 ∧ (fil s c).a ≤ s.length ∧ s.take (fil s c).a = p1 (s.take c.a) := by
  unfold fil at h ⊢
  split at h
  · rename_i h0
    rw [if_pos h0]
    obtain ⟨g1, g2, g3⟩ := filP_back _ _ ha h
    refine ⟨h0, by rw [g1]; exact g2, ?_⟩
    rw [g1, g3, p1, List.length_take, Nat.min_eq_left ha]
  · rename_i h0
    exact absurd h h0
theorem stB_back {o : Int} (ho : isOrder o) {s : List UInt8} {b : Bool} {c : Cu} (ha : c.a ≤ s.length) (hs : s.length ≤ 65536) (h : (stB o s b c).2.2.e = 0) :
    c.e = 0 ∧ (stB o s b c).1 = true ∧ (stB o s b c).2.2.a ≤ s.length ∧ (b = true ∨ (stB o s b c).2.1 = []) ∧ (stB o s b c).2.1.length ≤ 65536 ∧
      s.take (stB o s b c).2.2.a = if b = true then p1 (s.take c.a ++ putS o 4 (stB o s b c).2.1.length ++ (stB o s b c).2.1) else s.take c.a := by
  cases b
  · rw [stB_none] at h ⊢
    exact ⟨h, rfl, ha, .inr rfl, by simp, rfl⟩
  · have h4 := num4 (s := s) ho c
    have hz4 : isSize 4 := by unfold isSize; omega
    unfold stB at h ⊢
    rw [if_pos rfl] at h ⊢
    split at h
    · rename_i h1
      rw [if_pos h1]
      obtain ⟨g1, g2, g3, g4, g5⟩ := num_back ho hz4 h1
      split at h
      · exact absurd h (by simp)
      · rename_i h2
        rw [if_neg h2]
        obtain ⟨n, hn⟩ := Int.eq_ofNat_of_zero_le h4.1
        have hlen : ((s.drop (num o s 4 c).2.a).take (num o s 4 c).1.toNat).length = n := by
          rw [hn]; rw [hn] at h2; simp; omega
        have hle : (num o s 4 c).2.a + (num o s 4 c).1.toNat ≤ s.length := by rw [hn]; rw [hn] at h2; simp; omega
        obtain ⟨k1, k2, k3⟩ := fil_back (c := ⟨(num o s 4 c).2.a + (num o s 4 c).1.toNat, 0⟩) hle h
        refine ⟨g1, rfl, k2, .inl rfl, by rw [hlen]; rw [hn] at hle; simp at hle; omega, ?_⟩
        simp only [if_true]
        rw [k3, hlen, List.take_add, g5]
        rw [hn]
        try rfl
    · rename_i h1
      exact absurd h h1
theorem allFit_rep (z : Int) (L : List Int) (h : allFit (List.replicate L.length z) L L.length = true) : rowFit z L L.length = true := by
  unfold allFit at h
  unfold rowFit
  rw [List.all_eq_true] at h ⊢
  intro j hj
  have hj' := List.mem_range.1 hj
  have := h j hj
  rwa [show (List.replicate L.length z).getD j 0 = z by simp [List.getD_eq_getElem?_getD, hj']] at this
theorem stL_back {o : Int} (ho : isOrder o) {s : List UInt8} {z : Int} (hz : z = 0 ∨ isSize z) {c : Cu} (ha : c.a ≤ s.length) (hs : s.length ≤ 65536) (h : (stL o s z c).2.e = 0) :
    c.e = 0 ∧ (stL o s z c).2.a ≤ s.length ∧ (z ≠ 0 ∨ (stL o s z c).1 = []) ∧ (stL o s z c).1.length ≤ 65536 ∧ rowFit z (stL o s z c).1 (stL o s z c).1.length = true ∧
      s.take (stL o s z c).2.a = if (z != 0) = true then p1 (s.take c.a ++ putS o 4 (stL o s z c).1.length ++ row1 o z (stL o s z c).1 (stL o s z c).1.length) else s.take c.a := by
  rcases Decidable.em (z = 0) with rfl | hz0
  · rw [stL_none] at h ⊢
    exact ⟨h, ha, .inr rfl, by simp, by simp [rowFit], rfl⟩
  · have hzs := hz.resolve_left hz0
    have hw := wid_pos hzs
    have h4 := num4 (s := s) ho c
    have hz4 : isSize 4 := by unfold isSize; omega
    unfold stL at h ⊢
    rw [if_neg hz0] at h ⊢
    split at h
    · rename_i h1
      rw [if_pos h1]
      obtain ⟨g1, g2, g3, g4, g5⟩ := num_back ho hz4 h1
      split at h
      · exact absurd h (by simp)
      · rename_i h2
        rw [if_neg h2]
        obtain ⟨n, hn⟩ := Int.eq_ofNat_of_zero_le h4.1
        have hlen := nums_length (o := o) (s := s) (List.replicate (num o s 4 c).1.toNat z) (num o s 4 c).2
        rw [List.length_replicate] at hlen
        have hnn : (num o s 4 c).1.toNat = n := by rw [hn]; rfl
        rw [hnn] at h hlen
        have hle : (nums o s (List.replicate n z) (num o s 4 c).2).2.a ≤ s.length := nums_le _ g2
        obtain ⟨k1, k2, k3⟩ := fil_back hle h
        obtain ⟨q1, q2, q3, q4⟩ := nums_back ho (List.replicate n z) (fun y hy => by rw [List.eq_of_mem_replicate hy]; exact hzs) k1 g2
        rw [hnn]
        have hnl : n ≤ 65536 := by
          rw [hn] at h2
          have : (n : Int) ≤ (n : Int) * (wid z : Int) := by
            have := Int.mul_le_mul_of_nonneg_left (show (1 : Int) ≤ (wid z : Int) by omega) (Int.natCast_nonneg n)
            omega
          try simp only [Int.ofNat_eq_natCast] at h2
          omega
        rw [hlen] at q3 q4
        have hr : List.replicate n z = List.replicate (nums o s (List.replicate n z) (num o s 4 c).2).1.length z := by rw [hlen]
        refine ⟨g1, k2, .inl hz0, by rw [hlen]; exact hnl, ?_, ?_⟩
        · apply allFit_rep
          rw [hlen]; exact q3
        · rw [if_pos (by simpa using hz0), k3, q4, g5, hlen]
          rw [hn]
          congr 2
          have := row1_row o z (nums o s (List.replicate n z) (num o s 4 c).2).1
          rw [hlen] at this
          exact this.symm
    · rename_i h1
      exact absurd h h1
/-- What is got is put as just these bytes. -/
theorem body_back {o : Int} (ho : isOrder o) {f : Fm} (hf : f.Ok) {s : List UInt8} (hs : s.length ≤ 65536) {x : Fd} {c : Cu} (h : body o s f ⟨0, 0⟩ = (x, c)) (he : c.e = 0) :
    c.a ≤ s.length ∧ s.take c.a = fmt o f x ∧ fitsE f x = 0 := by
  unfold body at h
  split at h
  · rename_i h1
    obtain ⟨rfl, rfl⟩ := Prod.mk.inj h
    have a0 : (0 : Nat) ≤ s.length := Nat.zero_le _
    have a1 : (fil s (nums o s f.F ⟨0, 0⟩).2).a ≤ s.length := fil_le (nums_le f.F (c := ⟨0, 0⟩) a0)
    have a2 : (stB o s f.B (fil s (nums o s f.F ⟨0, 0⟩).2)).2.2.a ≤ s.length := by
      have : ∀ b (c : Cu), c.a ≤ s.length → (stB o s b c).2.2.a ≤ s.length := by
        intro b c hc
        cases b
        · rw [stB_none]; exact hc
        · have h4 := num4 (s := s) ho c
          unfold stB
          rw [if_pos rfl]
          split
          · split
            · exact num_le hc
            · rename_i h2
              have := num_le (o := o) (z := 4) hc
              exact fil_le (by simp only; omega)
          · exact num_le hc
      exact this _ _ a1
    obtain ⟨l1, l2, l3, l4, l5, l6⟩ := stL_back ho hf.l a2 hs he
    obtain ⟨b1, b2, b3, b4, b5, b6⟩ := stB_back ho a1 hs l1
    obtain ⟨f1, f2, f3⟩ := fil_back (nums_le f.F (c := ⟨0, 0⟩) a0) b1
    obtain ⟨n1, n2, n3, n4⟩ := nums_back ho f.F (c := ⟨0, 0⟩) hf.s f1 a0
    have hN := nums_length (o := o) (s := s) f.F ⟨0, 0⟩
    rw [List.take_zero, List.nil_append] at n4
    refine ⟨l2, ?_, ?_⟩
    · rw [l6, b6, f3, n4]
      rfl
    · generalize (nums o s f.F ⟨0, 0⟩).1 = N at *
      generalize (stL o s f.L (stB o s f.B (fil s (nums o s f.F ⟨0, 0⟩).2)).2.2).1 = L at *
      generalize (stB o s f.B (fil s (nums o s f.F ⟨0, 0⟩).2)).2.1 = B at *
      unfold fitsE
      rw [if_neg (by simp [hN]), if_neg (by rw [n3]; decide), if_neg (by rcases b4 with h | h <;> simp [h]), if_neg (by simp; omega), if_neg (by rcases l3 with h | h <;> simp [h]), if_neg (by simp; omega), if_neg (by rw [l5]; decide)]
  · rename_i h1
    obtain ⟨rfl, rfl⟩ := Prod.mk.inj h
    have a1 : (fil s (nums o s f.F ⟨0, 0⟩).2).a ≤ s.length := fil_le (nums_le f.F (c := ⟨0, 0⟩) (Nat.zero_le _))
    exact absurd (stB_back ho a1 hs he).2.1 h1
theorem getF_back {o : Int} (ho : isOrder o) {f : Fm} (hf : f.Ok) {s : List UInt8} (h : (getF o f s).2 = 0) : fmt o f (getF o f s).1 = s ∧ fitsE f (getF o f s).1 = 0 := by
  unfold getF at h ⊢
  split at h
  · exact absurd h (by decide)
  · rename_i h1
    rw [if_neg h1]
    split at h
    · rename_i h2
      rw [if_pos h2]
      cases hb : body o s f ⟨0, 0⟩ with
      | mk x c =>
        rw [hb] at h2
        unfold getX at h2
        split at h2
        · exact absurd h2 (by decide)
        · rename_i h3
          obtain ⟨g1, g2, g3⟩ := body_back ho hf (by omega) hb h2
          refine ⟨?_, g3⟩
          rw [← g2]
          apply List.take_of_length_le
          have : ¬ c.a < s.length := fun h4 => h3 ⟨h2, h4⟩
          omega
    · rename_i h2
      exact absurd h h2
end Go.Proofs.Sh

/- Messages: what is put is got, and what is got is put. Plain. -/
set_option maxRecDepth 100000
set_option linter.unusedVariables false
namespace Go.Proofs.Sh
open Go.Pv
theorem enc2x (o v : Int) : ∃ a b, encB o 2 v = [a, b] := ⟨_, _, rfl⟩
theorem enc4x (o v : Int) : ∃ a b c d, encB o 4 v = [a, b, c, d] := ⟨_, _, _, _, rfl⟩
/-- A message's bytes, if they are. -/
theorem tellS_shape {o : Int} {r : Ot} (h : (tellS o r).2 = 0) : ∃ (f : Fm) (c0 c1 q0 q1 w0 w1 w2 w3 : UInt8) (X : List UInt8), isOrd o = true ∧ mForm r.K r.C = some f ∧ (tellS o r).1 = c0 :: c1 :: q0 :: q1 :: w0 :: w1 :: w2 :: w3 :: X ∧
    (c0.toNat : Int) = r.K ∧ (c1.toNat : Int) = r.C ∧ [q0, q1] = encB o 2 (r.Q % 65536) ∧ (decU o [q0, q1] : Int) = r.Q % 65536 ∧ decU o [w0, w1, w2, w3] = X.length / 4 + 2 ∧ [w0, w1, w2, w3] = encB o 4 ((X.length / 4 + 2 : Nat) : Int) ∧ X.length % 4 = 0 ∧ X.length ≤ 65536 ∧ X = fmt o f r.fd ∧ fitsE f r.fd = 0 ∧ 0 ≤ r.Q ∧ r.Q ≤ 1099511627776 := by
  unfold tellS at h ⊢
  split at h
  · rename_i ho
    rw [if_pos ho]
    cases hf : mForm r.K r.C with
    | none =>
      rw [tellP_none hf] at h
      have := mErr_ne r.K
      simp only at h
      rw [h] at this
      exact absurd this (by decide)
    | some f =>
      obtain ⟨-, hk1, hk2, hc1, hc2⟩ := mForm_some hf
      rw [tellP_some hf] at h ⊢
      unfold tellQ at h ⊢
      split at h
      · exact absurd h (by decide)
      · rename_i h1
        rw [if_neg h1]
        split at h
        · rename_i h2
          simp only at h
          rw [h] at h2
          exact absurd h2 (by decide)
        · rename_i h2
          rw [if_neg h2]
          split at h
          · exact absurd h (by decide)
          · rename_i h3
            rw [if_neg h3]
            have hm := fmt_mod o f r.fd
            have hE : fitsE f r.fd = 0 := by simpa using h2
            have hl : (fmt o f r.fd).length ≤ 65536 := by simp at h3; omega
            have hio := isOrd_of ho
            obtain ⟨q0, q1, hq⟩ := enc2x o (r.Q % 65536)
            obtain ⟨w0, w1, w2, w3, hw⟩ := enc4x o (((fmt o f r.fd).length / 4 + 2 : Nat) : Int)
            have d2 := dec_enc hio (s := 2) (by unfold isSize; omega) (r.Q % 65536)
            have d4 := dec_enc hio (s := 4) (by unfold isSize; omega) (((fmt o f r.fd).length / 4 + 2 : Nat) : Int)
            rw [show wid 2 = 2 from rfl, hq] at d2
            rw [show wid 4 = 4 from rfl, hw] at d4
            obtain ⟨K, hK⟩ := Int.eq_ofNat_of_zero_le hk1
            obtain ⟨C, hC⟩ := Int.eq_ofNat_of_zero_le (show 0 ≤ r.C by omega)
            refine ⟨f, byteAt r.K 0, byteAt r.C 0, q0, q1, w0, w1, w2, w3, fmt o f r.fd, ho, rfl, ?_, ?_, ?_, hq.symm, ?_, ?_, hw.symm, hm, hl, rfl, hE, by omega, by omega⟩
            · rw [thd, enc_1, enc_1, hq, hw]; rfl
            · rw [hK, byteAt_of]; omega
            · rw [hC, byteAt_of]; omega
            · rw [d2]; omega
            · omega
  · exact absurd h (by decide)
theorem tellS_none {o : Int} {r : Ot} (h : ¬ (tellS o r).2 = 0) : (tellS o r).1 = [] := by
  unfold tellS at h ⊢
  split at h
  · rename_i ho
    rw [if_pos ho]
    cases hf : mForm r.K r.C with
    | none => rw [tellP_none hf]
    | some f =>
      rw [tellP_some hf] at h ⊢
      unfold tellQ at h ⊢
      split at h
      · rename_i h1
        rw [if_pos h1]
      · rename_i h1
        rw [if_neg h1]
        split at h
        · rename_i h2
          rw [if_pos h2]
        · rename_i h2
          rw [if_neg h2]
          split at h
          · rename_i h3
            rw [if_pos h3]
          · exact absurd rfl h
  · rename_i ho
    rw [if_neg ho]
/-- What is told of bytes that have a message's head. -/
theorem tlenR_head {o : Int} (ho : isOrd o = true) {c0 c1 q0 q1 w0 w1 w2 w3 : UInt8} {Y : List UInt8} {f : Fm} (hf : mForm (c0.toNat : Int) (c1.toNat : Int) = some f) {n : Nat} (hw : decU o [w0, w1, w2, w3] = n) (h0 : 2 ≤ n) (h1 : n ≤ 16386) :
    tlenR o (c0 :: c1 :: q0 :: q1 :: w0 :: w1 :: w2 :: w3 :: Y) = (((4 * n : Nat) : Int), 0) := by
  have ht : tform (c0 :: c1 :: q0 :: q1 :: w0 :: w1 :: w2 :: w3 :: Y) = some f := hf
  have hwd : words o (c0 :: c1 :: q0 :: q1 :: w0 :: w1 :: w2 :: w3 :: Y) = n := hw
  rw [tlenR_some ho (by simp) ht, hwd, tlenW, if_neg (by omega), if_neg (by omega)]
theorem tellG_head {o : Int} (ho : isOrd o = true) {c0 c1 q0 q1 w0 w1 w2 w3 : UInt8} {Y : List UInt8} {f : Fm} (hf : mForm (c0.toNat : Int) (c1.toNat : Int) = some f) {n : Nat} (hw : decU o [w0, w1, w2, w3] = n + 2) (h1 : n + 2 ≤ 16386) :
    tellG o (c0 :: c1 :: q0 :: q1 :: w0 :: w1 :: w2 :: w3 :: Y) = if Y.length < 4 * n then (ot0, 0, 3) else if (getF o f (Y.take (4 * n))).2 = 0 then
      (⟨(c0.toNat : Int), (c1.toNat : Int), (decU o [q0, q1] : Int), (getF o f (Y.take (4 * n))).1.N, (getF o f (Y.take (4 * n))).1.B, (getF o f (Y.take (4 * n))).1.L⟩, ((4 * (n + 2) : Nat) : Int), 0)
      else (ot0, 0, (getF o f (Y.take (4 * n))).2) := by
  have hL := tlenR_head (q0 := q0) (q1 := q1) (Y := Y) ho hf hw (by omega) h1
  have ht : tform (c0 :: c1 :: q0 :: q1 :: w0 :: w1 :: w2 :: w3 :: Y) = some f := hf
  rw [tellG, hL, if_pos rfl, ht]
  simp only [Int.toNat_natCast]
  have htk : (List.take (4 * (n + 2)) (c0 :: c1 :: q0 :: q1 :: w0 :: w1 :: w2 :: w3 :: Y)).drop 8 = Y.take (4 * n) := by
    rw [show 4 * (n + 2) = 4 * n + 8 by omega]; rfl
  rw [htk]
  by_cases h : Y.length < 4 * n
  · rw [if_pos h, if_pos (by simp only [List.length_cons]; omega)]
  · rw [if_neg h, if_neg (by simp only [List.length_cons]; omega)]
    rfl
/-- What is said is got. -/
theorem tell_put_get {o : Int} {r : Ot} (h : (tellS o r).2 = 0) (s : List UInt8) : tellG o ((tellS o r).1 ++ s) = (⟨r.K, r.C, r.Q % 65536, r.N, r.B, r.L⟩, ((tellS o r).1.length : Int), 0) := by
  obtain ⟨f, c0, c1, q0, q1, w0, w1, w2, w3, X, ho, hf, hs, hk, hc, -, hq, hw, -, hm, hl, hX, hE, -, -⟩ := tellS_shape h
  obtain ⟨hok, -⟩ := mForm_some hf
  rw [hs]
  have hg := getF_fmt (isOrd_of ho) hok hE (by rw [← hX]; exact hl)
  rw [← hX] at hg
  have ht : (X ++ s).take (4 * (X.length / 4)) = X := List.take_left' (by omega)
  show tellG o (c0 :: c1 :: q0 :: q1 :: w0 :: w1 :: w2 :: w3 :: (X ++ s)) = _
  rw [tellG_head (f := f) (n := X.length / 4) ho (by rw [hk, hc]; exact hf) hw (by omega), if_neg (by simp only [List.length_append]; omega), ht, hg, if_pos rfl, hk, hc, hq]
  have hlen : ((4 * (X.length / 4 + 2) : Nat) : Int) = ((c0 :: c1 :: q0 :: q1 :: w0 :: w1 :: w2 :: w3 :: X).length : Int) := by simp only [List.length_cons]; omega
  rw [hlen]
  rfl
/-- Cut: too short. -/
theorem tell_cut {o : Int} {r : Ot} (h : (tellS o r).2 = 0) {k : Nat} (hk : k < (tellS o r).1.length) : tellG o ((tellS o r).1.take k) = (ot0, 0, 3) := by
  obtain ⟨f, c0, c1, q0, q1, w0, w1, w2, w3, X, ho, hf, hs, hk', hc, -, hq, hw, -, hm, hl, hX, hE, -, -⟩ := tellS_shape h
  rw [hs] at hk ⊢
  rcases Nat.lt_or_ge k 8 with h8 | h8
  · have hL : tlenR o ((c0 :: c1 :: q0 :: q1 :: w0 :: w1 :: w2 :: w3 :: X).take k) = (0, 3) := by
      rw [tlenR, if_pos ho, if_pos (by simp only [List.length_take]; omega)]
    rw [tellG, hL, if_neg (by decide)]
  · obtain ⟨k, rfl⟩ := Nat.exists_eq_add_of_le' h8
    show tellG o (c0 :: c1 :: q0 :: q1 :: w0 :: w1 :: w2 :: w3 :: X.take k) = _
    rw [tellG_head (f := f) (n := X.length / 4) ho (by rw [hk', hc]; exact hf) hw (by omega), if_pos (by simp only [List.length_cons] at hk; simp only [List.length_take]; omega)]
theorem tell_len {o : Int} {r : Ot} (h : (tellS o r).2 = 0) : 8 ≤ (tellS o r).1.length ∧ (tellS o r).1.length % 4 = 0 ∧ (tellS o r).1.length ≤ 65544 ∧ tlenR o ((tellS o r).1.take 8) = (((tellS o r).1.length : Int), 0) := by
  obtain ⟨f, c0, c1, q0, q1, w0, w1, w2, w3, X, ho, hf, hs, hk', hc, -, hq, hw, -, hm, hl, hX, hE, -, -⟩ := tellS_shape h
  rw [hs]
  refine ⟨by simp only [List.length_cons]; omega, by simp only [List.length_cons]; omega, by simp only [List.length_cons]; omega, ?_⟩
  show tlenR o (c0 :: c1 :: q0 :: q1 :: w0 :: w1 :: w2 :: w3 :: X.take 0) = _
  rw [tlenR_head (f := f) ho (by rw [hk', hc]; exact hf) hw (by omega) (by omega)]
  congr 1
  simp only [List.length_cons]; omega
theorem tellG_wrong {o : Int} {s : List UInt8} (h : ¬ (tellG o s).2.2 = 0) : (tellG o s).1 = ot0 ∧ (tellG o s).2.1 = 0 := by
  unfold tellG at h ⊢
  split at h
  · rename_i h1
    rw [if_pos h1]
    split at h
    · rename_i h2
      rw [if_pos h2]
      exact ⟨rfl, rfl⟩
    · rename_i h2
      rw [if_neg h2]
      split at h
      · exact ⟨rfl, rfl⟩
      · split at h
        · exact absurd rfl h
        · rename_i h3
          rw [if_neg h3]
          exact ⟨rfl, rfl⟩
  · rename_i h1
    rw [if_neg h1]
    exact ⟨rfl, rfl⟩
/-- What is got has the bytes that it was got from. -/
theorem tell_get_put {o : Int} {s : List UInt8} (h : (tellG o s).2.2 = 0) : ∃ n : Nat, (tellG o s).2.1 = (n : Int) ∧ 8 ≤ n ∧ n ≤ s.length ∧ tellS o (tellG o s).1 = (s.take n, 0) ∧ (tellG o s).1.N.length ≤ 16 ∧ (tellG o s).1.B.length ≤ 65536 ∧ (tellG o s).1.L.length ≤ 65536 := by
  have h0 : (tlenR o s).2 = 0 := by
    by_cases h1 : (tlenR o s).2 = 0
    · exact h1
    · rw [tellG, if_neg h1] at h
      exact absurd h h1
  obtain ⟨ho, h8, ⟨f, hf⟩, hL, hn1, hn2⟩ := tlen_ok h0
  match s, h8 with
  | c0 :: c1 :: q0 :: q1 :: w0 :: w1 :: w2 :: w3 :: Y, _ =>
    obtain ⟨n, hn⟩ : ∃ n, words o (c0 :: c1 :: q0 :: q1 :: w0 :: w1 :: w2 :: w3 :: Y) = n + 2 := ⟨words o (c0 :: c1 :: q0 :: q1 :: w0 :: w1 :: w2 :: w3 :: Y) - 2, by omega⟩
    have hw : decU o [w0, w1, w2, w3] = n + 2 := hn
    have hf' : mForm (c0.toNat : Int) (c1.toNat : Int) = some f := hf
    have hio := isOrd_of ho
    obtain ⟨hok, -⟩ := mForm_some hf'
    rw [tellG_head ho hf' hw (by omega)] at h ⊢
    split at h
    · exact absurd h (by simp)
    · rename_i h1
      rw [if_neg h1]
      split at h
      · rename_i h2
        rw [if_pos h2]
        obtain ⟨g1, g2⟩ := getF_back hio hok h2
        have hp := fitsE_parts g2
        have hFl : (getF o f (Y.take (4 * n))).1 = (getF o f (Y.take (4 * n))).1 := rfl
        refine ⟨4 * (n + 2), rfl, by omega, by simp only [List.length_cons]; omega, ?_, by have := hp.n; have := hok.n; simp only; omega, hp.bl, hp.ll⟩
        have hfd : (⟨(c0.toNat : Int), (c1.toNat : Int), (decU o [q0, q1] : Int), (getF o f (Y.take (4 * n))).1.N, (getF o f (Y.take (4 * n))).1.B, (getF o f (Y.take (4 * n))).1.L⟩ : Ot).fd = (getF o f (Y.take (4 * n))).1 := rfl
        have hq := decU_lt o [q0, q1]
        simp only [List.length_cons, List.length_nil, Nat.reduceAdd, Nat.reducePow] at hq
        have hlen : (fmt o f (getF o f (Y.take (4 * n))).1).length = 4 * n := by rw [g1, List.length_take]; omega
        have e2 := enc_read hio (s := 2) (by unfold isSize; omega) (b := [q0, q1]) rfl
        have e4 := enc_read hio (s := 4) (by unfold isSize; omega) (b := [w0, w1, w2, w3]) rfl
        have r2 : readV o 2 [q0, q1] = (decU o [q0, q1] : Int) := by
          rw [readV, if_neg (by simp [high]; omega)]
        have r4 : readV o 4 [w0, w1, w2, w3] = ((n + 2 : Nat) : Int) := by
          rw [readV, if_neg (by simp [high]; omega), hw]
        rw [r2] at e2
        rw [r4] at e4
        rw [show wid 2 = 2 from rfl] at e2
        rw [show wid 4 = 4 from rfl] at e4
        have b0 : byteAt (c0.toNat : Int) 0 = c0 := byteAt_eq (by have := c0.toNat_lt; omega)
        have b1 : byteAt (c1.toNat : Int) 0 = c1 := byteAt_eq (by have := c1.toNat_lt; omega)
        rw [tellS, if_pos ho, tellP_some (f := f) hf', tellQ, hfd, if_neg (by simp only; omega), if_neg (by rw [g2]; decide), if_neg (by rw [hlen]; simp; omega), g1]
        have hl4 : (Y.take (4 * n)).length / 4 + 2 = n + 2 := by rw [List.length_take]; omega
        have hqm : (decU o [q0, q1] : Int) % 65536 = (decU o [q0, q1] : Int) := by omega
        simp only [hl4, hqm]
        rw [thd, enc_1, enc_1, b0, b1, e2, e4, show 4 * (n + 2) = 4 * n + 8 by omega]
        rfl
      · rename_i h2
        exact absurd h h2
end Go.Proofs.Sh

/- glaziertop: the requests, and the example. -/
set_option maxRecDepth 100000
set_option linter.unusedSimpArgs false
set_option linter.unusedVariables false
namespace Go.Proofs.Sh
open Go.Pv

/-- What is said behind a request. -/
structure Sd where
  C : Nat
  A : Nat
  B : Nat
  F : Bool
  N : Int
  hC : C < 256
  hA : A < 256
  hB : B < 256
def Sd.pv (x : Sd) : PV := .agg [.int .u8 (x.C : Int), .int .u8 (x.A : Int), .int .u8 (x.B : Int), .bool x.F, .int .i16 x.N]
def sdL (X : List Sd) : List PV := X.map Sd.pv
theorem sdL_length (X : List Sd) : (sdL X).length = X.length := List.length_map _
def sd0 : Sd := ⟨0, 0, 0, false, 0, by decide, by decide, by decide⟩
theorem sd_at {X : List Sd} {i : Nat} (h : i < X.length) : (sdL X).getD i PV.any = (X.getD i sd0).pv := by
  rw [sdL, List.getD_eq_getElem?_getD, List.getElem?_map, List.getElem?_eq_getElem h, List.getD_eq_getElem?_getD, List.getElem?_eq_getElem h]; rfl
def ttl : List UInt8 := [116, 105, 116, 108, 101]
def bqN (n : Nat) : Rq := match n with | 0 => ⟨38, [], [], []⟩ | 1 => ⟨11, [1], ttl, []⟩ | 2 => ⟨51, [1], [], []⟩ | _ => ⟨58, [], [], []⟩
def bq (x : Sd) : Rq := bqN (x.C % 4)
theorem bq_put (o : Int) (ho : o = 0 ∨ o = 1) (x : Sd) : (packS o (bq x)).2 = 0 ∧ (packS o (bq x)).1.length ≤ 24 := by
  have h : ∀ n, n < 4 → (packS o (bqN n)).2 = 0 ∧ (packS o (bqN n)).1.length ≤ 24 := by
    intro n hn
    rcases ho with rfl | rfl <;> (match n, hn with
      | 0, _ => exact ⟨by kernel_rfl, by decide +kernel⟩
      | 1, _ => exact ⟨by kernel_rfl, by decide +kernel⟩
      | 2, _ => exact ⟨by kernel_rfl, by decide +kernel⟩
      | 3, _ => exact ⟨by kernel_rfl, by decide +kernel⟩)
  exact h _ (Nat.mod_lt _ (by decide))
theorem bq_few (x : Sd) : (bq x).Few := by
  unfold bq bqN
  split <;> exact ⟨by simp, by simp [ttl], by simp⟩
theorem backRequest_fs (x : Sd) : Fsp Tryd.prog 31 [] 0 [x.pv] [] 0 (bq x).pv := by
  obtain ⟨C, A, B, F, N, hC, hA, hB⟩ := x
  have hm : Int.tmod (C : Int) 4 = ((C % 4 : Nat) : Int) := by rw [Int.tmod_eq_emod_of_nonneg (by omega)]; omega
  have hw : IntKind.u8.wrap ((C % 4 : Nat) : Int) = ((C % 4 : Nat) : Int) := wrap_u8_id (by omega) (by omega)
  have h4 : C % 4 < 4 := Nat.mod_lt _ (by decide)
  unfold bq
  simp only
  generalize C % 4 = n at *
  match n, h4 with
  | 0, _ =>
    (refine Fsp.ofs (nx := 0) mixed Tryd.func31 rfl (by simp [Tryd.f31]) ?_; simp -implicitDefEqProofs only [push_cast, Tryd.f31, Sd.pv, hm, hw, seval])
    all_goals first | done | exact ⟨_, rfl, by simp [wkL, res2, res1, PV.weak, PV.el, bqN, Rq.pv, ints, ttl]⟩ | (simp [wkL, res2, res1, res3, PV.weak, PV.el, bqN, Rq.pv, ints, ttl]; done) | skip
  | 1, _ =>
    (refine Fsp.ofs (nx := 0) mixed Tryd.func31 rfl (by simp [Tryd.f31]) ?_; simp -implicitDefEqProofs only [push_cast, Tryd.f31, Sd.pv, hm, hw, seval])
    all_goals first | done | exact ⟨_, rfl, by simp [wkL, res2, res1, PV.weak, PV.el, bqN, Rq.pv, ints, ttl]⟩ | (simp [wkL, res2, res1, res3, PV.weak, PV.el, bqN, Rq.pv, ints, ttl]; done) | skip
  | 2, _ =>
    (refine Fsp.ofs (nx := 0) mixed Tryd.func31 rfl (by simp [Tryd.f31]) ?_; simp -implicitDefEqProofs only [push_cast, Tryd.f31, Sd.pv, hm, hw, seval])
    all_goals first | done | exact ⟨_, rfl, by simp [wkL, res2, res1, PV.weak, PV.el, bqN, Rq.pv, ints, ttl]⟩ | (simp [wkL, res2, res1, res3, PV.weak, PV.el, bqN, Rq.pv, ints, ttl]; done) | skip
  | 3, _ =>
    (refine Fsp.ofs (nx := 0) mixed Tryd.func31 rfl (by simp [Tryd.f31]) ?_; simp -implicitDefEqProofs only [push_cast, Tryd.f31, Sd.pv, hm, hw, seval])
    all_goals first | done | exact ⟨_, rfl, by simp [wkL, res2, res1, PV.weak, PV.el, bqN, Rq.pv, ints, ttl]⟩ | (simp [wkL, res2, res1, res3, PV.weak, PV.el, bqN, Rq.pv, ints, ttl]; done) | skip
theorem isOrd_01 {o : Int} (h : o = 0 ∨ o = 1) : isOrd o = true := by rcases h with rfl | rfl <;> rfl
/-- One request more, that may be asked. -/
theorem ask_one (s : Sb) (x : Sd) (ho : s.o = 0 ∨ s.o = 1) (hc : ¬ s.c = 0) (hl : s.out.length ≤ 60000) : askS s [bq x] = (asked s [bq x], 0) ∧ (asked s [bq x]).c = s.c ∧ (asked s [bq x]).d = s.d ∧ (asked s [bq x]).o = s.o ∧ (asked s [bq x]).l = s.l ∧ (asked s [bq x]).came = s.came ∧ (asked s [bq x]).n = s.n + 1 ∧
    (asked s [bq x]).q = (if (replyOf (bq x).C).isSome = true then s.q ++ [s.n + 1] else s.q) ∧ (asked s [bq x]).out.length ≤ s.out.length + 24 ∧ s.out <+: (asked s [bq x]).out := by
  obtain ⟨h1, h2⟩ := bq_put s.o ho x
  have hp : putAll s.o s.out [bq x] = (s.out ++ (packS s.o (bq x)).1, 0) := by
    show putI s.o (s.out, 0) (bq x) = _
    rw [putI, if_pos rfl, if_pos h1, if_neg (by simp only; omega)]
  have he : askE s [bq x] = 0 := by rw [askE, if_neg hc, hp]
  refine ⟨by rw [askS, if_pos he], rfl, rfl, rfl, rfl, rfl, rfl, ?_, ?_, ?_⟩
  · show (addAll (s.n, s.q, s.mm) [bq x]).2.1 = _
    show (addR (s.n, s.q, s.mm) (bq x)).2.1 = _
    unfold addR
    simp only
    split <;> rfl
  · show (putAll s.o s.out [bq x]).1.length ≤ _
    rw [hp, List.length_append]; omega
  · show s.out <+: (putAll s.o s.out [bq x]).1
    rw [hp]; exact List.prefix_append _ _
def baS : Sb := ⟨1, 1, false, 0, 0, 0, beg1, [], [], none⟩
def baO : List UInt8 := (askS baS [⟨38, [], [], []⟩]).1.out
def baT : Sb := ⟨1, 1, false, 1, 0, 0, baO, [], [1], some [(1, 38)]⟩
def baX : Ot := ⟨1, 38, 1, [1, 1], [], []⟩
def baB : List UInt8 := (tellS 1 baX).1
theorem ba_new : newS 1 1 = (baS, 0) := by rfl
theorem ba_ask : askS baS [⟨38, [], [], []⟩] = (baT, 0) := by kernel_rfl
theorem ba_tell : tellS 1 baX = (baB, 0) := by kernel_rfl
theorem ba_feed : feedS baT baB = ({ baT with l := 1, q := [], m := some [] }, [baX], 0) := by kernel_rfl
set_option maxHeartbeats 2000000 in
theorem backAwake_fs : Fsp Tryd.prog 30 [] 0 [] [] 0 (.bool true) := by
  have hn := new_fs 1 1
  rw [newR, ba_new] at hn
  have ha := ask_fs baS [⟨38, [], [], []⟩] ⟨by decide, by decide, by decide, by decide⟩ (by decide) (fun x hx => by
    obtain rfl := List.mem_singleton.1 hx; exact ⟨by decide, by decide, by decide⟩)
  rw [askR, ba_ask] at ha
  have hp := tellPut_fs 1 baX ⟨by decide, by decide, by decide⟩
  rw [tellR, ba_tell] at hp
  have hf := feed_fs baT baB (by decide) (by decide +kernel)
  rw [feedR, ba_feed] at hf
  have hw := waiting_fs { baT with l := 1, q := [], m := some [] } (by decide)
  have hs := sent_fs { baT with l := 1, q := [], m := some [] }
  simp only [Sb.pv, Sb.cs, Sb.mpv, baS, baT, baX, rqL, oL, List.map, Rq.pv, Ot.pv, ints, mkM] at ha hn hp hf hw hs
  have ha := ha.takes (qs := [.agg [.int .i64 1, .int .i64 1, .bool false, .int .i64 0, .int .i64 0, .int .i64 0, .str beg1, .str [], .sl 1 [], .nilm],
    .sl 4 [.agg [.int .i64 38, .nilsl, .str [], .nilsl]]]) rfl (fun i q p h1 h2 g v r => by
      rcases i with _ | _ | i
      · simp at h1 h2; subst h1; subst h2; exact r
      · simp at h1 h2; subst h1; subst h2
        refine Rel.nlRow ?_ ?_ ?_ r
        · rfl
        · simp [nlCs, nlC, PV.cells]
        · simp [PV.cells]
      · simp at h1)
  have hp := hp.nils (qs := [.int .i64 1, .agg [.int .i64 1, .int .i64 38, .int .i64 1, .sl 1 [.int .i64 1, .int .i64 1], .str [], .nilsl]]) ⟨nlV_same _, nlV_agg (by simp [nlCs, nlC]), trivial⟩
  (refine Fsp.ofs (nx := 0) mixed Tryd.func30 rfl (by simp [Tryd.f30]) ?_; simp -implicitDefEqProofs only [push_cast, Tryd.f30, seval])
  refine callE_p hn ?_
  simp -implicitDefEqProofs only [push_cast, seval]
  refine callE_p ha ?_
  simp -implicitDefEqProofs only [push_cast, seval]
  skip
  refine callE_p hp ?_
  simp -implicitDefEqProofs only [push_cast, seval]
  refine callE_p hf ?_
  simp -implicitDefEqProofs only [push_cast, seval]
  skip
  refine callE_p hw ?_
  simp -implicitDefEqProofs only [push_cast, seval]
  refine callE_p hs ?_
  simp -implicitDefEqProofs only [push_cast, seval]
  skip

end Go.Proofs.Sh

/- Package stub: messages one behind the other, fed. Plain. -/
set_option maxRecDepth 100000
set_option linter.unusedSimpArgs false
set_option linter.unusedVariables false
namespace Go.Proofs.Sh
open Go.Pv
def cat (o : Int) (M : List Ot) : List UInt8 := M.flatMap fun m => (tellS o m).1
def lowO (m : Ot) : Ot := { m with Q := m.Q % 65536 }
/-- What messages do, one by one. -/
def play : List Ot → Sb → Sb × List Ot × Int
  | [], T => ({ T with came := [] }, [], 0)
  | m :: M, T =>
    if mayB T (wideO T (lowO m)) = true then ((play M (mayS T (wideO T (lowO m)))).1, wideO T (lowO m) :: (play M (mayS T (wideO T (lowO m)))).2.1, (play M (mayS T (wideO T (lowO m)))).2.2)
    else (T, [], 9)
theorem whole_put {o : Int} {m : Ot} (h : (tellS o m).2 = 0) (r : List UInt8) : wholeS o ((tellS o m).1 ++ r) = true := by
  obtain ⟨h1, h2, h3, h4⟩ := tell_len h
  have e : (tellS o m).1 = (tellS o m).1.take 8 ++ (tellS o m).1.drop 8 := (List.take_append_drop ..).symm
  have h5 : tlenR o ((tellS o m).1 ++ r) = (((tellS o m).1.length : Int), 0) := by
    rw [← h4]
    conv => lhs; rw [e, List.append_assoc]
    exact tlenR_app (by rw [List.length_take]; omega)
  unfold wholeS
  rw [h5]
  simp only [Bool.and_eq_true, Bool.or_eq_true, Bool.not_eq_true', decide_eq_false_iff_not, bne_iff_ne, decide_eq_true_eq, List.length_append]
  exact ⟨by omega, .inr (by omega)⟩
theorem go_cat : ∀ (M : List Ot) (T : Sb) (k : Nat), (cat T.o M).length < k → (∀ m ∈ M, (tellS T.o m).2 = 0) → go k T (cat T.o M) = play M T := by
  intro M
  induction M with
  | nil =>
    intro T k hk _
    obtain ⟨k, rfl⟩ : ∃ j, k = j + 1 := ⟨k - 1, by omega⟩
    rw [play, show cat T.o [] = [] from rfl, go, if_neg]
    simp [wholeS]
  | cons m M ih =>
    intro T k hk hM
    obtain ⟨k, rfl⟩ : ∃ j, k = j + 1 := ⟨k - 1, by omega⟩
    have hm := hM m (List.mem_cons_self ..)
    have e : cat T.o (m :: M) = (tellS T.o m).1 ++ cat T.o M := rfl
    obtain ⟨h8, -⟩ := tell_len hm
    rw [e, List.length_append] at hk
    rw [e, go, if_pos (whole_put hm _), tell_put_get hm, if_pos rfl, play]
    have hd : List.drop ((tellS T.o m).1.length : Int).toNat ((tellS T.o m).1 ++ cat T.o M) = cat T.o M := List.drop_left ..
    simp only
    rw [hd]
    have hlo : (⟨m.K, m.C, m.Q % 65536, m.N, m.B, m.L⟩ : Ot) = lowO m := rfl
    rw [hlo]
    split
    · have ho := (mayS_q T (wideO T (lowO m))).2
      have := ih (mayS T (wideO T (lowO m))) k (by rw [ho]; omega) (fun x hx => by rw [ho]; exact hM x (List.mem_cons_of_mem _ hx))
      rw [ho] at this
      rw [this]
    · rfl
theorem feed_cat {s : Sb} (h : s.Live) (hc : s.came = []) (M : List Ot) (hM : ∀ m ∈ M, (tellS s.o m).2 = 0) : feedS s (cat s.o M) = if (play M s.own).2.2 = 0 then ((play M s.own).1, (play M s.own).2.1, 0) else feedF s (play M s.own).2.2 := by
  have e : s.own.o = s.o := rfl
  have := go_cat M s.own ((cat s.o M).length + 1) (by rw [e]; exact Nat.lt_succ_self _) (by rw [e]; exact hM)
  rw [e] at this
  rw [feedS_go h, hc, List.nil_append, this]
/-- So many messages come as they are, and leave this. -/
def Steps (T : Sb) (M : List Ot) (T' : Sb) : Prop := ∀ M2, play (M ++ M2) T = ((play M2 T').1, M ++ (play M2 T').2.1, (play M2 T').2.2)
theorem Steps.nil (T : Sb) : Steps T [] T := fun _ => rfl
theorem Steps.app {T T1 T2 : Sb} {M1 M2 : List Ot} (a : Steps T M1 T1) (b : Steps T1 M2 T2) : Steps T (M1 ++ M2) T2 := fun M => by
  rw [List.append_assoc, a, b, List.append_assoc]
theorem Steps.one {T : Sb} {m : Ot} (h1 : wideO T (lowO m) = m) (h2 : mayB T m = true) : Steps T [m] (mayS T m) := fun M => by
  show play (m :: M) T = _
  rw [play, h1, if_pos h2]
  rfl
theorem wide_low {T : Sb} {m : Ot} (h0 : 0 ≤ T.l) (h1 : T.l ≤ m.Q) (h2 : m.Q < T.l + 65536) (h3 : m.Q ≤ 1000000) : wideO T (lowO m) = m := by
  obtain ⟨K, C, Q, N, B, L⟩ := m
  simp only at h1 h2 h3
  unfold wideO lowO
  simp only [Ot.mk.injEq, true_and, and_true]
  rw [wideS, if_neg (by simp [wideB]; omega), wideN]
  split <;> omega
/-- Who waits, in order. -/
def rep (x : Sd) : Bool := (replyOf (bq x).C).isSome
def wf : Nat → List Sd → List Int
  | _, [] => []
  | b, x :: X => if rep x = true then ((b + 1 : Nat) : Int) :: wf (b + 1) X else wf (b + 1) X
theorem wf_gt : ∀ (X : List Sd) (b : Nat), ∀ a ∈ wf b X, (b : Int) < a
  | [], _, a, h => by cases h
  | x :: X, b, a, h => by
    rw [wf] at h
    split at h
    · rcases List.mem_cons.1 h with rfl | h
      · omega
      · have := wf_gt X (b + 1) a h; omega
    · have := wf_gt X (b + 1) a h; omega
theorem wf_sn : ∀ (X : List Sd) (b : Nat) (x : Sd), wf b (X ++ [x]) = wf b X ++ (if rep x = true then [((b + X.length + 1 : Nat) : Int)] else [])
  | [], b, x => by simp only [List.nil_append, wf, List.length_nil, Nat.add_zero]
  | y :: X, b, x => by
    have := wf_sn X (b + 1) x
    rw [List.cons_append, wf, wf, this, List.length_cons, show b + 1 + X.length + 1 = b + (X.length + 1) + 1 by omega]
    split
    · rw [List.cons_append]
    · rfl
theorem mgetI_del {m : List (Int × Int)} {k k' d : Int} (h : k' ≠ k) : mgetI (mdelI m k) k' d = mgetI m k' d := by
  induction m with
  | nil => rfl
  | cons x m ih =>
    unfold mdelI at ih ⊢
    rw [List.filter_cons]
    split
    · rw [mgetI, mgetI, ih]
    · rename_i hx
      have hx : k = x.1 := by simpa using hx
      rw [mgetI, if_neg (by rw [← hx]; exact h), ih]
theorem mgetI_set_same {m : List (Int × Int)} {k v d : Int} : mgetI (msetI m k v) k d = v := by rw [msetI, mgetI, if_pos rfl]
theorem mgetI_set_ne {m : List (Int × Int)} {k k' v d : Int} (h : k' ≠ k) : mgetI (msetI m k v) k' d = mgetI m k' d := by
  rw [msetI, mgetI, if_neg h]
  exact mgetI_del h
/-- A stub that waits for just these. -/
structure Rdy (T : Sb) (b : Nat) (X : List Sd) : Prop where
  q : T.q = wf b X
  n : ((b + X.length : Nat) : Int) ≤ T.n
  l0 : 0 ≤ T.l
  l1 : T.l ≤ (b : Int) + 1
  l2 : ((b + X.length : Nat) : Int) < T.l + 65536
  hb : b + X.length ≤ 1000000
  m : ∀ (j : Nat) (x : Sd), X[j]? = some x → rep x = true → mgetI T.mm ((b + j + 1 : Nat) : Int) 0 = (bq x).C
theorem mayB_at {T : Sb} {m : Ot} (h1 : m.Q ≤ T.n) (h2 : ∀ a ∈ T.q, m.Q ≤ a) : mayB T m = if m.K = 1 then awd T m && mgetI T.mm m.Q 0 == m.C else if m.K = 0 then m.Q != 0 else true := by
  unfold mayB
  rw [if_neg (by simp; omega), if_neg]
  intro hcon
  cases hT : T.q with
  | nil => rw [hT] at hcon; cases hcon
  | cons a l =>
    rw [hT] at hcon
    have := h2 a (by rw [hT]; exact List.mem_cons_self ..)
    have hcon := of_decide_eq_true hcon
    omega
def ev (Q z : Int) : Ot := ⟨2, 12, Q, [z], [], []⟩
/-- An event leaves but its number. -/
theorem ev_step {T : Sb} {b : Nat} {x : Sd} {X : List Sd} (q : T.q = wf b (x :: X) ∨ T.q = wf (b + 1) X) (n : ((b + 1 : Nat) : Int) ≤ T.n) (l0 : 0 ≤ T.l) (l1 : T.l ≤ (b : Int) + 1) (l2 : ((b + 1 : Nat) : Int) < T.l + 65536) (hb : b + 1 ≤ 1000000) (m : Ot) (hk : m.K = 2) (hq : m.Q = ((b + 1 : Nat) : Int)) :
    Steps T [m] { T with l := ((b + 1 : Nat) : Int) } := by
  have hw : wideO T (lowO m) = m := wide_low l0 (by omega) (by omega) (by omega)
  have hge : ∀ a ∈ T.q, m.Q ≤ a := by
    rw [hq]
    rcases q with q | q <;> rw [q] <;> intro a ha
    · have := wf_gt _ _ a ha; omega
    · have := wf_gt _ _ a ha; omega
  have hm : mayB T m = true := by
    rw [mayB_at (by rw [hq]; exact n) hge, if_neg (by omega), if_neg (by omega)]
  have hs : mayS T m = { T with l := ((b + 1 : Nat) : Int) } := by
    unfold mayS
    rw [if_neg (by rw [hk]; simp), hq]
  rw [← hs]
  exact Steps.one hw hm
theorem evs_step {b : Nat} {x : Sd} {X : List Sd} : ∀ (M : List Ot) (T : Sb), (∀ m ∈ M, m.K = 2 ∧ m.Q = ((b + 1 : Nat) : Int)) → (T.q = wf b (x :: X) ∨ T.q = wf (b + 1) X) → ((b + 1 : Nat) : Int) ≤ T.n → 0 ≤ T.l → T.l ≤ (b : Int) + 1 → ((b + 1 : Nat) : Int) < T.l + 65536 → b + 1 ≤ 1000000 →
    ∃ l', T.l ≤ l' ∧ l' ≤ (b : Int) + 1 ∧ Steps T M { T with l := l' }
  | [], T, _, _, _, _, l1, _, _ => ⟨T.l, Int.le_refl _, l1, Steps.nil T⟩
  | m :: M, T, hM, q, n, l0, l1, l2, hb => by
    obtain ⟨hk, hq⟩ := hM m (List.mem_cons_self ..)
    have s1 := ev_step q n l0 l1 l2 hb m hk hq
    obtain ⟨l', e1, e2, s2⟩ := evs_step M { T with l := ((b + 1 : Nat) : Int) } (fun y hy => hM y (List.mem_cons_of_mem _ hy)) q n (by simp only; omega) (by simp only; omega) (by simp only; omega) hb
    refine ⟨l', by simp only at e1; omega, e2, ?_⟩
    exact Steps.app s1 s2
def evs (n : Nat) (Q : Int) (z : Nat → Int) : List Ot := (List.range n).map fun i => ev Q (z i)
theorem evs_mem {n : Nat} {Q : Int} {z : Nat → Int} : ∀ m ∈ evs n Q z, m.K = 2 ∧ m.Q = Q := by
  intro m hm
  obtain ⟨i, -, rfl⟩ := List.mem_map.1 hm
  exact ⟨rfl, rfl⟩
def ans (x : Sd) (Q : Int) : List Ot :=
  if x.F = true then [⟨0, 2, Q, [x.N, (bq x).C], [], []⟩]
  else match replyOf (bq x).C with
    | some f => [⟨1, (bq x).C, Q, List.replicate f.F.length 0, [], []⟩]
    | none => []
/-- What is said behind a request. -/
def said1 (z : Sd → Nat → Int) (x : Sd) (Q : Int) : List Ot := evs (x.A % 3) Q (z x) ++ ans x Q ++ evs (x.B % 3) Q (z x)
def saidL (z : Sd → Nat → Int) : Nat → List Sd → List Ot
  | _, [] => []
  | b, x :: X => said1 z x ((b + 1 : Nat) : Int) ++ saidL z (b + 1) X
theorem saidL_sn (z : Sd → Nat → Int) : ∀ (X : List Sd) (b : Nat) (x : Sd), saidL z b (X ++ [x]) = saidL z b X ++ said1 z x ((b + X.length + 1 : Nat) : Int)
  | [], b, x => by simp [saidL]
  | y :: X, b, x => by
    have := saidL_sn z X (b + 1) x
    rw [List.cons_append, saidL, saidL, this, List.length_cons, List.append_assoc, show b + 1 + X.length + 1 = b + (X.length + 1) + 1 by omega]
theorem ans_step {T : Sb} {b : Nat} {x : Sd} {X : List Sd} (h : Rdy T b (x :: X)) : ∃ T', Steps T (ans x ((b + 1 : Nat) : Int)) T' ∧ T'.q = wf (b + 1) X ∧ T'.n = T.n ∧ T.l ≤ T'.l ∧ T'.l ≤ (b : Int) + 1 ∧ ∀ k : Int, k ≠ ((b + 1 : Nat) : Int) → mgetI T'.mm k 0 = mgetI T.mm k 0 := by
  obtain ⟨hq, hn, l0, l1, l2, hb, hm⟩ := h
  rw [List.length_cons] at hn l2 hb
  have hg : ∀ a ∈ wf (b + 1) X, ((b + 1 : Nat) : Int) < a := fun a ha => wf_gt _ _ a ha
  -- who is awaited
  have haw : ∀ m : Ot, m.Q = ((b + 1 : Nat) : Int) → awd T m = rep x := by
    intro m hmq
    unfold awd
    rw [hq, wf]
    cases hr : rep x
    · simp only [Bool.false_eq_true, if_false]
      cases hT : wf (b + 1) X with
      | nil => rfl
      | cons a _ =>
        have := hg a (by rw [hT]; exact List.mem_cons_self ..)
        simp only [beq_eq_false_iff_ne]; omega
    · simp [hmq]
  have hge : ∀ a ∈ T.q, ((b + 1 : Nat) : Int) ≤ a := by
    rw [hq]; intro a ha
    have := wf_gt _ _ a ha; omega
  have hmm : ∀ k v : Int, k ≠ v → mgetI (mdelI T.mm v) k 0 = mgetI T.mm k 0 := fun k v hkv => mgetI_del hkv
  have hwl : ∀ m : Ot, m.Q = ((b + 1 : Nat) : Int) → wideO T (lowO m) = m := fun m hmq => wide_low l0 (by omega) (by omega) (by omega)
  have hqt : rep x = true → T.q.tail = wf (b + 1) X := fun hr => by rw [hq, wf, if_pos hr]; rfl
  have hqn : rep x = false → T.q = wf (b + 1) X := fun hr => by rw [hq, wf, if_neg (by rw [hr]; exact Bool.false_ne_true)]
  -- what a message of this number leaves
  have fin : ∀ m : Ot, m.Q = ((b + 1 : Nat) : Int) → (m.K = 0 ∨ m.K = 1) → mayB T m = true →
      ∃ T', Steps T [m] T' ∧ T'.q = wf (b + 1) X ∧ T'.n = T.n ∧ T.l ≤ T'.l ∧ T'.l ≤ (b : Int) + 1 ∧ ∀ k : Int, k ≠ ((b + 1 : Nat) : Int) → mgetI T'.mm k 0 = mgetI T.mm k 0 := by
    intro m hmq hmk hmb
    refine ⟨mayS T m, Steps.one (hwl m hmq) hmb, ?_⟩
    have hkk : (m.K == 1 || m.K == 0) = true := by rcases hmk with h | h <;> rw [h] <;> rfl
    unfold mayS
    rw [haw m hmq, hkk, Bool.and_true]
    cases hr : rep x
    · rw [if_neg Bool.false_ne_true]
      exact ⟨hqn hr, rfl, by simp only; omega, by simp only; omega, fun k _ => rfl⟩
    · rw [if_pos rfl]
      exact ⟨hqt hr, rfl, by simp only; omega, by simp only; omega, fun k hk => by
        show mgetI (mdelI T.mm m.Q) k 0 = _
        rw [hmq]; exact hmm k _ hk⟩
  unfold ans
  by_cases hF : x.F = true
  · rw [if_pos hF]
    refine fin _ rfl (.inl rfl) ?_
    rw [mayB_at (by simp only; omega) hge, if_neg (by simp), if_pos rfl]
    simp; omega
  · rw [if_neg hF]
    cases hrp : replyOf (bq x).C with
    | none =>
      have hr : rep x = false := by rw [rep, hrp]; rfl
      exact ⟨T, Steps.nil T, hqn hr, rfl, Int.le_refl _, l1, fun _ _ => rfl⟩
    | some f =>
      have hr : rep x = true := by rw [rep, hrp]; rfl
      refine fin _ rfl (.inr rfl) ?_
      rw [mayB_at (by simp only; omega) hge, if_pos rfl, haw _ rfl, hr, Bool.true_and]
      have := hm 0 x rfl hr
      simp only [Nat.add_zero] at this
      exact beq_iff_eq.2 this
theorem said_step (z : Sd → Nat → Int) : ∀ (X : List Sd) (b : Nat) (T : Sb), Rdy T b X → ∃ T', Steps T (saidL z b X) T' ∧ T'.q = [] ∧ T'.n = T.n
  | [], b, T, h => ⟨T, Steps.nil T, by rw [h.q]; rfl, rfl⟩
  | x :: X, b, T, h => by
    have hn := h.n
    have hb := h.hb
    have l2 := h.l2
    rw [List.length_cons] at hn hb l2
    obtain ⟨k1, e1, e2, s1⟩ := evs_step (x := x) (X := X) (evs (x.A % 3) ((b + 1 : Nat) : Int) (z x)) T evs_mem (.inl h.q) (by omega) h.l0 h.l1 (by omega) (by omega)
    have h1 : Rdy { T with l := k1 } b (x :: X) := ⟨h.q, h.n, by have := h.l0; simp only; omega, by simp only; omega, by rw [List.length_cons]; simp only; omega, h.hb, h.m⟩
    obtain ⟨T2, s2, q2, n2, a2, b2, m2⟩ := ans_step h1
    simp only at n2 a2
    have l0 := h.l0
    obtain ⟨k3, e3, e4, s3⟩ := evs_step (x := x) (X := X) (evs (x.B % 3) ((b + 1 : Nat) : Int) (z x)) T2 evs_mem (.inr q2) (by omega) (by omega) b2 (by omega) (by omega)
    have h3 : Rdy { T2 with l := k3 } (b + 1) X := ⟨q2, by simp only; omega, by simp only; omega, by simp only; omega, by simp only; omega, by omega, fun j y hy hr => by
      show mgetI T2.mm _ 0 = _
      rw [m2 _ (by omega)]
      have := h.m (j + 1) y (by simpa using hy) hr
      rw [show b + (j + 1) + 1 = b + 1 + j + 1 by omega] at this
      exact this⟩
    obtain ⟨T4, s4, q4, n4⟩ := said_step z X (b + 1) _ h3
    refine ⟨T4, ?_, q4, by rw [n4]; exact n2⟩
    exact Steps.app (Steps.app (Steps.app s1 s2) s3) s4
/-- All that is said comes as it was said. -/
theorem feed_said (z : Sd → Nat → Int) {s : Sb} (h : s.Live) (hc : s.came = []) {b : Nat} {X : List Sd} (hr : Rdy s b X) (hM : ∀ m ∈ saidL z b X, (tellS s.o m).2 = 0) : ∃ T, feedS s (cat s.o (saidL z b X)) = (T, saidL z b X, 0) ∧ T.q = [] ∧ T.n = s.n := by
  have hr' : Rdy s.own b X := ⟨hr.q, hr.n, hr.l0, hr.l1, hr.l2, hr.hb, hr.m⟩
  obtain ⟨T', s1, q1, n1⟩ := said_step z X b s.own hr'
  have := s1 []
  rw [List.append_nil, play] at this
  simp only [List.append_nil] at this
  rw [feed_cat h hc _ hM, this, if_pos rfl]
  exact ⟨_, rfl, q1, n1⟩
end Go.Proofs.Sh

/- The document's model of the stub. -/
set_option maxRecDepth 100000
set_option linter.unusedSimpArgs false
set_option linter.unusedVariables false
namespace Go.Proofs.Sh
open Go.Pv

def bL (l : List Bool) : List PV := l.map .bool
theorem bL_length (l : List Bool) : (bL l).length = l.length := List.length_map _
theorem bL_at {l : List Bool} {i : Nat} (h : i < l.length) : (bL l).getD i PV.any = .bool (l.getD i false) := by
  rw [bL, List.getD_eq_getElem?_getD, List.getElem?_map, List.getElem?_eq_getElem h, List.getD_eq_getElem?_getD, List.getElem?_eq_getElem h]; rfl
theorem bL_sn (l : List Bool) (b : Bool) : bL l ++ [.bool b] = bL (l ++ [b]) := by simp [bL]
theorem ints_sn (l : List Int) (a : Int) : ints l ++ [.int .i64 a] = ints (l ++ [a]) := by simp [ints]
theorem ii_at {l : List Int} {i : Nat} (h : i < l.length) : (ints l).getD i PV.any = .int .i64 (l.getD i 0) := by
  rw [ints, List.getD_eq_getElem?_getD, List.getElem?_map, List.getElem?_eq_getElem h, List.getD_eq_getElem?_getD, List.getElem?_eq_getElem h]; rfl
/-- The document's model. -/
structure Md where
  C : List Int
  R : List Bool
  D : List Bool
  l : Int
def Md.cs (m : Md) : List PV := [.sl 1 (ints m.C), .sl 1 (bL m.R), .sl 1 (bL m.D), .int .i64 m.l]
def Md.pv (m : Md) : PV := .agg m.cs
structure Md.Ok (m : Md) : Prop where
  r : m.R.length = m.C.length
  d : m.D.length = m.C.length
  n : m.C.length ≤ 1000000
/-- Who waits: number k + 1. -/
def Md.wt (m : Md) (k : Nat) : Bool := m.R.getD k false && !m.D.getD k false
def Md.waits (m : Md) (n : Int) : Bool := decide (1 ≤ n) && (decide (n ≤ m.C.length) && m.wt (n - 1).toNat)
set_option maxHeartbeats 2000000 in
theorem refWaits_fs (m : Md) (ho : m.Ok) (n : Int) (hn : -1000000000000 ≤ n ∧ n ≤ 1000000000000) : Fsp Tryd.prog 54 [] 0 [m.pv, .int .i64 n] [] 0 (.bool (m.waits n)) := by
  obtain ⟨h1, h2, h3⟩ := ho
  have hw : IntKind.i64.wrap (n - 1) = n - 1 := wrap_i64_id (by omega) (by omega)
  unfold Md.waits
  cases k1 : decide (1 ≤ n)
  · (refine Fsp.ofs (nx := 0) mixed Tryd.func54 rfl (by simp [Tryd.f54]) ?_; simp -implicitDefEqProofs only [push_cast, Tryd.f54, Md.pv, Md.cs, k1, ints_length, bL_length, seval])
    all_goals first | done | omega | rfl | exact ⟨_, rfl, by simp [wkL, res2, res1, PV.weak, PV.el]⟩
  · have hn1 : 1 ≤ n := by simpa using k1
    cases k2 : decide (n ≤ (m.C.length : Int))
    · (refine Fsp.ofs (nx := 0) mixed Tryd.func54 rfl (by simp [Tryd.f54]) ?_; simp -implicitDefEqProofs only [push_cast, Tryd.f54, Md.pv, Md.cs, k1, k2, ints_length, bL_length, seval])
      all_goals first | done | omega | rfl | exact ⟨_, rfl, by simp [wkL, res2, res1, PV.weak, PV.el]⟩
    · have hn2 : n ≤ m.C.length := by simpa using k2
      obtain ⟨k, hk⟩ : ∃ k : Nat, n - 1 = (k : Int) := ⟨(n - 1).toNat, by omega⟩
      rw [hk] at hw ⊢
      have hkn : ((k : Nat) : Int).toNat = k := rfl
      have r1 := bL_at (l := m.R) (i := k) (by omega)
      have r2 := bL_at (l := m.D) (i := k) (by omega)
      rw [hkn, Md.wt]
      generalize m.R.getD k false = b1 at *
      generalize m.D.getD k false = b2 at *
      cases b1
      · (refine Fsp.ofs (nx := 0) mixed Tryd.func54 rfl (by simp [Tryd.f54]) ?_; simp -implicitDefEqProofs only [push_cast, Tryd.f54, Md.pv, Md.cs, k1, k2, hk, hw, r1, ints_length, bL_length, seval])
        (repeat (first | refine ⟨(by omega : _ ≤ _), ?_⟩ | refine ⟨(by omega : _ < _), ?_⟩ | refine ⟨by (unfold drawOk; kernel_rfl), ?_⟩))
        all_goals first | done | omega | rfl | exact ⟨_, rfl, by simp [wkL, res2, res1, PV.weak, PV.el]⟩
      · (refine Fsp.ofs (nx := 0) mixed Tryd.func54 rfl (by simp [Tryd.f54]) ?_; simp -implicitDefEqProofs only [push_cast, Tryd.f54, Md.pv, Md.cs, k1, k2, hk, hw, r1, r2, ints_length, bL_length, seval])
        (repeat (first | refine ⟨(by omega : _ ≤ _), ?_⟩ | refine ⟨(by omega : _ < _), ?_⟩ | refine ⟨by (unfold drawOk; kernel_rfl), ?_⟩))
        all_goals first | done | omega | rfl | exact ⟨_, rfl, by simp [wkL, res2, res1, PV.weak, PV.el]⟩
def Md.ask (m : Md) (c : Int) (r : Bool) : Md := ⟨m.C ++ [c], m.R ++ [r], m.D ++ [false], m.l⟩
set_option maxHeartbeats 2000000 in
theorem refAsk_fs (m : Md) (ho : m.Ok) (c : Int) (r : Bool) : Fsp Tryd.prog 53 [] 0 [m.pv, .int .i64 c, .bool r] [] 0 (m.ask c r).pv := by
  obtain ⟨h1, h2, h3⟩ := ho
  (refine Fsp.ofs (nx := 0) mixed Tryd.func53 rfl (by simp [Tryd.f53]) ?_; simp -implicitDefEqProofs only [push_cast, Tryd.f53, Md.pv, Md.cs, seval])
  refine callE_bs ?_
  simp -implicitDefEqProofs only [push_cast, ints_length, seval]
  (repeat (first | refine ⟨(by omega : _ ≤ _), ?_⟩ | refine ⟨(by omega : _ < _), ?_⟩ | refine ⟨by (unfold drawOk; kernel_rfl), ?_⟩))
  skip
  refine callE_bs ?_
  simp -implicitDefEqProofs only [push_cast, bL_length, seval]
  (repeat (first | refine ⟨(by omega : _ ≤ _), ?_⟩ | refine ⟨(by omega : _ < _), ?_⟩ | refine ⟨by (unfold drawOk; kernel_rfl), ?_⟩))
  skip
  refine callE_bs ?_
  simp -implicitDefEqProofs only [push_cast, bL_length, seval]
  (repeat (first | refine ⟨(by omega : _ ≤ _), ?_⟩ | refine ⟨(by omega : _ < _), ?_⟩ | refine ⟨by (unfold drawOk; kernel_rfl), ?_⟩))
  skip
  refine .inr ⟨_, rfl, ?_⟩
  rw [ints_sn, bL_sn, bL_sn]
  simp [wkL, res1, PV.weak, Md.ask]
def Md.wl (m : Md) (i : Nat) : List Int := ((List.range i).filter fun k => m.wt k).map fun (k : Nat) => (k : Int) + 1
theorem wl_length (m : Md) (i : Nat) : (m.wl i).length ≤ i := by
  unfold Md.wl
  rw [List.length_map]
  exact Nat.le_trans (List.length_filter_le ..) (by rw [List.length_range]; exact Nat.le_refl _)
theorem wl_sn (m : Md) (i : Nat) : m.wl (i + 1) = m.wl i ++ (if m.wt i = true then [(i : Int) + 1] else []) := by
  unfold Md.wl
  rw [List.range_succ, List.filter_append, List.map_append]
  congr 1
  rw [List.filter_cons]
  split <;> rfl
structure Wg (m : Md) where
  i : Nat
  h : i ≤ m.C.length
def Wg.st {m : Md} (a : Wg m) : PS := { n := 20, env := [(4, .int .i64 ((a.i : Int) + 1)), (3, .slt 1 (ints (m.wl a.i)) 50), (1, .box 0 0)], objs := [(0, some m.cs)], live := [(50, true)], nxt := 60 }
set_option maxHeartbeats 2000000 in
theorem refWaiting_fs (m : Md) (ho : m.Ok) : Fsp Tryd.prog 29 [] 0 [m.pv] [] 0 (.sl 1 (ints (m.wl m.C.length))) := by
  have ho' := ho
  obtain ⟨h1, h2, h3⟩ := ho'
  (refine Fsp.ofs (nx := 0) mixed Tryd.func29 rfl (by simp [Tryd.f29]) ?_; simp -implicitDefEqProofs only [push_cast, Tryd.f29, Md.pv, Md.cs, seval])
  refine loopC_of (α := Wg m) Wg.st (fun a => m.C.length - a.i) ⟨0, Nat.zero_le _⟩ ?_ ?_
  · skip
    (simp only [Wg.st, Md.cs]; exact Wk.at _ _ _ [(0, 0)] [] [50] (by simp) (by simp [wkV, PV.el, PV.weak, PS.get, PS.obj, PS.lv, lkp_hit, lkp_miss, lkp_nil, lko, Md.wl, ints, wkL, wkC, res1]) (by simp [PS.get, PS.obj, PS.lv, lkp_hit, lkp_miss, lkp_nil, lko, wkL, wkC, PV.weak, Md.wl, ints, wkL, wkC, res1]))
  · rintro ⟨i, hi⟩
    simp -implicitDefEqProofs only [push_cast, Wg.st, Md.cs, ints_length, seval]
    refine condC_split (fun g1 => ?_) (fun g1 => ?_)
    · have hlt : i < m.C.length := by simp at g1; omega
      have hw := refWaits_fs m ho ((i : Int) + 1) (by omega)
      have hwt : m.waits ((i : Int) + 1) = m.wt i := by
        unfold Md.waits
        rw [decide_eq_true (by omega), decide_eq_true (by omega), Bool.true_and, Bool.true_and, show ((i : Int) + 1 - 1).toNat = i by omega]
      rw [hwt] at hw
      simp only [Md.pv, Md.cs] at hw
      have hsn := wl_sn m i
      have hll := wl_length m i
      have wi : IntKind.i64.wrap ((i : Int) + 1 + 1) = (i : Int) + 1 + 1 := wrap_i64_id (by omega) (by omega)
      simp -implicitDefEqProofs only [push_cast, seval]
      refine callE_p hw ?_
      simp -implicitDefEqProofs only [push_cast, seval]
      skip
      refine condC_split (fun g2 => ?_) (fun g2 => ?_)
      · rw [if_pos g2] at hsn
        simp -implicitDefEqProofs only [push_cast, ints_length, ints_sn, wi, seval]
        (repeat (first | refine ⟨(by omega : _ ≤ _), ?_⟩ | refine ⟨(by omega : _ < _), ?_⟩ | refine ⟨by (unfold drawOk; kernel_rfl), ?_⟩))
        skip
        refine ⟨⟨i + 1, hlt⟩, Nat.sub_lt_sub_left hlt (Nat.lt_succ_self _), ?_⟩
        (simp only [Wg.st, Md.cs, hsn]; exact Wk.at _ _ _ [(0, 0)] [(50, 104)] [] (by simp) (by simp [wkV, PV.el, PV.weak, PS.get, PS.obj, PS.lv, lkp_hit, lkp_miss, lkp_nil, lko, wkL, wkC, res1]) (by simp [PS.get, PS.obj, PS.lv, lkp_hit, lkp_miss, lkp_nil, lko, wkL, wkC, PV.weak, wkL, wkC, res1]))
      · rw [if_neg (by rw [g2]; exact Bool.false_ne_true), List.append_nil] at hsn
        simp -implicitDefEqProofs only [push_cast, wi, seval]
        refine ⟨⟨i + 1, hlt⟩, Nat.sub_lt_sub_left hlt (Nat.lt_succ_self _), ?_⟩
        (simp only [Wg.st, Md.cs, hsn]; exact Wk.at _ _ _ [(0, 0)] [(50, 50)] [] (by simp) (by simp [wkV, PV.el, PV.weak, PS.get, PS.obj, PS.lv, lkp_hit, lkp_miss, lkp_nil, lko, wkL, wkC, res1]) (by simp [PS.get, PS.obj, PS.lv, lkp_hit, lkp_miss, lkp_nil, lko, wkL, wkC, PV.weak, wkL, wkC, res1]))
    · have hie : i = m.C.length := by simp at g1; omega
      subst hie
      simp -implicitDefEqProofs only [push_cast, seval]
      all_goals first | done | rfl | exact ⟨_, rfl, by simp [wkL, res2, res1, PV.weak, PV.el]⟩ | (simp [wkL, res2, res1, res3, PV.weak, PV.el]; done) | skip
def Md.early (m : Md) (n : Int) : Bool := (List.range (n - 1).toNat).any m.wt
/-- What may come: the number, widened, and whether. -/
def Md.may (m : Md) (K C low : Int) : Int × Bool :=
  if wideS m.l low < 0 ∨ (m.C.length : Int) < wideS m.l low then (0, false)
  else if m.early (wideS m.l low) = true then (0, false)
  else if K = 1 ∧ (m.waits (wideS m.l low) = false ∨ m.C.getD (wideS m.l low - 1).toNat 0 ≠ C) then (0, false)
  else if K = 0 ∧ wideS m.l low = 0 then (0, false)
  else (wideS m.l low, true)
structure Mw (m : Md) (n : Int) where
  i : Nat
  h : (i : Int) + 1 ≤ n ∨ i = 0
  k : (List.range i).any m.wt = false
def Mw.st (K C : Int) {m : Md} {n : Int} (a : Mw m n) : PS := { n := 58, env := [(11, .int .i64 ((a.i : Int) + 1)), (10, .int .i64 n), (2, .int .i64 C), (1, .int .i64 K), (4, .box 0 0)], objs := [(0, some m.cs)], live := [], nxt := 60 }
set_option maxHeartbeats 4000000 in
theorem refMay_fs (m : Md) (ho : m.Ok) (K C low : Int) : Fsp Tryd.prog 27 [] 0 [m.pv, .int .i64 K, .int .i64 C, .int .i64 low] [] 0 (.tup [.int .i64 (m.may K C low).1, .bool (m.may K C low).2]) := by
  have ho' := ho
  obtain ⟨h1, h2, h3⟩ := ho'
  have hwd := refWide_fs m.l low
  unfold Md.may
  generalize wideS m.l low = n at *
  cases k1 : decide (n < 0)
  · have hn0 : 0 ≤ n := by simp at k1; omega
    cases k2 : decide ((m.C.length : Int) < n)
    · have hn1 : n ≤ m.C.length := by simp at k2; omega
      rw [if_neg (by omega)]
      (refine Fsp.ofs (nx := 0) mixed Tryd.func27 rfl (by simp [Tryd.f27]) ?_; simp -implicitDefEqProofs only [push_cast, Tryd.f27, Md.pv, Md.cs, k1, k2, ints_length, seval])
      refine callE_p hwd ?_
      simp -implicitDefEqProofs only [push_cast, k1, k2, ints_length, seval]
      skip
      refine loopC_of (α := Mw m n) (Mw.st K C) (fun a => n.toNat - a.i) ⟨0, .inr rfl, rfl⟩ ?_ ?_
      · skip
        (simp only [Mw.st, Md.cs]; exact Wk.at _ _ _ [(0, 0)] [] [] (by simp) (by simp [wkV, PV.el, PV.weak, PS.get, PS.obj, PS.lv, lkp_hit, lkp_miss, lkp_nil, lko, wkL, wkC, res1]) (by simp [PS.get, PS.obj, PS.lv, lkp_hit, lkp_miss, lkp_nil, lko, wkL, wkC, PV.weak, wkL, wkC, res1]))
      · rintro ⟨i, hi, hk⟩
        simp -implicitDefEqProofs only [push_cast, Mw.st, Md.cs, ints_length, seval]
        refine condC_split (fun g1 => ?_) (fun g1 => ?_)
        · have hlt : (i : Int) + 1 < n := by simpa using g1
          have hw := refWaits_fs m ho ((i : Int) + 1) (by omega)
          have hwt : m.waits ((i : Int) + 1) = m.wt i := by
            unfold Md.waits
            rw [decide_eq_true (by omega), decide_eq_true (by omega), Bool.true_and, Bool.true_and, show ((i : Int) + 1 - 1).toNat = i by omega]
          rw [hwt] at hw
          simp only [Md.pv, Md.cs] at hw
          have wi : IntKind.i64.wrap ((i : Int) + 1 + 1) = (i : Int) + 1 + 1 := wrap_i64_id (by omega) (by omega)
          simp -implicitDefEqProofs only [push_cast, seval]
          refine callE_p hw ?_
          simp -implicitDefEqProofs only [push_cast, seval]
          refine condC_split (fun g2 => ?_) (fun g2 => ?_)
          · have he : m.early n = true := by
              unfold Md.early
              rw [List.any_eq_true]
              exact ⟨i, List.mem_range.2 (by omega), g2⟩
            rw [if_pos he]
            simp -implicitDefEqProofs only [push_cast, seval]
            all_goals first | done | rfl | exact ⟨_, rfl, by simp [wkL, res2, res1, PV.weak, PV.el]⟩ | (simp [wkL, res2, res1, res3, PV.weak, PV.el]; done) | skip
          · simp -implicitDefEqProofs only [push_cast, wi, seval]
            refine ⟨⟨i + 1, .inl (by omega), by rw [List.range_succ, List.any_append, hk, List.any_cons, g2]; rfl⟩, by simp only; omega, ?_⟩
            (simp only [Mw.st, Md.cs]; exact Wk.at _ _ _ [(0, 0)] [] [] (by simp) (by simp [wkV, PV.el, PV.weak, PS.get, PS.obj, PS.lv, lkp_hit, lkp_miss, lkp_nil, lko, wkL, wkC, res1]) (by simp [PS.get, PS.obj, PS.lv, lkp_hit, lkp_miss, lkp_nil, lko, wkL, wkC, PV.weak, wkL, wkC, res1]))
        · have hge : n ≤ (i : Int) + 1 := by simpa using g1
          have hee : m.early n = false := by
            unfold Md.early
            rcases hi with hi | hi
            · rw [show (n - 1).toNat = i by omega]; exact hk
            · rw [show (n - 1).toNat = 0 by omega]; rfl
          rw [if_neg (by rw [hee]; exact Bool.false_ne_true)]
          have hw := refWaits_fs m ho n (by omega)
          simp only [Md.pv, Md.cs] at hw
          cases k3 : (K == 1)
          · have hK1 : ¬ K = 1 := by simpa using k3
            rw [if_neg (fun h => hK1 h.1)]
            cases k4 : (K == 0)
            · have hK0 : ¬ K = 0 := by simpa using k4
              rw [if_neg (fun h => hK0 h.1)]
              simp -implicitDefEqProofs only [push_cast, k3, seval]
              refine callE_nop' (.bool false) ?_
              simp -implicitDefEqProofs only [push_cast, k3, k4, seval]
              skip
              all_goals first | done | rfl | exact ⟨_, rfl, by simp [wkL, res2, res1, PV.weak, PV.el]⟩ | (simp [wkL, res2, res1, res3, PV.weak, PV.el]; done) | skip
            · have hK0 : K = 0 := by simpa using k4
              simp -implicitDefEqProofs only [push_cast, k3, seval]
              refine callE_nop' (.bool false) ?_
              simp -implicitDefEqProofs only [push_cast, k3, k4, seval]
              cases k5 : (n == 0)
              · have hn5 : ¬ n = 0 := by simpa using k5
                rw [if_neg (fun h => hn5 h.2)]
                simp -implicitDefEqProofs only [push_cast, k5, seval]
                all_goals first | done | rfl | exact ⟨_, rfl, by simp [wkL, res2, res1, PV.weak, PV.el]⟩ | (simp [wkL, res2, res1, res3, PV.weak, PV.el]; done) | skip
              · have hn5 : n = 0 := by simpa using k5
                rw [if_pos ⟨hK0, hn5⟩]
                simp -implicitDefEqProofs only [push_cast, k5, seval]
                all_goals first | done | rfl | exact ⟨_, rfl, by simp [wkL, res2, res1, PV.weak, PV.el]⟩ | (simp [wkL, res2, res1, res3, PV.weak, PV.el]; done) | skip
          · have hK1 : K = 1 := by simpa using k3
            have hK0 : (K == 0) = false := by rw [hK1]; rfl
            cases hb : m.waits n
            · rw [hb] at hw
              rw [if_pos ⟨hK1, .inl rfl⟩]
              simp -implicitDefEqProofs only [push_cast, k3, seval]
              refine callE_p hw ?_
              simp -implicitDefEqProofs only [push_cast, k3, seval]
              skip
              all_goals first | done | rfl | exact ⟨_, rfl, by simp [wkL, res2, res1, PV.weak, PV.el]⟩ | (simp [wkL, res2, res1, res3, PV.weak, PV.el]; done) | skip
            · rw [hb] at hw
              have hn1 : 1 ≤ n := by
                unfold Md.waits at hb
                simp only [Bool.and_eq_true, decide_eq_true_eq] at hb
                exact hb.1
              obtain ⟨k, hkn⟩ : ∃ k : Nat, n - 1 = (k : Int) := ⟨(n - 1).toNat, by omega⟩
              have hwn : IntKind.i64.wrap (n - 1) = (k : Int) := by rw [wrap_i64_id (by omega) (by omega)]; exact hkn
              have hgc := ii_at (l := m.C) (i := k) (by omega)
              have hkt : (n - 1).toNat = k := by omega
              rw [hkt]
              cases k6 : (m.C.getD k 0 != C)
              · have hc6 : m.C.getD k 0 = C := by simpa using k6
                rw [if_neg (fun h => h.2.elim (fun e => by cases e) (fun e => e hc6)), if_neg (fun h => by omega)]
                simp -implicitDefEqProofs only [push_cast, k3, seval]
                refine callE_p hw ?_
                simp -implicitDefEqProofs only [push_cast, k3, hwn, hgc, k6, hK0, ints_length, seval]
                (repeat (first | refine ⟨(by omega : _ ≤ _), ?_⟩ | refine ⟨(by omega : _ < _), ?_⟩ | refine ⟨by (unfold drawOk; kernel_rfl), ?_⟩))
                skip
                all_goals first | done | rfl | exact ⟨_, rfl, by simp [wkL, res2, res1, PV.weak, PV.el]⟩ | (simp [wkL, res2, res1, res3, PV.weak, PV.el]; done) | skip
              · have hc6 : m.C.getD k 0 ≠ C := by simpa using k6
                rw [if_pos ⟨hK1, .inr hc6⟩]
                simp -implicitDefEqProofs only [push_cast, k3, seval]
                refine callE_p hw ?_
                simp -implicitDefEqProofs only [push_cast, k3, hwn, hgc, k6, hK0, ints_length, seval]
                (repeat (first | refine ⟨(by omega : _ ≤ _), ?_⟩ | refine ⟨(by omega : _ < _), ?_⟩ | refine ⟨by (unfold drawOk; kernel_rfl), ?_⟩))
                all_goals first | done | rfl | exact ⟨_, rfl, by simp [wkL, res2, res1, PV.weak, PV.el]⟩ | (simp [wkL, res2, res1, res3, PV.weak, PV.el]; done) | skip
    · rw [if_pos (.inr (by simpa using k2))]
      (refine Fsp.ofs (nx := 0) mixed Tryd.func27 rfl (by simp [Tryd.f27]) ?_; simp -implicitDefEqProofs only [push_cast, Tryd.f27, Md.pv, Md.cs, k1, k2, ints_length, seval])
      refine callE_p hwd ?_
      simp -implicitDefEqProofs only [push_cast, k1, k2, ints_length, seval]
      all_goals first | done | rfl | exact ⟨_, rfl, by simp [wkL, res2, res1, PV.weak, PV.el]⟩ | (simp [wkL, res2, res1, res3, PV.weak, PV.el]; done) | skip
  · rw [if_pos (.inl (by simpa using k1))]
    (refine Fsp.ofs (nx := 0) mixed Tryd.func27 rfl (by simp [Tryd.f27]) ?_; simp -implicitDefEqProofs only [push_cast, Tryd.f27, Md.pv, Md.cs, k1, ints_length, seval])
    refine callE_p hwd ?_
    simp -implicitDefEqProofs only [push_cast, k1, seval]
    all_goals first | done | rfl | exact ⟨_, rfl, by simp [wkL, res2, res1, PV.weak, PV.el]⟩ | (simp [wkL, res2, res1, res3, PV.weak, PV.el]; done) | skip
def Md.come (m : Md) (K n : Int) : Md := ⟨m.C, m.R, if K ≠ 2 then m.D.set (n - 1).toNat true else m.D, n⟩
theorem wkL_self {R : PV → PV → Prop} : ∀ (l : List PV), (∀ p ∈ l, R p p) → wkL R l l
  | [], _ => trivial
  | p :: l, h => ⟨h p (List.mem_cons_self ..), wkL_self l fun x hx => h x (List.mem_cons_of_mem _ hx)⟩
theorem bL_set (l : List Bool) (i : Nat) (b : Bool) : (bL l).set i (.bool b) = bL (l.set i b) := by simp [bL, List.map_set]
theorem bL_cells (l : List Bool) : (bL l).flatMap PV.cells = bL l := by
  unfold bL
  induction l with
  | nil => rfl
  | cons b l ih => rw [List.map_cons, List.flatMap_cons, ih]; rfl
set_option maxHeartbeats 4000000 in
theorem refCome_fs (m : Md) (ho : m.Ok) (hD : m.D ≠ []) (K n : Int) (hn : K = 2 ∨ (1 ≤ n ∧ n ≤ m.C.length)) : Fsp Tryd.prog 28 [] 0 [m.pv, .int .i64 K, .int .i64 n] [bL (m.come K n).D] 0 (.agg [.sl 1 (ints m.C), .sl 1 (bL m.R), .slb 0 0 m.D.length 1, .int .i64 n]) := by
  obtain ⟨h1, h2, h3⟩ := ho
  have hb0 : bL m.D ≠ [] := by
    intro h; apply hD
    have := congrArg List.length h
    rw [bL_length] at this
    exact List.eq_nil_of_length_eq_zero this
  have hsl : ∀ nid sz, sl0Dl nid sz (bL m.D) = { p := .slb nid 0 (bL m.D).length sz, wr := [(nid, some ((bL m.D).flatMap PV.cells))], ok := True } := fun _ _ => sl0Dl_ne hb0
  unfold Md.come
  cases k1 : (K != 2)
  · have hK : K = 2 := by simpa using k1
    rw [if_neg (by rw [hK]; simp)]
    (refine Fsp.ofs (nx := 0) mixed Tryd.func28 rfl (by simp [Tryd.f28]) ?_; simp -implicitDefEqProofs only [push_cast, Tryd.f28, Md.pv, Md.cs, seval])
    refine callE_sl0 (by rfl) tk_26 tsz_4 (by decide) (zs := [.bool false]) (by rfl) (by rfl) (by first | rfl | simp [gdOk]) ?_
    simp -implicitDefEqProofs only [push_cast, hsl, bL_length, bL_cells, seval]
    (repeat (first | refine ⟨(by omega : _ ≤ _), ?_⟩ | refine ⟨(by omega : _ < _), ?_⟩ | refine ⟨by (unfold drawOk; kernel_rfl), ?_⟩))
    skip
    simp -implicitDefEqProofs only [push_cast, k1, seval]
    skip
    exact endK_box [] [36] rfl rfl (by simp [PS.lv, lkp_hit, lkp_miss, lkp_nil]) rfl rfl (by rfl) (fun i j ps e1 e2 => by
      rcases i with _ | i
      · simp at e1 e2; subst e1; subst e2
        exact ⟨_, rfl, wkL_self _ fun p hp => by
          obtain ⟨b, -, rfl⟩ := List.mem_map.1 hp
          rfl⟩
      · simp at e1) ⟨by simp [resOk, PS.get, PS.obj, lkp_hit, lkp_miss, lkp_nil, PS.ev, ldPV, ldOk, ofC, ofC1, TK.isAgg, tk_67, tsz_67], by simp [resPV, PS.get, PS.obj, lkp_hit, lkp_miss, lkp_nil, PS.ev, ldPV, ldOk, ofC, ofC1, TK.isAgg, tk_67, tsz_67], by simp [resOf, resPV, one', idx, PV.un, PS.get, PS.obj, lkp_hit, lkp_miss, lkp_nil, PS.ev, ldPV, ldOk, ofC, ofC1, TK.isAgg, tk_67, tsz_67, res3, res2, wkL, res1, PV.weak, PV.el]⟩
  · have hK : ¬ K = 2 := by simpa using k1
    have hn1 := hn.resolve_left hK
    rw [if_pos hK]
    (refine Fsp.ofs (nx := 0) mixed Tryd.func28 rfl (by simp [Tryd.f28]) ?_; simp -implicitDefEqProofs only [push_cast, Tryd.f28, Md.pv, Md.cs, seval])
    refine callE_sl0 (by rfl) tk_26 tsz_4 (by decide) (zs := [.bool false]) (by rfl) (by rfl) (by first | rfl | simp [gdOk]) ?_
    simp -implicitDefEqProofs only [push_cast, hsl, bL_length, bL_cells, seval]
    (repeat (first | refine ⟨(by omega : _ ≤ _), ?_⟩ | refine ⟨(by omega : _ < _), ?_⟩ | refine ⟨by (unfold drawOk; kernel_rfl), ?_⟩))
    have hkn : IntKind.i64.wrap (n - 1) = ((n - 1).toNat : Int) := by rw [wrap_i64_id (by omega) (by omega)]; omega
    have hst : List.take (n - 1).toNat (bL m.D) ++ .bool true :: List.drop ((n - 1).toNat + 1) (bL m.D) = bL (m.D.set (n - 1).toNat true) := by
      rw [← bL_set, List.set_eq_take_append_cons_drop, if_pos (by rw [bL_length]; omega)]
    have hkl : (n - 1).toNat < m.D.length := by omega
    generalize (n - 1).toNat = k at *
    simp -implicitDefEqProofs only [push_cast, k1, seval]
    skip
    simp -implicitDefEqProofs only [push_cast, hkn, bL_length, hst, Nat.mul_one, seval]
    (repeat (first | refine ⟨(by omega : _ ≤ _), ?_⟩ | refine ⟨(by omega : _ < _), ?_⟩ | refine ⟨by (unfold drawOk; kernel_rfl), ?_⟩))
    skip
    exact endK_box [] [36] rfl rfl (by simp [PS.lv, lkp_hit, lkp_miss, lkp_nil]) rfl rfl (by rfl) (fun i j ps e1 e2 => by
      rcases i with _ | i
      · simp at e1 e2; subst e1; subst e2
        exact ⟨_, rfl, wkL_self _ fun p hp => by
          obtain ⟨b, -, rfl⟩ := List.mem_map.1 hp
          rfl⟩
      · simp at e1) ⟨by simp [resOk, PS.get, PS.obj, lkp_hit, lkp_miss, lkp_nil, PS.ev, ldPV, ldOk, ofC, ofC1, TK.isAgg, tk_67, tsz_67], by simp [resPV, PS.get, PS.obj, lkp_hit, lkp_miss, lkp_nil, PS.ev, ldPV, ldOk, ofC, ofC1, TK.isAgg, tk_67, tsz_67], by simp [resOf, resPV, one', idx, PV.un, PS.get, PS.obj, lkp_hit, lkp_miss, lkp_nil, PS.ev, ldPV, ldOk, ofC, ofC1, TK.isAgg, tk_67, tsz_67, res3, res2, wkL, res1, PV.weak, PV.el]⟩

end Go.Proofs.Sh

/- The law's own loops: asks, put. -/
set_option maxRecDepth 100000
set_option linter.unusedSimpArgs false
set_option linter.unusedVariables false
namespace Go.Proofs.Sh
open Go.Pv

theorem bL_nil : bL [] = [] := rfl
set_option maxHeartbeats 2000000 in
theorem refCome_nil (m : Md) (hD : m.D = []) (n : Int) : Fsp Tryd.prog 28 [] 0 [m.pv, .int .i64 2, .int .i64 n] [] 0 (m.come 2 n).pv := by
  have hd : (m.come 2 n).D = [] := by unfold Md.come; rw [if_neg (by simp)]; exact hD
  (refine Fsp.ofs (nx := 0) mixed Tryd.func28 rfl (by simp [Tryd.f28]) ?_; simp -implicitDefEqProofs only [push_cast, Tryd.f28, Md.pv, Md.cs, hD, bL_nil, seval])
  refine callE_sl0 (by rfl) tk_26 tsz_4 (by decide) (zs := [.bool false]) (by rfl) (by rfl) (by first | rfl | simp [gdOk]) ?_
  simp -implicitDefEqProofs only [push_cast, sl0Dl_nil, bL_nil, seval]
  (repeat (first | refine ⟨(by omega : _ ≤ _), ?_⟩ | refine ⟨(by omega : _ < _), ?_⟩ | refine ⟨by (unfold drawOk; kernel_rfl), ?_⟩))
  exact ⟨_, rfl, by simp [wkL, res2, res1, PV.weak, PV.el, Md.come, hD, bL_nil]⟩
/-- What the law's own loop makes of requests. -/
def asksM (o : Int) : Md → List Rq → Md × Bool
  | m, [] => (m, true)
  | m, x :: X => if (packS o x).2 = 0 then asksM o (m.ask x.C (replyOf x.C).isSome) X else (m, false)
theorem optT_is (o : Option Fm) : ∃ (F : List Int) (b : Bool) (l : Int), optT o = .tup [.agg [.sl 1 (ints F), .bool b, .int .i64 l], .bool o.isSome] := by
  cases o with
  | none => exact ⟨[], false, 0, rfl⟩
  | some f => exact ⟨f.F, f.B, f.L, rfl⟩
theorem ask_ok {m : Md} {c : Int} {r : Bool} (h : m.R.length = m.C.length ∧ m.D.length = m.C.length) : (m.ask c r).R.length = (m.ask c r).C.length ∧ (m.ask c r).D.length = (m.ask c r).C.length ∧ (m.ask c r).C.length = m.C.length + 1 := by
  simp [Md.ask, h.1, h.2]
structure Ms (o : Int) (m0 : Md) (X : List Rq) where
  i : Nat
  m : Md
  h : i ≤ X.length
  r : m.R.length = m.C.length
  d : m.D.length = m.C.length
  n : m.C.length = m0.C.length + i
  e : asksM o m0 X = asksM o m (X.drop i)
def Ms.st {o : Int} {m0 : Md} {X : List Rq} (a : Ms o m0 X) : PS := { n := 42, env := [(16, .int .i64 a.i), (15, .int .i64 X.length), (14, .sl 4 (rqL X)), (6, .box 1 0), (4, .box 0 0), (0, .int .i64 o)], objs := [(0, some a.m.cs), (1, some [.nilsl, .nilsl, .nilsl, .int .i64 0])], live := [], nxt := 60 }
set_option maxHeartbeats 4000000 in
theorem asks_fs (o : Int) (m : Md) (hr : m.R.length = m.C.length) (hd : m.D.length = m.C.length) (X : List Rq) (hn : m.C.length + X.length ≤ 1000000) (hX : ∀ x ∈ X, x.Few) : Fsp Tryd.prog 25 [] 0 [.int .i64 o, m.pv, .sl 4 (rqL X)] [] 0 (.tup [(asksM o m X).1.pv, .bool (asksM o m X).2]) := by
  (refine Fsp.ofs (nx := 0) mixed Tryd.func25 rfl (by simp [Tryd.f25]) ?_; simp -implicitDefEqProofs only [push_cast, Tryd.f25, Md.pv, Md.cs, rqL_length, seval])
  refine loopC_of (α := Ms o m X) Ms.st (fun a => X.length - a.i) ⟨0, m, Nat.zero_le _, hr, hd, rfl, rfl⟩ ?_ ?_
  · skip
    (simp only [Ms.st, Md.cs]; exact Wk.at _ _ _ [(0, 0), (1, 4)] [] [] (by simp) (by simp [wkV, PV.el, PV.weak, PS.get, PS.obj, PS.lv, lkp_hit, lkp_miss, lkp_nil, lko, rqL_length, wkL, wkC, res1]) (by simp [PS.get, PS.obj, PS.lv, lkp_hit, lkp_miss, lkp_nil, lko, wkL, wkC, PV.weak, rqL_length, wkL, wkC, res1]))
  · rintro ⟨i, m1, hi, h1, h2, h3, he⟩
    simp -implicitDefEqProofs only [push_cast, Ms.st, Md.cs, rqL_length, seval]
    refine condC_split (fun g1 => ?_) (fun g1 => ?_)
    · have hlt : i < X.length := by simp at g1; omega
      have hg := rq_at hlt
      have hxf := hX _ (getD_mem rq0 hlt)
      have hdr : X.drop i = X.getD i rq0 :: X.drop (i + 1) := by
        rw [List.drop_eq_getElem_cons hlt, List.getD_eq_getElem?_getD, List.getElem?_eq_getElem hlt]; rfl
      rw [hdr, asksM] at he
      generalize X.getD i rq0 = x at *
      have hp := packPut_fs o x hxf
      rw [packR] at hp
      have hrp := reply_fs x.C
      obtain ⟨pF, pb, pl, hp1⟩ := optT_is (replyOf x.C)
      rw [hp1] at hrp
      have hra := refAsk_fs m1 ⟨h1, h2, by omega⟩ x.C (replyOf x.C).isSome
      obtain ⟨z1, z2, z3⟩ := ask_ok (c := x.C) (r := (replyOf x.C).isSome) ⟨h1, h2⟩
      have wi : IntKind.i64.wrap ((i : Int) + 1) = (i : Int) + 1 := wrap_i64_id (by omega) (by omega)
      by_cases he0 : (packS o x).2 = 0
      · rw [if_pos he0] at he
        rw [he0] at hp
        generalize (packS o x).1 = pb1 at *
        generalize m1.ask x.C (replyOf x.C).isSome = m2 at *
        generalize (replyOf x.C).isSome = ri at *
        obtain ⟨xC, xN, xB, xL⟩ := x
        simp only [Rq.pv, Md.pv, Md.cs] at hg hp hrp hra
        simp -implicitDefEqProofs only [push_cast, hg, rqL_length, seval]
        (repeat (first | refine ⟨(by omega : _ ≤ _), ?_⟩ | refine ⟨(by omega : _ < _), ?_⟩ | refine ⟨by (unfold drawOk; kernel_rfl), ?_⟩))
        refine callE_p hp ?_
        simp -implicitDefEqProofs only [push_cast, seval]
        refine callE_p hrp ?_
        simp -implicitDefEqProofs only [push_cast, seval]
        refine callE_p hra ?_
        simp -implicitDefEqProofs only [push_cast, wi, seval]
        skip
        refine ⟨⟨i + 1, m2, hlt, z1, z2, by omega, he⟩, Nat.sub_lt_sub_left hlt (Nat.lt_succ_self _), ?_⟩
        (simp only [Ms.st, Md.cs]; exact Wk.at _ _ _ [(0, 0), (1, 1)] [] [] (by simp) (by simp [wkV, PV.el, PV.weak, PS.get, PS.obj, PS.lv, lkp_hit, lkp_miss, lkp_nil, lko, wkL, wkC, res1]) (by simp [PS.get, PS.obj, PS.lv, lkp_hit, lkp_miss, lkp_nil, lko, wkL, wkC, PV.weak, wkL, wkC, res1]))
      · rw [if_neg he0] at he
        have hne : ((packS o x).2 != 0) = true := by simpa using he0
        rw [he]
        generalize (packS o x).1 = pb1 at *
        generalize (packS o x).2 = pe at *
        obtain ⟨xC, xN, xB, xL⟩ := x
        simp only [Rq.pv] at hg hp
        simp -implicitDefEqProofs only [push_cast, hg, rqL_length, seval]
        (repeat (first | refine ⟨(by omega : _ ≤ _), ?_⟩ | refine ⟨(by omega : _ < _), ?_⟩ | refine ⟨by (unfold drawOk; kernel_rfl), ?_⟩))
        refine callE_p hp ?_
        simp -implicitDefEqProofs only [push_cast, hne, seval]
        skip
        all_goals first | done | rfl | exact ⟨_, rfl, by simp [wkL, res2, res1, PV.weak, PV.el, Md.pv, Md.cs]⟩ | (simp [wkL, res2, res1, res3, PV.weak, PV.el, Md.pv, Md.cs]; done) | exact ⟨_, rfl, by simp [wkL, res2, res1, PV.weak, PV.el, Md.pv, Md.cs]⟩ | skip
    · have hie : i = X.length := by simp at g1; omega
      subst hie
      rw [List.drop_length, asksM] at he
      rw [he]
      simp -implicitDefEqProofs only [push_cast, seval]
      all_goals first | done | rfl | exact ⟨_, rfl, by simp [wkL, res2, res1, PV.weak, PV.el, Md.pv, Md.cs]⟩ | (simp [wkL, res2, res1, res3, PV.weak, PV.el, Md.pv, Md.cs]; done) | exact ⟨_, rfl, by simp [wkL, res2, res1, PV.weak, PV.el, Md.pv, Md.cs]⟩ | skip
/-- What the law's own loop makes of messages. -/
def putM (o : Int) (M : List Ot) : List UInt8 × Bool := if M.all (fun m => (tellS o m).2 == 0) = true then (cat o M, true) else ([], false)
structure Mp (o : Int) (M : List Ot) where
  i : Nat
  h : i ≤ M.length
  k : (M.take i).all (fun m => (tellS o m).2 == 0) = true
def Mp.st {o : Int} {M : List Ot} (a : Mp o M) : PS := { n := 30, env := [(13, .int .i64 a.i), (12, .int .i64 M.length), (11, .sl 6 (oL M)), (6, .str (cat o (M.take a.i))), (0, .int .i64 o)], objs := [], live := [], nxt := 60 }
theorem cat_le {o : Int} : ∀ (M : List Ot), M.all (fun m => (tellS o m).2 == 0) = true → (cat o M).length ≤ 65544 * M.length
  | [], _ => by simp [cat]
  | m :: M, h => by
    rw [List.all_cons, Bool.and_eq_true] at h
    have h1 := tell_len (beq_iff_eq.1 h.1)
    have h2 := cat_le M h.2
    have e : cat o (m :: M) = (tellS o m).1 ++ cat o M := rfl
    rw [e, List.length_append, List.length_cons]; omega
set_option maxHeartbeats 4000000 in
theorem lawPut_fs (o : Int) (M : List Ot) (hl : M.length ≤ 1000000) (hM : ∀ m ∈ M, m.Few) : Fsp Tryd.prog 26 [] 0 [.int .i64 o, .sl 6 (oL M)] [] 0 (.tup [.str (putM o M).1, .bool (putM o M).2]) := by
  (refine Fsp.ofs (nx := 0) mixed Tryd.func26 rfl (by simp [Tryd.f26]) ?_; simp -implicitDefEqProofs only [push_cast, Tryd.f26, oL_length, seval])
  refine loopC_of (α := Mp o M) Mp.st (fun a => M.length - a.i) ⟨0, Nat.zero_le _, rfl⟩ ?_ ?_
  · skip
    (simp only [Mp.st, List.take_zero]; exact Wk.at _ _ _ [] [] [] (by simp) (by simp [wkV, PV.el, PV.weak, PS.get, PS.obj, PS.lv, lkp_hit, lkp_miss, lkp_nil, lko, oL_length, cat, wkL, wkC, res1]) (by simp [PS.get, PS.obj, PS.lv, lkp_hit, lkp_miss, lkp_nil, lko, wkL, wkC, PV.weak, oL_length, cat, wkL, wkC, res1]))
  · rintro ⟨i, hi, hk⟩
    simp -implicitDefEqProofs only [push_cast, Mp.st, oL_length, seval]
    refine condC_split (fun g1 => ?_) (fun g1 => ?_)
    · have hlt : i < M.length := by simp at g1; omega
      have hg := ot_at hlt
      have hyf := hM _ (getD_mem ot0' hlt)
      have hym := getD_mem ot0' hlt
      have htk : M.take (i + 1) = M.take i ++ [M.getD i ot0'] := by rw [List.take_add_one, List.getD_eq_getElem?_getD, List.getElem?_eq_getElem hlt]; rfl
      have hcs : cat o (M.take (i + 1)) = cat o (M.take i) ++ (tellS o (M.getD i ot0')).1 := by rw [htk]; simp [cat]
      have hc0 := cat_le _ hk
      rw [List.length_take] at hc0
      have hpt := tellPut_fs o (M.getD i ot0') hyf
      rw [tellR] at hpt
      have wi : IntKind.i64.wrap ((i : Int) + 1) = (i : Int) + 1 := wrap_i64_id (by omega) (by omega)
      generalize M.getD i ot0' = y at *
      by_cases he0 : (tellS o y).2 = 0
      · have hk2 : (M.take (i + 1)).all (fun m => (tellS o m).2 == 0) = true := by rw [htk, List.all_append, hk, List.all_cons, he0]; rfl
        have hyl := tell_len he0
        rw [he0] at hpt
        generalize (tellS o y).1 = bb at *
        obtain ⟨yK, yC, yQ, yN, yB, yL⟩ := y
        simp only [Ot.pv] at hpt hg
        simp -implicitDefEqProofs only [push_cast, hg, oL_length, seval]
        (repeat (first | refine ⟨(by omega : _ ≤ _), ?_⟩ | refine ⟨(by omega : _ < _), ?_⟩ | refine ⟨by (unfold drawOk; kernel_rfl), ?_⟩))
        refine callE_p hpt ?_
        simp -implicitDefEqProofs only [push_cast, wi, seval]
        (repeat (first | refine ⟨(by omega : _ ≤ _), ?_⟩ | refine ⟨(by omega : _ < _), ?_⟩ | refine ⟨by (unfold drawOk; kernel_rfl), ?_⟩))
        skip
        refine ⟨⟨i + 1, hlt, hk2⟩, Nat.sub_lt_sub_left hlt (Nat.lt_succ_self _), ?_⟩
        (simp only [Mp.st, hcs]; exact Wk.at _ _ _ [] [] [] (by simp) (by simp [wkV, PV.el, PV.weak, PS.get, PS.obj, PS.lv, lkp_hit, lkp_miss, lkp_nil, lko, wkL, wkC, res1]) (by simp [PS.get, PS.obj, PS.lv, lkp_hit, lkp_miss, lkp_nil, lko, wkL, wkC, PV.weak, wkL, wkC, res1]))
      · have hne : ((tellS o y).2 != 0) = true := by simpa using he0
        have hf : putM o M = ([], false) := by
          rw [putM, if_neg]
          intro h
          exact he0 (beq_iff_eq.1 (List.all_eq_true.1 h y hym))
        rw [hf]
        generalize (tellS o y).1 = bb at *
        generalize (tellS o y).2 = pe at *
        obtain ⟨yK, yC, yQ, yN, yB, yL⟩ := y
        simp only [Ot.pv] at hpt hg
        simp -implicitDefEqProofs only [push_cast, hg, oL_length, seval]
        (repeat (first | refine ⟨(by omega : _ ≤ _), ?_⟩ | refine ⟨(by omega : _ < _), ?_⟩ | refine ⟨by (unfold drawOk; kernel_rfl), ?_⟩))
        refine callE_p hpt ?_
        simp -implicitDefEqProofs only [push_cast, hne, seval]
        all_goals first | done | rfl | exact ⟨_, rfl, by simp [wkL, res2, res1, PV.weak, PV.el, Md.pv, Md.cs]⟩ | (simp [wkL, res2, res1, res3, PV.weak, PV.el, Md.pv, Md.cs]; done) | exact ⟨_, rfl, by simp [wkL, res2, res1, PV.weak, PV.el, Md.pv, Md.cs]⟩ | skip
    · have hie : i = M.length := by simp at g1; omega
      subst hie
      rw [List.take_length] at hk
      rw [putM, if_pos hk]
      simp -implicitDefEqProofs only [push_cast, List.take_length, seval]
      all_goals first | done | rfl | exact ⟨_, rfl, by simp [wkL, res2, res1, PV.weak, PV.el, Md.pv, Md.cs]⟩ | (simp [wkL, res2, res1, res3, PV.weak, PV.el, Md.pv, Md.cs]; done) | exact ⟨_, rfl, by simp [wkL, res2, res1, PV.weak, PV.el, Md.pv, Md.cs]⟩ | skip

end Go.Proofs.Sh

/- Package stub and the document's model of it agree. Plain. -/
set_option maxRecDepth 100000
set_option linter.unusedSimpArgs false
set_option linter.unusedVariables false
namespace Go.Proofs.Sh
open Go.Pv
def wlf (f : Nat → Bool) (i : Nat) : List Int := ((List.range i).filter f).map fun (k : Nat) => (k : Int) + 1
theorem wl_wlf (m : Md) (i : Nat) : m.wl i = wlf m.wt i := rfl
theorem wlf_sn (f : Nat → Bool) (i : Nat) : wlf f (i + 1) = wlf f i ++ (if f i = true then [(i : Int) + 1] else []) := by
  unfold wlf
  rw [List.range_succ, List.filter_append, List.map_append]
  congr 1
  rw [List.filter_cons]
  split <;> rfl
theorem wlf_congr {f g : Nat → Bool} : ∀ {i : Nat}, (∀ j, j < i → f j = g j) → wlf f i = wlf g i
  | 0, _ => rfl
  | i + 1, h => by rw [wlf_sn, wlf_sn, wlf_congr fun j hj => h j (by omega), h i (by omega)]
theorem wlf_none {f : Nat → Bool} : ∀ {i : Nat}, (∀ j, j < i → f j = false) → wlf f i = []
  | 0, _ => rfl
  | i + 1, h => by rw [wlf_sn, wlf_none fun j hj => h j (by omega), h i (by omega)]; rfl
theorem wlf_cases (f : Nat → Bool) : ∀ i : Nat, (wlf f i = [] ∧ ∀ j, j < i → f j = false) ∨ ∃ k l, k < i ∧ f k = true ∧ (∀ j, j < k → f j = false) ∧ wlf f i = ((k : Int) + 1) :: l
  | 0 => .inl ⟨rfl, fun j hj => by omega⟩
  | i + 1 => by
    rw [wlf_sn]
    rcases wlf_cases f i with ⟨h1, h2⟩ | ⟨k, l, h1, h2, h3, h4⟩
    · cases hf : f i
      · refine .inl ⟨by rw [h1]; rfl, fun j hj => ?_⟩
        by_cases e : j = i
        · rw [e]; exact hf
        · exact h2 j (by omega)
      · exact .inr ⟨i, [], by omega, hf, h2, by rw [h1]; rfl⟩
    · exact .inr ⟨k, _, by omega, h2, h3, by rw [h4]; rfl⟩
theorem wlf_del {f g : Nat → Bool} {k : Nat} (hk : f k = true) (h0 : ∀ j, j < k → f j = false) (hg : ∀ j, j ≠ k → g j = f j) (hgk : g k = false) : ∀ {i : Nat}, k < i → wlf f i = ((k : Int) + 1) :: wlf g i
  | 0, h => by omega
  | i + 1, h => by
    rw [wlf_sn, wlf_sn]
    by_cases e : k = i
    · subst e
      rw [wlf_none h0, wlf_none (fun j hj => by rw [hg j (by omega)]; exact h0 j hj), hk, hgk]
      rfl
    · rw [wlf_del hk h0 hg hgk (by omega : k < i), hg i (by omega)]
      rfl
/-- The stub and the model. -/
structure Corr (T : Sb) (m : Md) : Prop where
  r : m.R.length = m.C.length
  d : m.D.length = m.C.length
  n : T.n = (m.C.length : Int)
  q : T.q = m.wl m.C.length
  l : T.l = m.l
  l0 : 0 ≤ m.l
  l1 : m.l ≤ (m.C.length : Int)
  sz : m.C.length ≤ 1000000
  mm : ∀ k : Nat, k < m.C.length → m.wt k = true → mgetI T.mm ((k : Int) + 1) 0 = m.C.getD k 0
theorem early_head {m : Md} {n : Int} (hn : n ≤ (m.C.length : Int)) : (match m.wl m.C.length with | [] => false | a :: _ => decide (a < n)) = m.early n := by
  rw [wl_wlf]
  rcases wlf_cases m.wt m.C.length with ⟨h1, h2⟩ | ⟨k, l, h1, h2, h3, h4⟩
  · rw [h1]
    symm
    unfold Md.early
    rw [List.any_eq_false]
    intro j hj
    rw [h2 j (by have := List.mem_range.1 hj; omega)]
    exact Bool.false_ne_true
  · rw [h4]
    unfold Md.early
    by_cases hk : (k : Int) + 1 < n
    · rw [List.any_eq_true.2 ⟨k, List.mem_range.2 (by omega), h2⟩]
      exact decide_eq_true hk
    · rw [show (List.range (n - 1).toNat).any m.wt = false from List.any_eq_false.2 (fun j hj => by
        rw [h3 j (by have := List.mem_range.1 hj; omega)]; exact Bool.false_ne_true)]
      exact decide_eq_false hk
theorem awd_waits {m : Md} {n : Int} (hn : n ≤ (m.C.length : Int)) (he : m.early n = false) : (match m.wl m.C.length with | [] => false | a :: _ => a == n) = m.waits n := by
  have hb : ∀ j : Nat, (j : Int) + 1 < n → m.wt j = false := by
    intro j hj
    unfold Md.early at he
    rw [List.any_eq_false] at he
    have := he j (List.mem_range.2 (by omega))
    simpa using this
  rw [wl_wlf]
  unfold Md.waits
  by_cases h1n : 1 ≤ n
  · rw [decide_eq_true h1n, decide_eq_true hn, Bool.true_and, Bool.true_and]
    rcases wlf_cases m.wt m.C.length with ⟨h1, h2⟩ | ⟨k, l, h1, h2, h3, h4⟩
    · rw [h1, h2 _ (by omega)]
    · rw [h4]
      simp only
      by_cases e : (k : Int) + 1 = n
      · rw [show (n - 1).toNat = k by omega, h2]; exact beq_iff_eq.2 e
      · have hlt : ¬ (k : Int) + 1 < n := fun h => by rw [hb k h] at h2; cases h2
        rw [h3 _ (by omega)]
        exact beq_eq_false_iff_ne.2 e
  · rw [decide_eq_false h1n, Bool.false_and]
    rcases wlf_cases m.wt m.C.length with ⟨h1, h2⟩ | ⟨k, l, h1, h2, h3, h4⟩
    · rw [h1]
    · rw [h4]
      exact beq_eq_false_iff_ne.2 (by omega)
theorem come_wt {m : Md} {K n : Int} (hd : m.D.length = m.C.length) (h1 : 1 ≤ n) (hn : n ≤ (m.C.length : Int)) (hK : K ≠ 2) (j : Nat) : (m.come K n).wt j = (m.wt j && !decide (j = (n - 1).toNat)) := by
  unfold Md.come Md.wt
  simp only [if_pos hK]
  rw [List.getD_eq_getElem?_getD, List.getD_eq_getElem?_getD, List.getD_eq_getElem?_getD, List.getElem?_set]
  by_cases e : (n - 1).toNat = j
  · rw [if_pos e, if_pos (by omega), decide_eq_true e.symm]
    simp
  · rw [if_neg e, decide_eq_false (fun h => e h.symm)]
    simp
theorem wide_at {l w : Int} (h0 : 0 ≤ l) (h1 : l ≤ 1000000) (hw0 : 0 ≤ w) (hw1 : w ≤ 65535) : 0 ≤ wideS l w ∧ l ≤ wideS l w := by
  have hb : wideB l w = false := by
    unfold wideB
    rw [decide_eq_false (by omega), decide_eq_false (by omega), decide_eq_false (by omega), decide_eq_false (by omega)]
    rfl
  have := (wideN_at (wideB_f hb)).1
  rw [wideS, if_neg (by rw [hb]; exact Bool.false_ne_true)]
  omega
def hdLt (q : List Int) (n : Int) : Bool := match q with | [] => false | a :: _ => decide (a < n)
theorem mayB_hd (T : Sb) (y : Ot) : mayB T y = if decide (T.n < y.Q) = true then false else if hdLt T.q y.Q = true then false else if y.K = 1 then awd T y && mgetI T.mm y.Q 0 == y.C else if y.K = 0 then y.Q != 0 else true := by
  unfold mayB hdLt
  cases T.q <;> rfl
theorem early_hd {m : Md} {n : Int} (hn : n ≤ (m.C.length : Int)) : hdLt (m.wl m.C.length) n = m.early n := by
  rw [← early_head hn]
  unfold hdLt
  cases m.wl m.C.length <;> rfl
/-- A message comes to both. -/
theorem corr_step {T : Sb} {m : Md} (h : Corr T m) {x : Ot} (hK : x.K = 0 ∨ x.K = 1 ∨ x.K = 2) :
    mayB T (wideO T (lowO x)) = (m.may x.K x.C (x.Q % 65536)).2 ∧
    (mayB T (wideO T (lowO x)) = true → (wideO T (lowO x)).Q = (m.may x.K x.C (x.Q % 65536)).1 ∧ Corr (mayS T (wideO T (lowO x))) (m.come x.K (m.may x.K x.C (x.Q % 65536)).1) ∧
      (x.K = 2 ∨ (1 ≤ (m.may x.K x.C (x.Q % 65536)).1 ∧ (m.may x.K x.C (x.Q % 65536)).1 ≤ m.C.length))) := by
  obtain ⟨hr, hd, hn, hq, hl, l0, l1, sz, hmm⟩ := h
  have hwa := wide_at l0 (by omega) (w := x.Q % 65536) (by omega) (by omega)
  have hyQ : (wideO T (lowO x)).Q = wideS m.l (x.Q % 65536) := by rw [← hl]; rfl
  have hyK : (wideO T (lowO x)).K = x.K := rfl
  have hyC : (wideO T (lowO x)).C = x.C := rfl
  generalize wideO T (lowO x) = y at *
  unfold Md.may
  generalize wideS m.l (x.Q % 65536) = n at *
  obtain ⟨n0, n1⟩ := hwa
  by_cases c1 : (m.C.length : Int) < n
  · have hm : mayB T y = false := by rw [mayB_hd, if_pos (decide_eq_true (by rw [hn, hyQ]; exact c1))]
    rw [if_pos (.inr c1), hm]
    exact ⟨rfl, fun h => by cases h⟩
  · rw [if_neg (by omega)]
    have hle : n ≤ (m.C.length : Int) := by omega
    have hea := early_hd hle
    rw [← hq] at hea
    have e1 : ¬ decide (T.n < y.Q) = true := by rw [hn, hyQ]; simp; omega
    cases c2 : m.early n
    · rw [if_neg Bool.false_ne_true]
      rw [c2] at hea
      have haw : awd T y = m.waits n := by
        rw [← awd_waits hle c2, ← hq, ← hyQ]
        rfl
      have hm : mayB T y = if x.K = 1 then m.waits n && mgetI T.mm n 0 == x.C else if x.K = 0 then n != 0 else true := by
        rw [mayB_hd, if_neg e1, if_neg (by rw [hyQ, hea]; exact Bool.false_ne_true), haw, hyK, hyQ, hyC]
      have hcode : m.waits n = true → mgetI T.mm n 0 = m.C.getD (n - 1).toNat 0 ∧ 1 ≤ n := by
        intro hw
        unfold Md.waits at hw
        simp only [Bool.and_eq_true, decide_eq_true_eq] at hw
        obtain ⟨a1, a2, a3⟩ := hw
        have := hmm (n - 1).toNat (by omega) a3
        rw [show (((n - 1).toNat : Nat) : Int) + 1 = n by omega] at this
        exact ⟨this, a1⟩
      -- what is left behind
      have fin : (x.K = 1 → m.waits n = true) → (x.K = 0 → n ≠ 0) → Corr (mayS T y) (m.come x.K n) ∧ (x.K = 2 ∨ (1 ≤ n ∧ n ≤ (m.C.length : Int))) := by
        intro k1 k0
        have hC : (m.come x.K n).C = m.C := rfl
        have hbd : x.K ≠ 2 → 1 ≤ n := by
          intro h2
          rcases hK with h | h | h
          · have := k0 h; omega
          · exact (hcode (k1 h)).2
          · exact absurd h h2
        refine ⟨?_, ?_⟩
        · have hDl : (m.come x.K n).D.length = m.C.length := by
            unfold Md.come
            simp only
            split
            · rw [List.length_set]; exact hd
            · exact hd
          by_cases hK2 : x.K = 2
          · have hs : mayS T y = { T with l := y.Q } := by
              unfold mayS
              rw [hyK, hK2, if_neg (by simp)]
            have hc : m.come x.K n = ⟨m.C, m.R, m.D, n⟩ := by unfold Md.come; rw [hK2, if_neg (by simp)]
            rw [hs, hc]
            exact ⟨hr, hd, hn, hq, hyQ, n0, hle, sz, hmm⟩
          · have h1n := hbd hK2
            have hwt := come_wt (K := x.K) hd h1n hle hK2
            have hkk : (y.K == 1 || y.K == 0) = true := by rw [hyK]; rcases hK with h | h | h <;> first | (rw [h]; rfl) | exact absurd h hK2
            cases hw : m.waits n
            · have hs : mayS T y = { T with l := y.Q } := by
                unfold mayS
                rw [haw, hw, Bool.false_and, if_neg Bool.false_ne_true]
              have hw0 : m.wt (n - 1).toNat = false := by
                unfold Md.waits at hw
                rw [decide_eq_true h1n, decide_eq_true hle, Bool.true_and, Bool.true_and] at hw
                exact hw
              have hsame : ∀ j, (m.come x.K n).wt j = m.wt j := by
                intro j
                rw [hwt j]
                by_cases e : j = (n - 1).toNat
                · rw [e, hw0]; rfl
                · rw [decide_eq_false e]; simp
              rw [hs]
              refine ⟨hr, hDl, hn, ?_, hyQ, n0, hle, sz, fun k hk hkw => ?_⟩
              · show T.q = (m.come x.K n).wl m.C.length
                rw [hq, wl_wlf, wl_wlf]
                exact wlf_congr fun j _ => (hsame j).symm
              · rw [hsame] at hkw
                exact hmm k hk hkw
            · have hs : mayS T y = { T with q := T.q.tail, m := some (mdelI T.mm y.Q), l := y.Q } := by
                unfold mayS
                rw [haw, hw, hkk, Bool.and_self, if_pos rfl]
              have hw1 : m.wt (n - 1).toNat = true := by
                unfold Md.waits at hw
                rw [decide_eq_true h1n, decide_eq_true hle, Bool.true_and, Bool.true_and] at hw
                exact hw
              have hno : ∀ j, j < (n - 1).toNat → m.wt j = false := by
                intro j hj
                unfold Md.early at c2
                rw [List.any_eq_false] at c2
                have := c2 j (List.mem_range.2 hj)
                simpa using this
              have hdel := wlf_del (f := m.wt) (g := (m.come x.K n).wt) hw1 hno (fun j hj => by rw [hwt j, decide_eq_false hj]; simp) (by rw [hwt, decide_eq_true rfl]; simp) (i := m.C.length) (by omega)
              rw [hs]
              refine ⟨hr, hDl, hn, ?_, hyQ, n0, hle, sz, fun k hk hkw => ?_⟩
              · show T.q.tail = (m.come x.K n).wl m.C.length
                rw [hq, wl_wlf, wl_wlf, hdel]; rfl
              · rw [hwt] at hkw
                simp only [Bool.and_eq_true, Bool.not_eq_true', decide_eq_false_iff_not] at hkw
                show mgetI (mdelI T.mm y.Q) _ 0 = _
                rw [mgetI_del (by rw [hyQ]; omega)]
                exact hmm k hk hkw.1
        · by_cases hK2 : x.K = 2
          · exact .inl hK2
          · exact .inr ⟨hbd hK2, hle⟩
      rw [hm]
      rcases hK with hK | hK | hK
      · rw [hK] at fin ⊢
        rw [if_neg (by simp), if_pos rfl, if_neg (by simp)]
        by_cases hz : n = 0
        · rw [if_pos ⟨rfl, hz⟩, hz]
          exact ⟨rfl, fun h => by cases h⟩
        · rw [if_neg (fun h => hz h.2)]
          exact ⟨bne_iff_ne.2 hz, fun _ => ⟨hyQ, fin (fun h => by cases h) (fun _ => hz)⟩⟩
      · rw [hK] at fin ⊢
        rw [if_pos rfl]
        cases hw : m.waits n
        · rw [if_pos ⟨rfl, .inl rfl⟩]
          exact ⟨rfl, fun h => by cases h⟩
        · have hcd := (hcode hw).1
          rw [hcd, Bool.true_and]
          by_cases hcc : m.C.getD (n - 1).toNat 0 = x.C
          · rw [if_neg (fun h => h.2.elim (fun e => by cases e) (fun e => e hcc)), if_neg (fun h => by simp at h)]
            exact ⟨beq_iff_eq.2 hcc, fun _ => ⟨hyQ, fin (fun _ => hw) (fun h => by cases h)⟩⟩
          · rw [if_pos ⟨rfl, .inr hcc⟩, beq_eq_false_iff_ne.2 hcc]
            exact ⟨rfl, fun h => by cases h⟩
      · rw [hK] at fin ⊢
        rw [if_neg (by simp), if_neg (by simp), if_neg (by simp), if_neg (by simp)]
        exact ⟨rfl, fun _ => ⟨hyQ, fin (fun h => by cases h) (fun h => by cases h)⟩⟩
    · rw [if_pos rfl]
      rw [c2] at hea
      have hm : mayB T y = false := by rw [mayB_hd, if_neg e1, if_pos (by rw [hyQ]; exact hea)]
      rw [hm]
      exact ⟨rfl, fun h => by cases h⟩
end Go.Proofs.Sh

/- Package stub and the document's model of it: requests that are asked, messages one behind the other. Plain. -/
set_option maxRecDepth 100000
set_option linter.unusedSimpArgs false
set_option linter.unusedVariables false
namespace Go.Proofs.Sh
open Go.Pv
theorem fmt_len {o : Int} (ho : isOrder o) (f : Fm) (h : f.Ok) (x : Fd) (hE : (fitsE f x != 0) = false) : (fmt o f x).length ≤ 17 + 4 * x.N.length + x.B.length + 4 * x.L.length := by
  have hn := fitsE_n hE
  have r1 := row_length o h x.N x.N.length (by omega)
  have q1 := p1_length (row o f.F x.N x.N.length)
  have h1 : (fmt1 o f x).length ≤ 4 * x.N.length + 3 := by unfold fmt1; omega
  have p4 := putS_length (o := o) (s := 4) (by unfold isSize; omega) x.B.length
  have h2 : (fmt2 o f x).length ≤ 4 * x.N.length + 10 + x.B.length := by
    unfold fmt2
    split
    · have := p1_length (fmt1 o f x ++ putS o 4 x.B.length ++ x.B)
      simp only [List.length_append] at this
      omega
    · omega
  have p5 := putS_length (o := o) (s := 4) (by unfold isSize; omega) x.L.length
  unfold fmt
  split
  · rename_i hL
    have hLs : isSize f.L := by
      rcases h.l with e | e
      · rw [e] at hL; exact absurd hL (by decide)
      · exact e
    have r2 := row1_length o hLs x.L x.L.length
    have := p1_length (fmt2 o f x ++ putS o 4 x.L.length ++ row1 o f.L x.L x.L.length)
    simp only [List.length_append] at this
    omega
  · omega
theorem packS_bd (o : Int) (r : Rq) : (packS o r).1.length ≤ 21 * fr r := by
  unfold packS
  split
  · rename_i ho
    split
    · simp
    · rename_i f hf
      split
      · simp
      · rename_i hE
        split
        · simp
        · obtain ⟨hok, -, -⟩ := formOf_some hf
          have := fmt_len (isOrd_of ho) f hok r.fd (by simpa using hE)
          simp only [Rq.fd] at this
          rw [List.length_append, hd_len, fr]
          simp only [Rq.fd] at *
          omega
  · simp
/-- One request more is asked. -/
def askT (T : Sb) (x : Rq) : Sb := { T with n := T.n + 1, q := if (replyOf x.C).isSome = true then T.q ++ [T.n + 1] else T.q, m := some (if (replyOf x.C).isSome = true then msetI T.mm (T.n + 1) x.C else T.mm) }
theorem ask_wt {m : Md} (hr : m.R.length = m.C.length) (hd : m.D.length = m.C.length) (c : Int) (r : Bool) (j : Nat) : (m.ask c r).wt j = if j = m.C.length then r else m.wt j := by
  unfold Md.wt Md.ask
  simp only [List.getD_eq_getElem?_getD]
  by_cases e : j = m.C.length
  · rw [if_pos e, e, List.getElem?_append_right (by omega), List.getElem?_append_right (by omega), hr, hd, Nat.sub_self]
    simp
  · rw [if_neg e]
    by_cases hlt : j < m.C.length
    · rw [List.getElem?_append_left (by omega), List.getElem?_append_left (by omega)]
    · rw [List.getElem?_eq_none (by simp; omega), List.getElem?_eq_none (l := m.R) (by omega)]
      rfl
theorem corr_ask1 {T : Sb} {m : Md} (h : Corr T m) (x : Rq) (hs : m.C.length + 1 ≤ 1000000) : Corr (askT T x) (m.ask x.C (replyOf x.C).isSome) := by
  obtain ⟨hr, hd, hn, hq, hl, l0, l1, sz, hmm⟩ := h
  have hwt := ask_wt hr hd x.C (replyOf x.C).isSome
  have hlen : (m.ask x.C (replyOf x.C).isSome).C.length = m.C.length + 1 := by simp [Md.ask]
  have hmme : (askT T x).mm = if (replyOf x.C).isSome = true then msetI T.mm (T.n + 1) x.C else T.mm := rfl
  refine ⟨by simp [Md.ask, hr], by simp [Md.ask, hd], ?_, ?_, hl, l0, ?_, by omega, ?_⟩
  · show T.n + 1 = _; rw [hlen, hn]; rfl
  · show (if (replyOf x.C).isSome = true then T.q ++ [T.n + 1] else T.q) = _
    rw [hlen, wl_wlf, wlf_sn, wlf_congr (g := m.wt) (fun j hj => by rw [hwt, if_neg (by omega)]), hwt, if_pos rfl, ← wl_wlf, ← hq, hn]
    split <;> simp
  · show m.l ≤ _; rw [hlen]; omega
  · intro k hk hkw
    rw [hlen] at hk
    rw [hwt] at hkw
    rw [hmme]
    by_cases e : k = m.C.length
    · rw [if_pos e] at hkw
      rw [if_pos hkw, e, hn, mgetI_set_same]
      simp [Md.ask]
    · rw [if_neg e] at hkw
      have := hmm k (by omega) hkw
      have hg : (m.ask x.C (replyOf x.C).isSome).C.getD k 0 = m.C.getD k 0 := by
        unfold Md.ask
        simp only [List.getD_eq_getElem?_getD]
        rw [List.getElem?_append_left (by omega)]
      rw [hg]
      split
      · rw [mgetI_set_ne (by rw [hn]; omega)]; exact this
      · exact this
def askTs (T : Sb) (X : List Rq) : Sb := { T with n := (addAll (T.n, T.q, T.mm) X).1, q := (addAll (T.n, T.q, T.mm) X).2.1, m := some (addAll (T.n, T.q, T.mm) X).2.2 }
theorem askTs_cons (T : Sb) (x : Rq) (X : List Rq) : askTs T (x :: X) = askTs (askT T x) X := by
  have e : addAll (T.n, T.q, T.mm) (x :: X) = addAll ((askT T x).n, (askT T x).q, (askT T x).mm) X := by
    show addAll (addR (T.n, T.q, T.mm) x) X = _
    congr 1
    unfold addR askT Sb.mm
    simp only
    split <;> rfl
  unfold askTs
  rw [e]
  rfl
theorem corr_ask (o : Int) : ∀ (X : List Rq) (T : Sb) (m : Md), Corr T m → m.C.length + X.length ≤ 1000000 → (asksM o m X).2 = true → Corr (askTs T X) (asksM o m X).1 ∧ (asksM o m X).1.C.length = m.C.length + X.length
  | [], T, m, h, _, _ => by
    refine ⟨?_, rfl⟩
    exact ⟨h.r, h.d, h.n, h.q, h.l, h.l0, h.l1, h.sz, h.mm⟩
  | x :: X, T, m, h, hs, h2 => by
    rw [List.length_cons] at hs ⊢
    rw [asksM] at h2 ⊢
    by_cases hp : (packS o x).2 = 0
    · rw [if_pos hp] at h2 ⊢
      rw [askTs_cons]
      have hl : (m.ask x.C (replyOf x.C).isSome).C.length = m.C.length + 1 := by simp [Md.ask]
      obtain ⟨a, b⟩ := corr_ask o X (askT T x) _ (corr_ask1 h x (by omega)) (by rw [hl]; omega) h2
      exact ⟨a, by rw [b, hl]; omega⟩
    · rw [if_neg hp] at h2; cases h2
theorem asks_put (o : Int) : ∀ (X : List Rq) (m : Md) (out : List UInt8), out.length + 21 * psum fr X X.length ≤ 65536 → ((asksM o m X).2 = true ↔ (X.foldl (putI o) (out, 0)).2 = 0)
  | [], m, out, _ => by simp [asksM]
  | x :: X, m, out, h => by
    have h3 : psum fr (x :: X) (x :: X).length = fr x + psum fr X X.length := by simp [psum]
    have hb := packS_bd o x
    rw [h3] at h
    rw [asksM, List.foldl_cons]
    by_cases hp : (packS o x).2 = 0
    · have e : putI o (out, 0) x = (out ++ (packS o x).1, 0) := by rw [putI, if_pos rfl, if_pos hp, if_neg (by simp only; omega)]
      rw [if_pos hp, e]
      exact asks_put o X _ _ (by rw [List.length_append]; omega)
    · have e : putI o (out, 0) x = (out, (packS o x).2) := by rw [putI, if_pos rfl, if_neg hp]
      rw [if_neg hp, e, putI_stay o X (out, (packS o x).2) hp]
      constructor
      · intro h; cases h
      · intro h; exact absurd h hp
/-- What the model makes of messages. -/
def mplay : Md → List Ot → Md × List Int × Bool
  | m, [] => (m, [], false)
  | m, x :: M =>
    if (m.may x.K x.C (x.Q % 65536)).2 = true then ((mplay (m.come x.K (m.may x.K x.C (x.Q % 65536)).1) M).1, (m.may x.K x.C (x.Q % 65536)).1 :: (mplay (m.come x.K (m.may x.K x.C (x.Q % 65536)).1) M).2.1, (mplay (m.come x.K (m.may x.K x.C (x.Q % 65536)).1) M).2.2)
    else (m, [], true)
theorem play_mplay : ∀ (M : List Ot) (T : Sb) (m : Md), Corr T m → (∀ x ∈ M, x.K = 0 ∨ x.K = 1 ∨ x.K = 2) →
    ((mplay m M).2.2 = true → (play M T).2.2 = 9) ∧ ((mplay m M).2.2 = false → (play M T).2.2 = 0 ∧ Corr (play M T).1 (mplay m M).1 ∧ (mplay m M).2.1.length = M.length ∧ (play M T).2.1 = List.zipWith (fun (x : Ot) (q : Int) => ({ x with Q := q } : Ot)) M (mplay m M).2.1)
  | [], T, m, h, _ => ⟨fun e => (by cases e), fun _ => ⟨rfl, ⟨h.r, h.d, h.n, h.q, h.l, h.l0, h.l1, h.sz, h.mm⟩, rfl, rfl⟩⟩
  | x :: M, T, m, h, hK => by
    obtain ⟨s1, s2⟩ := corr_step h (hK x (List.mem_cons_self ..))
    rw [mplay, play]
    cases hm : mayB T (wideO T (lowO x))
    · rw [hm] at s1
      rw [if_neg (by rw [← s1]; exact Bool.false_ne_true), if_neg Bool.false_ne_true]
      exact ⟨fun _ => rfl, fun h => by cases h⟩
    · rw [hm] at s1
      obtain ⟨s3, s4, -⟩ := s2 hm
      rw [if_pos s1.symm, if_pos rfl]
      have hy : wideO T (lowO x) = { x with Q := (m.may x.K x.C (x.Q % 65536)).1 } := by rw [← s3]; rfl
      obtain ⟨i1, i2⟩ := play_mplay M _ _ s4 (fun y hy => hK y (List.mem_cons_of_mem _ hy))
      refine ⟨i1, fun hd => ?_⟩
      obtain ⟨j1, j2, j3, j4⟩ := i2 hd
      refine ⟨j1, j2, by simp [j3], ?_⟩
      simp only [List.zipWith_cons_cons]
      rw [← j4, ← hy]
theorem mayS_keep (T : Sb) (x : Ot) : (mayS T x).o = T.o ∧ (mayS T x).c = T.c ∧ (mayS T x).d = T.d ∧ (mayS T x).out = T.out := by
  unfold mayS
  split <;> exact ⟨rfl, rfl, rfl, rfl⟩
theorem play_keep : ∀ (M : List Ot) (T : Sb), (play M T).1.o = T.o ∧ (play M T).1.c = T.c ∧ (play M T).1.d = T.d ∧ (play M T).1.out = T.out ∧ ((play M T).2.2 = 0 → (play M T).1.came = [])
  | [], T => ⟨rfl, rfl, rfl, rfl, fun _ => rfl⟩
  | x :: M, T => by
    rw [play]
    split
    · obtain ⟨a1, a2, a3, a4⟩ := mayS_keep T (wideO T (lowO x))
      obtain ⟨b1, b2, b3, b4, b5⟩ := play_keep M (mayS T (wideO T (lowO x)))
      exact ⟨b1.trans a1, b2.trans a2, b3.trans a3, b4.trans a4, b5⟩
    · exact ⟨rfl, rfl, rfl, rfl, fun h => absurd (show (9 : Int) = 0 from h) (by decide)⟩
end Go.Proofs.Sh
