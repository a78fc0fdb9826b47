/- The seat's rows: what is said, as arguments. -/
import Derived.Test.YtbpjoeopnaggoaaDoorSbSeatW
import Derived.Test.YtbpjoeopnaggoaaDoorSbBack
set_option maxRecDepth 100000
set_option linter.unusedVariables false
namespace Go.Proofs.YtbpjoeopnaggoaaDoor
open Go.Pv Go.Proofs.Sh

theorem uST : Tryd.prog.underlying 80 = some (.struct (flds Tryd.prog 80)) := by kernel_rfl
theorem uSS : Tryd.prog.underlying 77 = some (.slice 80) := by kernel_rfl
theorem bST : 1 ≤ Tryd.prog.bytesOf 80 := by rw [show Tryd.prog.bytesOf 80 = 6 by kernel_rfl]; decide
def dSdG (H : Type) (d : DataW H) (p : PV) : Prop := dAgg (dSt [dInt .u8, dInt .u8, dInt .u8, dBool, dInt .i16]) H d p
theorem nat_i16 {n : Int} (h : (Lit.int .i16 n).wf = true) : -32768 ≤ n ∧ n ≤ 32767 := by
  simp [Lit.wf] at h
  obtain ⟨h1, h2⟩ := h
  have h3 : IntKind.i16.min = -32768 := by decide
  have h4 : IntKind.i16.max = 32767 := by decide
  exact ⟨by omega, by omega⟩
theorem dsd_of {H : Type} {d : DataW H} {p : PV} (h : dSdG H d p) : ∃ x : Sd, p = x.pv ∧ (-32768 ≤ x.N ∧ x.N ≤ 32767) := by
  obtain ⟨ps, rfl, ds, rfl, h⟩ := h
  obtain ⟨_, _, d0, _, rfl, rfl, ⟨c, rfl, -, hc⟩, _, _, d1, _, rfl, rfl, ⟨a, rfl, -, ha⟩, _, _, d2, _, rfl, rfl, ⟨b, rfl, -, hb⟩, _, _, d3, _, rfl, rfl, ⟨f, rfl, -⟩, _, _, d4, _, rfl, rfl, ⟨n, rfl, -, hn⟩, rfl, rfl⟩ := h
  obtain ⟨c', rfl, hc'⟩ := nat_u8 hc
  obtain ⟨a', rfl, ha'⟩ := nat_u8 ha
  obtain ⟨b', rfl, hb'⟩ := nat_u8 hb
  exact ⟨⟨c', a', b', f, n, hc', ha', hb'⟩, rfl, nat_i16 hn⟩
theorem dsds_of {H : Type} {d : DataW H} {ps : List PV} (h : dSl 5 dSdG H d ps) : ∃ X : List Sd, ps = [.sl 5 (sdL X)] ∧ (WOk Tryd.prog 77 d → X.length ≤ 1000000000000000) ∧ ∀ x ∈ X, -32768 ≤ x.N ∧ x.N ≤ 32767 := by
  obtain ⟨es, rfl, hl, h⟩ := h
  rcases h with ⟨rfl, rfl⟩ | ⟨elems, spare, rfl, hlen, hall⟩
  · exact ⟨[], rfl, fun _ => by simp, fun x hx => by cases hx⟩
  · obtain ⟨X, rfl, h2, h3⟩ := row_of Sd.pv (fun x q => -32768 ≤ x.N ∧ x.N ≤ 32767) hlen (fun i p q h1 h2 => dsd_of (hall i p q h1 h2))
    refine ⟨X, rfl, fun hw => by have := (wsl uSS bST hw).1; omega, fun x hx => ?_⟩
    obtain ⟨i, hi, rfl⟩ := List.mem_iff_getElem.1 hx
    exact h3 i _ (elems[i]'(by omega)) (List.getElem?_eq_getElem hi) (List.getElem?_eq_getElem (by omega))
theorem decDSd : DecD Tryd.prog 80 (dSt [dInt .u8, dInt .u8, dInt .u8, dBool, dInt .i16]) := by
  have hm : (flds Tryd.prog 80).toList.map (fun f => (f.offset, f.type)) = [(0, 5), (1, 5), (2, 5), (3, 4), (4, 78)] := by kernel_rfl
  have hc : Tryd.prog.cellsOf 80 = 5 := by kernel_rfl
  refine DecD.struct (fs := flds Tryd.prog 80) (by kernel_rfl) ?_
  rw [hc]
  generalize (flds Tryd.prog 80).toList = fs at hm
  have hlen : fs.length = 5 := by simpa using congrArg List.length hm
  match fs, hlen, hm with
  | [f0, f1, f2, f3, f4], _, hm =>
    simp only [List.map_cons, List.map_nil, List.cons.injEq, Prod.mk.injEq, and_true] at hm
    obtain ⟨⟨o0, t0⟩, ⟨o1, t1⟩, ⟨o2, t2⟩, ⟨o3, t3⟩, o4, t4⟩ := hm
    refine .cons (0) f0 [f1, f2, f3, f4] _ _ 5 o0 (by rw [t0]; exact .int (by kernel_rfl)) ?_
    rw [t0, show Tryd.prog.cellsOf 5 = 1 by kernel_rfl]
    refine .cons (0 + 1) f1 [f2, f3, f4] _ _ 5 o1 (by rw [t1]; exact .int (by kernel_rfl)) ?_
    rw [t1, show Tryd.prog.cellsOf 5 = 1 by kernel_rfl]
    refine .cons (0 + 1 + 1) f2 [f3, f4] _ _ 5 o2 (by rw [t2]; exact .int (by kernel_rfl)) ?_
    rw [t2, show Tryd.prog.cellsOf 5 = 1 by kernel_rfl]
    refine .cons (0 + 1 + 1 + 1) f3 [f4] _ _ 5 o3 (by rw [t3]; exact .bool (by kernel_rfl)) ?_
    rw [t3, show Tryd.prog.cellsOf 4 = 1 by kernel_rfl]
    refine .cons (0 + 1 + 1 + 1 + 1) f4 [] _ _ 5 o4 (by rw [t4]; exact .int (by kernel_rfl)) ?_
    rw [t4, show Tryd.prog.cellsOf 78 = 1 by kernel_rfl]
    exact .nil 5
theorem decDSds : DecD Tryd.prog 77 (dSl 5 dSdG) := by
  have := DecD.sl (P := Tryd.prog) (t := 77) (e := 80) (G := dSdG) uSS decDSd (by rw [show Tryd.prog.cellsOf 80 = 5 by kernel_rfl]; decide) (fun H d ps hl h => ⟨.agg ps, rfl, ps, rfl, h⟩)
  rwa [show Tryd.prog.cellsOf 80 = 5 by kernel_rfl] at this
theorem decESds : DecE Tryd.prog 77 (dOne (dSl 5 dSdG)) := .ofC decDSds (.inr (.inr (.inr ⟨_, uSS⟩)))
end Go.Proofs.YtbpjoeopnaggoaaDoor
