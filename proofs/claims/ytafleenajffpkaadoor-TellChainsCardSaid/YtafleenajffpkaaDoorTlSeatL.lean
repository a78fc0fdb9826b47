/- The seat's rows: rows of messages as arguments. -/
import Derived.Test.YtafleenajffpkaaDoorTlSeat
import Derived.Test.YtafleenajffpkaaDoorTlTellChains
set_option maxRecDepth 100000
namespace Go.Proofs.YtafleenajffpkaaDoor
open Go.Pv Go.Proofs.Sh

theorem decLi : DecC Tryd.prog 23 (gSl 1 (one1 (gInt .i64))) := by
  have := DecC.sl (P := Tryd.prog) (t := 23) (e := 2) (g := gInt .i64) (G := one1 (gInt .i64)) (by kernel_rfl) (.int (by kernel_rfl)) (by rw [show Tryd.prog.cellsOf 2 = 1 by kernel_rfl]; decide) (fun ps _ h => by obtain ⟨n, rfl, hw⟩ := h; exact ⟨.int .i64 n, rfl, n, rfl, hw⟩)
  rwa [show Tryd.prog.cellsOf 2 = 1 by kernel_rfl] at this
theorem decCOt : DecC Tryd.prog 25 (gL [gInt .i64, gInt .i64, gInt .i64, gSl 1 (one1 (gInt .i64)), gStr, gSl 1 (one1 (gInt .i64))]) := by
  have hm : (flds Tryd.prog 25).toList.map (fun f => (f.offset, f.type)) = [(0, 3), (1, 3), (2, 3), (3, 23), (4, 9), (5, 23)] := by kernel_rfl
  have hc : Tryd.prog.cellsOf 25 = 6 := by kernel_rfl
  refine DecC.struct (fs := flds Tryd.prog 25) (by kernel_rfl) ?_
  rw [hc]
  generalize (flds Tryd.prog 25).toList = fs at hm
  have hlen : fs.length = 6 := by simpa using congrArg List.length hm
  match fs, hlen, hm with
  | [f0, f1, f2, f3, f4, f5], _, hm =>
    simp only [List.map_cons, List.map_nil, List.cons.injEq, Prod.mk.injEq, and_true] at hm
    obtain ⟨⟨o0, t0⟩, ⟨o1, t1⟩, ⟨o2, t2⟩, ⟨o3, t3⟩, ⟨o4, t4⟩, o5, t5⟩ := hm
    refine .cons (0) f0 [f1, f2, f3, f4, f5] _ _ 6 o0 (by rw [t0]; exact .int (by kernel_rfl)) ?_
    rw [t0, show Tryd.prog.cellsOf 3 = 1 by kernel_rfl]
    refine .cons (0 + 1) f1 [f2, f3, f4, f5] _ _ 6 o1 (by rw [t1]; exact .int (by kernel_rfl)) ?_
    rw [t1, show Tryd.prog.cellsOf 3 = 1 by kernel_rfl]
    refine .cons (0 + 1 + 1) f2 [f3, f4, f5] _ _ 6 o2 (by rw [t2]; exact .int (by kernel_rfl)) ?_
    rw [t2, show Tryd.prog.cellsOf 3 = 1 by kernel_rfl]
    refine .cons (0 + 1 + 1 + 1) f3 [f4, f5] _ _ 6 o3 (by rw [t3]; exact decLi) ?_
    rw [t3, show Tryd.prog.cellsOf 23 = 1 by kernel_rfl]
    refine .cons (0 + 1 + 1 + 1 + 1) f4 [f5] _ _ 6 o4 (by rw [t4]; exact .str (by kernel_rfl)) ?_
    rw [t4, show Tryd.prog.cellsOf 9 = 1 by kernel_rfl]
    refine .cons (0 + 1 + 1 + 1 + 1 + 1) f5 [] _ _ 6 o5 (by rw [t5]; exact decLi) ?_
    rw [t5, show Tryd.prog.cellsOf 23 = 1 by kernel_rfl]
    exact .nil 6
theorem decOts : DecV Tryd.prog 41 (one1 (gSl 6 gOt)) := by
  have := DecV.sl (P := Tryd.prog) (t := 41) (e := 25) (g := gL [gInt .i64, gInt .i64, gInt .i64, gSl 1 (one1 (gInt .i64)), gStr, gSl 1 (one1 (gInt .i64))]) (G := gOt) (by kernel_rfl) decCOt (by rw [show Tryd.prog.cellsOf 25 = 6 by kernel_rfl]; decide) (fun ps _ h => by
    obtain ⟨_, _, rfl, ⟨x0, rfl, w0⟩, ⟨_, _, rfl, ⟨x1, rfl, w1⟩, ⟨_, _, rfl, ⟨x2, rfl, w2⟩, ⟨_, _, rfl, ⟨x3, rfl, w3, v3⟩, ⟨_, _, rfl, ⟨x4, rfl, w4⟩, ⟨_, _, rfl, ⟨x5, rfl, w5, v5⟩, rfl⟩⟩⟩⟩⟩⟩ := h
    exact ⟨.agg _, rfl, _, rfl, ⟨_, _, rfl, ⟨x0, rfl, w0⟩, ⟨_, _, rfl, ⟨x1, rfl, w1⟩, ⟨_, _, rfl, ⟨x2, rfl, w2⟩, ⟨_, _, rfl, ⟨x3, rfl, w3, v3⟩, ⟨_, _, rfl, ⟨x4, rfl, w4⟩, ⟨_, _, rfl, ⟨x5, rfl, w5, v5⟩, rfl⟩⟩⟩⟩⟩⟩⟩)
  rwa [show Tryd.prog.cellsOf 25 = 6 by kernel_rfl] at this
theorem ots_of {p : PV} (h : one1 (gSl 6 gOt) p) : ∃ l : List Ot, p = .sl 6 (otL l) := by
  obtain ⟨es, he, -, ha⟩ := h
  cases he
  have : ∀ es : List PV, (∀ p ∈ es, gOt p) → ∃ l : List Ot, es = otL l := by
    intro es
    induction es with
    | nil => intro _; exact ⟨[], rfl⟩
    | cons p es ih =>
      intro h
      obtain ⟨r, rfl⟩ := ot_of (h p (List.mem_cons_self ..))
      obtain ⟨l, rfl⟩ := ih (fun q hq => h q (List.mem_cons_of_mem _ hq))
      exact ⟨r :: l, rfl⟩
  obtain ⟨l, rfl⟩ := this es ha
  exact ⟨l, rfl⟩
end Go.Proofs.YtafleenajffpkaaDoor
