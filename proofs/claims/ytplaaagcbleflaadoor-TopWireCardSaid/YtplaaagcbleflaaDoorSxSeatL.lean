/- The frame of the seat's rows: the package-level variables as they are laid; requests as arguments. -/
import Derived.Test.YtplaaagcbleflaaDoorSxIt
import Derived.Test.YtplaaagcbleflaaDoorPvXa
import Derived.Test.YtplaaagcbleflaaDoorPvXd
import Derived.Test.YtplaaagcbleflaaDoorRows
import Derived.Test.YtplaaagcbleflaaDoorTwU
set_option maxRecDepth 100000
namespace Go.Proofs.YtplaaagcbleflaaDoor
open Go.Pv Go.Proofs.Sh

def flds (P : Program) (t : TypeId) : Array Field := match P.underlying t with | some (.struct fs) => fs | _ => #[]
theorem flds_at {fs : Array Field} {j o : Nat} {T : TypeId} (h : (fs[j]?).map (fun f => (f.offset, f.type)) = some (o, T)) {f : Field} (hf : fs[j]? = some f) : f.offset = o ∧ f.type = T := by
  rw [hf] at h; simp at h; exact h
theorem own : ownKnob Tryd.prog.godebug = none := by kernel_rfl
theorem laidOut : laidOutB Tryd.prog = true := by kernel_rfl
def laidV : List (String × DataW Unit) := [("glazier/order.spans", Rows.laid_glazier_order_spans), ("unicode.White_Space", Rows.laid_unicode_White_Space), ("strings.asciiSpace", Rows.laid_strings_asciiSpace), ("glazier/format.sizes", Rows.laid_glazier_format_sizes)]
theorem tabIs : Tryd.gtab.tab = [(0, (gat Tryd.gtab.tab 0).getD []), (1, (gat Tryd.gtab.tab 1).getD []), (3, (gat Tryd.gtab.tab 3).getD [])] := by kernel_rfl
theorem glOf (W : World) (h : laidMetH Tryd.prog laidV W) : ∀ k ps, gat GTab.tab k = some ps → PRel (allH W) (.pointer (some ⟨k, 0, none⟩)) (.loc ps) := by
  intro k ps hk
  rw [MakeChecks.laidMetH_plain _ _ _ (by kernel_rfl)] at h
  obtain ⟨places, hl, -, -⟩ := h
  have hk1 : gat Tryd.gtab.tab k = some ps := hk
  have h0 : pvsEq ((gat Tryd.gtab.tab 0).getD []) (dRows (Rows.laid_glazier_order_spans : DataW Unit)) = true := by kernel_rfl
  have h1 : pvsEq ((gat Tryd.gtab.tab 1).getD []) (dInts .u8 (dParts (Rows.laid_strings_asciiSpace : DataW Unit))) = true := by kernel_rfl
  have h3 : pvsEq ((gat Tryd.gtab.tab 3).getD []) (dInts .i64 (dParts (Rows.laid_glazier_format_sizes : DataW Unit))) = true := by kernel_rfl
  have hk0 : k = 0 ∨ k = 1 ∨ k = 3 := by
    rw [tabIs] at hk1
    unfold gat at hk1
    split at hk1
    · rename_i hb; exact .inl (Nat.eq_of_beq_eq_true hb).symm
    · skip
      unfold gat at hk1
      split at hk1
      · rename_i hb; exact .inr (.inl (Nat.eq_of_beq_eq_true hb).symm)
      · skip
        unfold gat at hk1
        split at hk1
        · rename_i hb; exact .inr (.inr ((Nat.eq_of_beq_eq_true hb).symm))
        · cases hk1
  rcases hk0 with rfl | rfl | rfl
  · rw [hk1] at h0
    have hs : (flds Tryd.prog 125).size = 3 := by kernel_rfl
    refine loc_of_rows (m := 3) hl (by simp [laidV]) (show Tryd.prog.globalNamed "glazier/order.spans" = some 0 by kernel_rfl) (show (Tryd.prog.globals[0]?).map (·.type) = some 146 by kernel_rfl) (show Tryd.prog.underlying 146 = some (.array 6 125) by kernel_rfl) (fs := flds Tryd.prog 125) (by kernel_rfl) hs (by decide) (fun j f hf => ?_) (by kernel_rfl) (by kernel_rfl) h0
    match j, hf with
    | 0, hf => obtain ⟨ho, ht⟩ := flds_at (show ((flds Tryd.prog 125)[0]?).map (fun f => (f.offset, f.type)) = some (0, 3) by kernel_rfl) hf; rw [ho, ht]; exact ⟨rfl, by kernel_rfl, .i64, by kernel_rfl⟩
    | 1, hf => obtain ⟨ho, ht⟩ := flds_at (show ((flds Tryd.prog 125)[1]?).map (fun f => (f.offset, f.type)) = some (1, 2) by kernel_rfl) hf; rw [ho, ht]; exact ⟨rfl, by kernel_rfl, .i64, by kernel_rfl⟩
    | 2, hf => obtain ⟨ho, ht⟩ := flds_at (show ((flds Tryd.prog 125)[2]?).map (fun f => (f.offset, f.type)) = some (2, 2) by kernel_rfl) hf; rw [ho, ht]; exact ⟨rfl, by kernel_rfl, .i64, by kernel_rfl⟩
    | j + 3, hf => rw [Array.getElem?_eq_none (by omega)] at hf; cases hf
  · rw [hk1] at h1
    exact loc_of_ints hl (by simp [laidV]) (show Tryd.prog.globalNamed "strings.asciiSpace" = some 1 by kernel_rfl) (show (Tryd.prog.globals[1]?).map (·.type) = some 149 by kernel_rfl) (show Tryd.prog.underlying 149 = some (.array 256 5) by kernel_rfl) (show Tryd.prog.underlying 5 = some (.int .u8) by kernel_rfl) (by kernel_rfl) (by kernel_rfl) h1
  · rw [hk1] at h3
    exact loc_of_ints hl (by simp [laidV]) (show Tryd.prog.globalNamed "glazier/format.sizes" = some 3 by kernel_rfl) (show (Tryd.prog.globals[3]?).map (·.type) = some 166 by kernel_rfl) (show Tryd.prog.underlying 166 = some (.array 6 3) by kernel_rfl) (show Tryd.prog.underlying 3 = some (.int .i64) by kernel_rfl) (by kernel_rfl) (by kernel_rfl) h3
theorem door_met (os : Os) (args : Array Value) : laidMetH Tryd.prog laidV ((World.doorLaid Tryd.prog 400 os).forCall (fun _ _ => 0) ⟨#[], args, []⟩).memory :=
  laidMetH_of_parts3 (fuel := 8) (laidMet_of_run' 8 (by kernel_rfl) (by kernel_rfl)) (by kernel_rfl) (by kernel_rfl)

theorem nat_u8 {n : Int} (h : (Lit.int .u8 n).wf = true) : ∃ a : Nat, n = (a : Int) ∧ a < 256 := by
  simp [Lit.wf] at h
  obtain ⟨h1, h2⟩ := h
  have h3 : IntKind.u8.min = 0 := by decide
  have h4 : IntKind.u8.max = 255 := by decide
  exact ⟨n.toNat, by omega, by omega⟩
def gA4 : PV → Prop := agg1 (gL (List.replicate 4 (gInt .u8)))
theorem decA4 : DecV Tryd.prog 32 gA4 := DecV.agg (DecC.arr (e := 5) (by kernel_rfl) (.int (by kernel_rfl)) (by kernel_rfl)) (.inr ⟨4, 5, by kernel_rfl⟩)
theorem a4_of {p : PV} (h : gA4 p) : ∃ a b c d : Nat, a < 256 ∧ b < 256 ∧ c < 256 ∧ d < 256 ∧ p = .agg [.int .u8 a, .int .u8 b, .int .u8 c, .int .u8 d] := by
  obtain ⟨_, rfl, _, _, rfl, ⟨a, rfl, wa⟩, _, _, rfl, ⟨b, rfl, wb⟩, _, _, rfl, ⟨c, rfl, wc⟩, _, _, rfl, ⟨d, rfl, wd⟩, rfl⟩ := h
  obtain ⟨a, rfl, ha⟩ := nat_u8 wa
  obtain ⟨b, rfl, hb⟩ := nat_u8 wb
  obtain ⟨c, rfl, hc⟩ := nat_u8 wc
  obtain ⟨d, rfl, hd⟩ := nat_u8 wd
  exact ⟨a, b, c, d, ha, hb, hc, hd, rfl⟩
theorem decBys : DecV Tryd.prog 34 (one1 (gSl 1 (one1 (gInt .u8)))) := by
  have := DecV.sl (P := Tryd.prog) (t := 34) (e := 5) (g := gInt .u8) (G := one1 (gInt .u8)) (by kernel_rfl) (.int (by kernel_rfl)) (by rw [show Tryd.prog.cellsOf 5 = 1 by kernel_rfl]; decide) (fun ps _ h => by obtain ⟨n, rfl, hw⟩ := h; exact ⟨.int .u8 n, rfl, n, rfl, hw⟩)
  rwa [show Tryd.prog.cellsOf 5 = 1 by kernel_rfl] at this
theorem bys_of {p : PV} (h : one1 (gSl 1 (one1 (gInt .u8))) p) : ∃ l : List Nat, (∀ c ∈ l, c < 256) ∧ l.length ≤ maxLen ∧ p = .sl 1 (l.map fun (n : Nat) => .int .u8 (n : Int)) := by
  obtain ⟨es, he, hl, ha⟩ := h
  cases he
  have : ∀ es : List PV, (∀ p ∈ es, one1 (gInt .u8) p) → ∃ l : List Nat, (∀ c ∈ l, c < 256) ∧ es = l.map fun (n : Nat) => .int .u8 (n : Int) := by
    intro es
    induction es with
    | nil => intro _; exact ⟨[], fun c hc => (by cases hc), rfl⟩
    | cons p es ih =>
      intro h
      obtain ⟨n, hn, hw⟩ := h p (List.mem_cons_self ..)
      cases hn
      obtain ⟨a, rfl, ha⟩ := nat_u8 hw
      obtain ⟨l, hl, rfl⟩ := ih (fun q hq => h q (List.mem_cons_of_mem _ hq))
      refine ⟨a :: l, fun c hc => ?_, rfl⟩
      rcases List.mem_cons.1 hc with rfl | hc
      · exact ha
      · exact hl c hc
  obtain ⟨l, h1, rfl⟩ := this es ha
  exact ⟨l, h1, by simpa using hl, rfl⟩
end Go.Proofs.YtplaaagcbleflaaDoor

/- The seat's rows: rows of requests as arguments. -/
set_option maxRecDepth 100000
namespace Go.Proofs.YtplaaagcbleflaaDoor
open Go.Pv Go.Proofs.Sh

def gInts (p : PV) : Prop := gSl 1 (one1 (gInt .i64)) [p]
theorem ints_of {p : PV} (h : one1 (gSl 1 (one1 (gInt .i64))) p) : ∃ l : List Int, p = .sl 1 (ints l) ∧ l.length ≤ maxLen := by
  obtain ⟨es, he, hl, ha⟩ := h
  cases he
  have : ∀ es : List PV, (∀ p ∈ es, one1 (gInt .i64) p) → ∃ l : List Int, es = ints l := by
    intro es
    induction es with
    | nil => intro _; exact ⟨[], rfl⟩
    | cons p es ih =>
      intro h
      obtain ⟨n, hn, -⟩ := h p (List.mem_cons_self ..)
      cases hn
      obtain ⟨l, rfl⟩ := ih (fun q hq => h q (List.mem_cons_of_mem _ hq))
      exact ⟨n :: l, rfl⟩
  obtain ⟨l, rfl⟩ := this es ha
  exact ⟨l, rfl, by rw [ints_length] at hl; exact hl⟩
def gRq (p : PV) : Prop := ∃ ps, p = .agg ps ∧ GVs [one1 (gInt .i64), one1 (gSl 1 (one1 (gInt .i64))), one1 gStr, one1 (gSl 1 (one1 (gInt .i64)))] ps
theorem rq_of {p : PV} (h : gRq p) : ∃ r : Rq, p = r.pv := by
  obtain ⟨_, rfl, _, _, rfl, ⟨c, hc, -⟩, _, _, rfl, hN, _, _, rfl, ⟨b, hb, -⟩, _, _, rfl, hL, rfl⟩ := h
  cases hc; cases hb
  obtain ⟨n, rfl, -⟩ := ints_of hN
  obtain ⟨l, rfl, -⟩ := ints_of hL
  exact ⟨⟨c, n, b, l⟩, rfl⟩
theorem decLi : DecC Tryd.prog 48 (gSl 1 (one1 (gInt .i64))) := by
  have := DecC.sl (P := Tryd.prog) (t := 48) (e := 2) (g := gInt .i64) (G := one1 (gInt .i64)) (by kernel_rfl) (.int (by kernel_rfl)) (by rw [show Tryd.prog.cellsOf 2 = 1 by kernel_rfl]; decide) (fun ps _ h => by obtain ⟨n, rfl, hw⟩ := h; exact ⟨.int .i64 n, rfl, n, rfl, hw⟩)
  rwa [show Tryd.prog.cellsOf 2 = 1 by kernel_rfl] at this
theorem decCRq : DecC Tryd.prog 50 (gL [gInt .i64, gSl 1 (one1 (gInt .i64)), gStr, gSl 1 (one1 (gInt .i64))]) := by
  have hm : (flds Tryd.prog 50).toList.map (fun f => (f.offset, f.type)) = [(0, 3), (1, 48), (2, 9), (3, 48)] := by kernel_rfl
  have hc : Tryd.prog.cellsOf 50 = 4 := by kernel_rfl
  refine DecC.struct (fs := flds Tryd.prog 50) (by kernel_rfl) ?_
  rw [hc]
  generalize (flds Tryd.prog 50).toList = fs at hm
  have hlen : fs.length = 4 := by simpa using congrArg List.length hm
  match fs, hlen, hm with
  | [f0, f1, f2, f3], _, hm =>
    simp only [List.map_cons, List.map_nil, List.cons.injEq, Prod.mk.injEq, and_true] at hm
    obtain ⟨⟨o0, t0⟩, ⟨o1, t1⟩, ⟨o2, t2⟩, o3, t3⟩ := hm
    refine .cons (0) f0 [f1, f2, f3] _ _ 4 o0 (by rw [t0]; exact .int (by kernel_rfl)) ?_
    rw [t0, show Tryd.prog.cellsOf 3 = 1 by kernel_rfl]
    refine .cons (0 + 1) f1 [f2, f3] _ _ 4 o1 (by rw [t1]; exact decLi) ?_
    rw [t1, show Tryd.prog.cellsOf 48 = 1 by kernel_rfl]
    refine .cons (0 + 1 + 1) f2 [f3] _ _ 4 o2 (by rw [t2]; exact .str (by kernel_rfl)) ?_
    rw [t2, show Tryd.prog.cellsOf 9 = 1 by kernel_rfl]
    refine .cons (0 + 1 + 1 + 1) f3 [] _ _ 4 o3 (by rw [t3]; exact decLi) ?_
    rw [t3, show Tryd.prog.cellsOf 48 = 1 by kernel_rfl]
    exact .nil 4
theorem decRqs : DecV Tryd.prog 38 (one1 (gSl 4 gRq)) := by
  have := DecV.sl (P := Tryd.prog) (t := 38) (e := 50) (g := gL [gInt .i64, gSl 1 (one1 (gInt .i64)), gStr, gSl 1 (one1 (gInt .i64))]) (G := gRq) (by kernel_rfl) decCRq (by rw [show Tryd.prog.cellsOf 50 = 4 by kernel_rfl]; decide) (fun ps _ h => by
    obtain ⟨_, _, rfl, ⟨x0, rfl, w0⟩, ⟨_, _, rfl, ⟨x1, rfl, w1, v1⟩, ⟨_, _, rfl, ⟨x2, rfl, w2⟩, ⟨_, _, rfl, ⟨x3, rfl, w3, v3⟩, rfl⟩⟩⟩⟩ := h
    exact ⟨.agg _, rfl, _, rfl, ⟨_, _, rfl, ⟨x0, rfl, w0⟩, ⟨_, _, rfl, ⟨x1, rfl, w1, v1⟩, ⟨_, _, rfl, ⟨x2, rfl, w2⟩, ⟨_, _, rfl, ⟨x3, rfl, w3, v3⟩, rfl⟩⟩⟩⟩⟩)
  rwa [show Tryd.prog.cellsOf 50 = 4 by kernel_rfl] at this
theorem rqs_of {p : PV} (h : one1 (gSl 4 gRq) p) : ∃ l : List Rq, p = .sl 4 (rqL l) := by
  obtain ⟨es, he, -, ha⟩ := h
  cases he
  have : ∀ es : List PV, (∀ p ∈ es, gRq p) → ∃ l : List Rq, es = rqL l := by
    intro es
    induction es with
    | nil => intro _; exact ⟨[], rfl⟩
    | cons p es ih =>
      intro h
      obtain ⟨r, rfl⟩ := rq_of (h p (List.mem_cons_self ..))
      obtain ⟨l, rfl⟩ := ih (fun q hq => h q (List.mem_cons_of_mem _ hq))
      exact ⟨r :: l, rfl⟩
  obtain ⟨l, rfl⟩ := this es ha
  exact ⟨l, rfl⟩
end Go.Proofs.YtplaaagcbleflaaDoor
