/- TopSets: the given statement, proved. No condition. -/
import Derived.Test.YtbjeagcnakdmnaaGsP
import Derived.Test.YtbjeagcnakdmnaaPvX
import Derived.Test.YtbjeagcnakdmnaaRows
set_option maxRecDepth 100000
namespace Go.Proofs.Ytbjeagcnakdmnaa
open Go.Pv Go.Proofs.Sh
theorem own : ownKnob Try.prog.godebug = none := by kernel_rfl
theorem laidOut : laidOutB Try.prog = true := by kernel_rfl
theorem nat_u8 {n : Int} (h : (Lit.int .u8 n).wf = true) : ∃ a : UInt8, n = (a.toNat : Int) := by
  simp [Lit.wf] at h
  obtain ⟨h1, h2⟩ := h
  have h3 : IntKind.u8.min = 0 := by decide
  have h4 : IntKind.u8.max = 255 := by decide
  refine ⟨UInt8.ofNat n.toNat, ?_⟩
  rw [UInt8.toNat_ofNat', Nat.mod_eq_of_lt (by omega)]
  omega
def gSmall (ps : List PV) : Prop := gL [gInt .u8, gInt .u8, gInt .u8, gInt .u8] ps
theorem small_of {ps : List PV} (h : gSmall ps) : ∃ s : Sm, .agg ps = s.pv := by
  obtain ⟨q1, r1, rfl, ⟨a, rfl, ha⟩, q2, r2, rfl, ⟨b, rfl, hb⟩, q3, r3, rfl, ⟨c, rfl, hc⟩, q4, r4, rfl, ⟨d, rfl, hd⟩, rfl⟩ := h
  obtain ⟨a, rfl⟩ := nat_u8 ha
  obtain ⟨b, rfl⟩ := nat_u8 hb
  obtain ⟨c, rfl⟩ := nat_u8 hc
  obtain ⟨d, rfl⟩ := nat_u8 hd
  exact ⟨⟨a, b, c, d⟩, rfl⟩
def flds (P : Program) (t : TypeId) : Array Field := match P.underlying t with | some (.struct fs) => fs | _ => #[]
theorem decSmall : DecC Try.prog 63 gSmall := by
  have hm : (flds Try.prog 63).toList.map (fun f => (f.offset, f.type)) = [(0, 5), (1, 5), (2, 5), (3, 5)] := by kernel_rfl
  have hc : Try.prog.cellsOf 63 = 4 := by kernel_rfl
  refine DecC.struct (fs := flds Try.prog 63) (by kernel_rfl) ?_
  rw [hc]
  generalize (flds Try.prog 63).toList = fs at hm
  have hlen : fs.length = 4 := by simpa using congrArg List.length hm
  match fs, hlen, hm with
  | [f0, f1, f2, f3], _, hm =>
    simp only [List.map_cons, List.map_nil, List.cons.injEq, Prod.mk.injEq, and_true] at hm
    obtain ⟨⟨o0, t0⟩, ⟨o1, t1⟩, ⟨o2, t2⟩, o3, t3⟩ := hm
    refine .cons 0 f0 [f1, f2, f3] _ _ 4 o0 (by rw [t0]; exact .int (by kernel_rfl)) ?_
    rw [t0, show Try.prog.cellsOf 5 = 1 by kernel_rfl]
    refine .cons (0 + 1) f1 [f2, f3] _ _ 4 o1 (by rw [t1]; exact .int (by kernel_rfl)) ?_
    rw [t1, show Try.prog.cellsOf 5 = 1 by kernel_rfl]
    refine .cons (0 + 1 + 1) f2 [f3] _ _ 4 o2 (by rw [t2]; exact .int (by kernel_rfl)) ?_
    rw [t2, show Try.prog.cellsOf 5 = 1 by kernel_rfl]
    refine .cons (0 + 1 + 1 + 1) f3 [] _ _ 4 o3 (by rw [t3]; exact .int (by kernel_rfl)) ?_
    rw [t3, show Try.prog.cellsOf 5 = 1 by kernel_rfl]
    exact .nil 4
def gSm (p : PV) : Prop := ∃ s : Sm, p = s.pv
theorem decSmalls : DecV Try.prog 22 (one1 (gSl 4 gSm)) := by
  have := DecV.sl (P := Try.prog) (t := 22) (e := 63) (g := gSmall) (G := gSm) (by kernel_rfl) decSmall (by rw [show Try.prog.cellsOf 63 = 4 by kernel_rfl]; decide) (fun ps _ h => by obtain ⟨s, e⟩ := small_of h; exact ⟨.agg ps, rfl, s, e⟩)
  rwa [show Try.prog.cellsOf 63 = 4 by kernel_rfl] at this
theorem sms_of : ∀ {es : List PV}, (∀ p ∈ es, gSm p) → ∃ l : List Sm, es = sms l
  | [], _ => ⟨[], rfl⟩
  | e :: es, h => by
    obtain ⟨a, rfl⟩ := h e (List.mem_cons_self ..)
    obtain ⟨l, rfl⟩ := sms_of (es := es) (fun p hp => h p (List.mem_cons_of_mem _ hp))
    exact ⟨a :: l, rfl⟩

theorem topSets_lifted (os : Os) (started : os.Started) (H : Type) (enc : TypeId × Value → H) :
    ReturnsInHanded {} Try.checked os 3 .any (Rows.topSetsSpec.pre6 enc Try.prog Try.f3 [] false) (Rows.topSetsSpec.post enc Try.prog Try.f3 false true false false) := by
  refine lawIn (C := Try.checked) (t := 4) (Gs := [one1 (gSl 4 gSm), one1 (gSl 4 gSm)]) own started (by kernel_rfl) Try.func3
    (ChangeSpec.witness6 (enc := enc) (C := Try.checked) false ⟨#[], #[.slice none 0 0, .slice none 0 0], []⟩ 8 (by kernel_rfl) (by kernel_rfl) (by kernel_rfl) (by kernel_rfl))
    (.cons 22 _ _ _ decSmalls (.cons 22 _ _ _ decSmalls .nil)) rfl rfl Try.underlying4
    ?_ laidOut (by kernel_rfl) rfl ?_
  · intro ds h
    match ds, h with
    | [_, _], _ => exact ⟨rfl, rfl, rfl⟩
  · rintro _ ⟨_, _, rfl, ⟨es, hes, -, h1⟩, _, _, rfl, ⟨es2, hes2, -, h2⟩, rfl⟩
    cases hes; cases hes2
    obtain ⟨X, rfl⟩ := sms_of h1
    obtain ⟨Y, rfl⟩ := sms_of h2
    exact topSets_fs X Y

theorem topSets_holds : Rows.TopSetsSaid :=
  OpenClaim.holds_of_wide 3 Try.f3 rfl rfl rfl rfl rfl rfl rfl ⟨rfl, rfl, rfl, rfl, rfl⟩ rfl rfl rfl rfl rfl (by kernel_rfl) Try.func3 (by kernel_rfl)
    (of_decide_eq_true (by kernel_rfl)) (by unfold Func.isWrapper; first | (rw [if_pos (by decide +kernel)]; kernel_rfl) | (rw [if_neg (by decide +kernel)]; exact ⟨rfl, rfl⟩))
    (fun os started H enc _ => topSets_lifted os started H enc)

end Go.Proofs.Ytbjeagcnakdmnaa
