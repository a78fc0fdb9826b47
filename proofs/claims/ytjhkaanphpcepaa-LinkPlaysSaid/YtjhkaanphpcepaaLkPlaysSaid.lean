/- LinkPlays: the given statement, proved. No condition. -/
import Derived.Test.YtjhkaanphpcepaaLkPlays
import Derived.Test.YtjhkaanphpcepaaPvXb
import Derived.Test.YtjhkaanphpcepaaRows
set_option maxRecDepth 100000
namespace Go.Proofs.Ytjhkaanphpcepaa
open Go.Pv Go.Proofs.Lk

theorem own : ownKnob Try.prog.godebug = none := by kernel_rfl
theorem laidOut : laidOutB Try.prog = true := by kernel_rfl
def gAct (ps : List PV) : Prop := gL [gInt .i64, gStr] ps
theorem act_of {ps : List PV} (h : gAct ps) : ∃ a : Ac, ps = [.int .i64 a.k, .str a.b] := by
  obtain ⟨q1, r1, rfl, ⟨k, rfl, -⟩, q2, r2, rfl, ⟨b, rfl, -⟩, rfl⟩ := h
  exact ⟨⟨k, b⟩, rfl⟩
def flds (P : Program) (t : TypeId) : Array Field := match P.underlying t with | some (.struct fs) => fs | _ => #[]
theorem decAct : DecC Try.prog 53 gAct := by
  have hm : (flds Try.prog 53).toList.map (fun f => (f.offset, f.type)) = [(0, 3), (1, 9)] := by kernel_rfl
  have hc : Try.prog.cellsOf 53 = 2 := by kernel_rfl
  refine DecC.struct (fs := flds Try.prog 53) (by kernel_rfl) ?_
  rw [hc]
  generalize (flds Try.prog 53).toList = fs at hm
  have hlen : fs.length = 2 := by simpa using congrArg List.length hm
  match fs, hlen, hm with
  | [f0, f1], _, hm =>
    simp only [List.map_cons, List.map_nil, List.cons.injEq, Prod.mk.injEq, and_true] at hm
    obtain ⟨⟨o0, t0⟩, o1, t1⟩ := hm
    refine .cons 0 f0 [f1] _ _ 2 o0 (by rw [t0]; exact .int (by kernel_rfl)) ?_
    rw [t0, show Try.prog.cellsOf 3 = 1 by kernel_rfl]
    refine .cons (0 + 1) f1 [] _ _ 2 o1 (by rw [t1]; exact .str (by kernel_rfl)) ?_
    rw [t1, show Try.prog.cellsOf 9 = 1 by kernel_rfl]
    exact .nil 2
def gAc (p : PV) : Prop := ∃ a : Ac, p = a.pv
theorem decActs : DecW Try.prog 47 (one1 (gSlW 2 24 gAc)) := by
  have := DecW.sl (P := Try.prog) (t := 47) (e := 53) (g := gAct) (G := gAc) (by kernel_rfl) decAct (by rw [show Try.prog.cellsOf 53 = 2 by kernel_rfl]; decide) (fun ps _ h => by obtain ⟨a, rfl⟩ := act_of h; exact ⟨a.pv, rfl, a, rfl⟩)
  rwa [show Try.prog.cellsOf 53 = 2 by kernel_rfl, show Try.prog.bytesOf 53 = 24 by kernel_rfl] at this
theorem acs_of : ∀ {es : List PV}, (∀ p ∈ es, gAc p) → ∃ l : List Ac, es = l.map Ac.pv
  | [], _ => ⟨[], rfl⟩
  | e :: es, h => by
    obtain ⟨a, rfl⟩ := h e (List.mem_cons_self ..)
    obtain ⟨l, rfl⟩ := acs_of (es := es) (fun p hp => h p (List.mem_cons_of_mem _ hp))
    exact ⟨a :: l, rfl⟩

theorem linkPlays_lifted (os : Os) (started : os.Started) (H : Type) (enc : TypeId × Value → H) :
    ReturnsInHanded {} Try.checked os 6 .any (Rows.linkPlaysSpec.pre6 enc Try.prog Try.f6 [] false) (Rows.linkPlaysSpec.post enc Try.prog Try.f6 false true false false) := by
  refine lawInW (C := Try.checked) (t := 4) (Gs := [one1 (gInt .i64), one1 (gSlW 2 24 gAc)]) own started (by kernel_rfl) Try.func6
    (ChangeSpec.witness6 (enc := enc) (C := Try.checked) false ⟨#[], #[.int .i64 0, .slice none 0 0], []⟩ 8 (by kernel_rfl) (by kernel_rfl) (by kernel_rfl) (by kernel_rfl))
    (.cons 3 _ _ _ (.of (.int Try.underlying3)) (.cons 47 _ _ _ decActs .nil)) rfl rfl Try.underlying4
    ?_ laidOut (by kernel_rfl) rfl ?_
  · intro ds h
    match ds, h with
    | [_, _], _ => exact ⟨rfl, rfl, rfl⟩
  · rintro _ ⟨_, _, rfl, ⟨k, hk, wk⟩, _, _, rfl, ⟨es, hes, -, hb, hall⟩, rfl⟩
    cases hk; cases hes
    obtain ⟨l, rfl⟩ := acs_of hall
    exact plays_fs k l

theorem linkPlays_holds : Rows.LinkPlaysSaid :=
  OpenClaim.holds_of_wide 6 Try.f6 rfl rfl rfl rfl rfl rfl rfl ⟨rfl, rfl, rfl, rfl, rfl⟩ rfl rfl rfl rfl rfl (by kernel_rfl) Try.func6 (by kernel_rfl)
    (of_decide_eq_true (by kernel_rfl)) (by unfold Func.isWrapper; first | (rw [if_pos (by decide +kernel)]; kernel_rfl) | (rw [if_neg (by decide +kernel)]; exact ⟨rfl, rfl⟩))
    (fun os started H enc _ => linkPlays_lifted os started H enc)

end Go.Proofs.Ytjhkaanphpcepaa
