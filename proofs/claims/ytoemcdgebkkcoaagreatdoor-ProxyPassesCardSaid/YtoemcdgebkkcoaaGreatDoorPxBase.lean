/- Oracles of the reckoner at this program; awake() of the law. -/
import Derived.Test.YtoemcdgebkkcoaaGreatDoorShTypes
import Derived.Test.YtoemcdgebkkcoaaGreatDoorPvZ
import Derived.KernelRfl
set_option maxRecDepth 100000
set_option linter.unusedSimpArgs false
set_option linter.unusedVariables false
namespace Go.Proofs.Sh
open Go.Pv
theorem of_sl {P : Program} {f : FuncId} {bs bs' : List (List PV)} {nt nt' : Nat} {sz : Nat} {es : List PV} {args : List PV} {r : PV} [GTab] (h1 : es = [] → Fsp P f bs nt (.nilsl :: args) bs' nt' r) (h2 : Fsp P f bs nt (.sln sz es :: args) bs' nt' r) :
 Fsp P f bs nt (.sl sz es :: args) bs' nt' r where
 len := h2.len
 fn := h2.fn
 calls := fun g w vs hI hb ht hs ha => by
  have hv0 : ∃ v, vs[0]? = some v := ⟨vs[0]'(by rw [hs]; simp), by simp⟩
  obtain ⟨v, hv⟩ := hv0
  have hr := (ha 0 v _ hv rfl).sl_inv
  have rest : ∀ (q : PV), Rel g v q → ∀ (i : Nat) (v' : Value) (p : PV), vs[i]? = some v' → (q :: args)[i]? = some p → Rel g v' p := by
   intro q hq i v' p hv' hp
   cases i with
   | zero => rw [hv] at hv'; cases hv'; cases hp; exact hq
   | succ i => exact ha (i + 1) v' p hv' (by simpa using hp)
  cases hr with
  | slnil => exact (h1 rfl).calls g w vs hI hb ht (by simpa using hs) (rest _ (.pure _ _ .nilsl))
  | slx a => exact h2.calls g w vs hI hb ht (by simpa using hs) (rest _ (.pure _ _ (.slnx a sz)))
  | sl b off n cap _ _ vals hn hc hm hsz hh ho hp => exact h2.calls g w vs hI hb ht (by simpa using hs) (rest _ (.pure _ _ (.sln _ _ _ _ _ _ (.sl b off n cap sz es vals hn hc hm hsz hh ho hp))))
theorem pclone_nil : Fsp Tryz.prog 50 [] 0 [.nilsl] [] 0 .nilsl := runJ_ok mixed (noCl_ok _) (wbf := fun _ _ => false) (n := 4) (d := 2) (u := 0) _ _ _ _ _ _ _ (by kernel_rfl)
theorem pclone_sln : Fsp Tryz.prog 50 [] 0 [.sln 3 []] [] 1 (.slt 3 [] 0) := runJ_ok mixed (noCl_ok _) (wbf := fun _ _ => false) (n := 4) (d := 2) (u := 0) _ _ _ _ _ _ _ (by kernel_rfl)
theorem pclone_sl : Fsp Tryz.prog 50 [] 0 [.sl 3 []] [] 1 (.slt 3 [] 0) := of_sl (fun _ => pclone_nil.nilTok) pclone_sln
def pclCl : Cl := fun g bs nt args =>
 match Nat.beq g 50, bs, nt, args with
 | true, [], 0, [.sl sz []] => match Nat.beq sz 3 with | true => some ([], 1, .slt 3 [] 0) | false => none
 | _, _, _, _ => none
theorem pclCl_ok : pclCl.Ok Tryz.prog := by
 intro g bs nt args bs' nt' r h
 unfold pclCl at h
 split at h
 ·rename_i sz hg
  split at h
  ·rename_i hs
   cases h
   rw [Nat.beq_eq] at hg hs
   subst hg; subst hs
   exact pclone_sl
  ·cases h
 ·cases h
def orc : Cl := orCl pclCl (orCl (strCl 94) (orCl bldCl (orCl anyCl fldCl)))
theorem orc_ok : orc.Ok Tryz.prog := orCl_ok pclCl_ok (orCl_ok clOk (orCl_ok bldCl_ok (orCl_ok anyCl_ok fldCl_ok)))
def pwb (u f : Nat) : Bool := Nat.beq f 50 && (Nat.beq u 26 || Nat.beq u 69)
theorem awake_fs : Fsp Tryz.prog 8 [] 0 [] [] 0 (.bool true) := ranTrueJ mixed orc_ok (wbf := pwb) (n := 100) (d := 40) (by kernel_rfl)
end Go.Proofs.Sh
