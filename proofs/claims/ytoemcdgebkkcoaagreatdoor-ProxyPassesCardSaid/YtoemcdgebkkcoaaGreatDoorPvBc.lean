/- A strings.Builder's first check and its text, as oracles of the reckoner. Nothing of any program. -/
import Derived.Test.YtoemcdgebkkcoaaGreatDoorPvBs
set_option linter.unusedSimpArgs false
set_option linter.unusedVariables false
set_option linter.unusedSectionVars false
namespace Go.Pv
open Go.Proofs Go.Shelf Go.RowKit
variable [GTab] {P : Program} {ρ : Ren}
def chkCl (f T : Nat) : Cl := fun k b nt args =>
 match Nat.beq k f, b, args with
 | true, [[.nbp T' 0, c]], [.box 0 0] => match Nat.beq T' T with | true => some ([[.nbp T 0, c]], nt, .tup []) | false => none
 | _, _, _ => none
theorem chkCl_ok {f T : Nat} (h : ∀ (c : PV) (nt : Nat), Fsp P f [[.nbp T 0, c]] nt [.box 0 0] [[.nbp T 0, c]] nt (.tup [])) : (chkCl f T).Ok P := by
 intro k b nt args bs' nt' r e
 unfold chkCl at e
 split at e
 ·rename_i T' c hk
  split at e
  ·rename_i ht
   cases e
   rw [Nat.beq_eq] at hk ht
   subst hk; subst ht
   exact h c nt
  ·cases e
 ·cases e
def txtCl (f T E : Nat) : Cl := fun k b nt args =>
 match Nat.beq k f, b, nt, args with
 | true, [[.nbp T' 0, .bsl E' es 0]], 1, [.box 0 0] => match Nat.beq T' T && Nat.beq E' E && pvsEq es (bs (es.map byteOf)) with | true => some ([[.nbp T 0, .sl 1 es]], 0, .str (es.map byteOf)) | false => none
 | _, _, _, _ => none
theorem txtCl_ok {f T E : Nat} (h : ∀ (l : List UInt8), Fsp P f [[.nbp T 0, .bsl E (bs l) 0]] 1 [.box 0 0] [[.nbp T 0, .sl 1 (bs l)]] 0 (.str l)) : (txtCl f T E).Ok P := by
 intro k b nt args bs' nt' r e
 unfold txtCl at e
 split at e
 ·rename_i T' E' es hk
  split at e
  ·rename_i ht
   cases e
   rw [Bool.and_eq_true, Bool.and_eq_true, Nat.beq_eq, Nat.beq_eq] at ht
   rw [Nat.beq_eq] at hk
   obtain ⟨⟨h1, h2⟩, h3⟩ := ht
   subst hk; subst h1; subst h2
   have h4 := pvsEq_eq h3
   have := h (es.map byteOf)
   rw [← h4] at this
   exact this
  ·cases e
 ·cases e
end Go.Pv
