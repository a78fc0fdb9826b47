/- Abstract values: a piece of code cut at a place of its row of steps. Nothing of any program. -/
import Derived.Test.YtbjeagcnakdmnaaPvIv
import Derived.Test.YtbjeagcnakdmnaaPvFz
set_option linter.unusedSimpArgs false
set_option linter.unusedVariables false
set_option linter.unusedSectionVars false
namespace Go.Pv
variable [GTab]
def headN : Nat → Code → Code
  | 0, .seq a _ => a
  | k + 1, .seq a b => .seq a (headN k b)
  | _, _ => .skip
def tailN : Nat → Code → Code
  | 0, .seq _ b => b
  | k + 1, .seq _ b => tailN k b
  | _, c => c
theorem PWP.cutV {P : Program} (hm : P.follows .mixedOrders = true) {m : Nat} : ∀ (k : Nat) {c : Code} {Q : Post} {S : PS}, VC P m (headN k c) (seqK (PWP P m (tailN k c)) Q) S → PWP P m c Q S
  | 0, c, Q, S, h => by
    cases c with
    | seq a b => exact PWP.seq (VC_sound hm h)
    | _ => exact h
  | k + 1, c, Q, S, h => by
    cases c with
    | seq a b =>
      refine PWP.seq ((VC_sound hm (show VC P m a (seqC P m (headN k b) (seqK (PWP P m (tailN k b)) Q)) S from h)).mono (fun e S' h => ?_))
      cases e with
      | normal => exact PWP.cutV hm k h
      | _ => exact h
    | _ => exact h
end Go.Pv
