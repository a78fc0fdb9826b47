/- Abstract values: what holds under few laid variables holds under more. Nothing of any program. -/
import Derived.Test.YtableoaobjecaaaDoorPvZ
set_option linter.unusedSimpArgs false
set_option linter.unusedVariables false
namespace Go.Pv
theorem InvW.down {T1 T2 : GTab} (h : ∀ k ps, gat (@GTab.tab T1) k = some ps → gat (@GTab.tab T2) k = some ps) {g : Gh} {S : PS} {w : World} (hI : @InvW T2 g S w) : @InvW T1 g S w :=
  @InvW.mk T1 g S w (@InvW.hw T2 g S w hI) (@InvW.objs T2 g S w hI) (@InvW.inj T2 g S w hI) (@InvW.toks T2 g S w hI) (@InvW.tokd T2 g S w hI) (fun k ps hk => @InvW.gl T2 g S w hI k ps (h k ps hk))
theorem InvW.swap {T1 T2 : GTab} {g g' : Gh} {S S' : PS} {w w' : World} (hI : @InvW T2 g S w) (hI' : @InvW T1 g' S' w') (hle : g.h.le g'.h) : @InvW T2 g' S' w' :=
  @InvW.mk T2 g' S' w' (@InvW.hw T1 g' S' w' hI') (@InvW.objs T1 g' S' w' hI') (@InvW.inj T1 g' S' w' hI') (@InvW.toks T1 g' S' w' hI') (@InvW.tokd T1 g' S' w' hI') (fun k ps hk => (@InvW.gl T2 g S w hI k ps hk).mono hle)
theorem Fsp.up {T1 T2 : GTab} (h : ∀ k ps, gat (@GTab.tab T1) k = some ps → gat (@GTab.tab T2) k = some ps) {P : Program} {f : FuncId} {bs bs' : List (List PV)} {nt nt' : Nat} {args : List PV} {r : PV} (hS : @Fsp T1 P f bs nt args bs' nt' r) : @Fsp T2 P f bs nt args bs' nt' r :=
  @Fsp.mk T2 P f bs nt args bs' nt' r (@Fsp.len T1 P f bs nt args bs' nt' r hS) (@Fsp.fn T1 P f bs nt args bs' nt' r hS) fun g w vs hI hb ht hs ha =>
    (@Fsp.calls T1 P f bs nt args bs' nt' r hS g w vs (@InvW.down T1 T2 h g _ w hI) hb ht hs ha).mono fun e w' ⟨v, g', he, hI', hE, hk, hn, hr⟩ =>
      ⟨v, g', he, @InvW.swap T1 T2 g g' _ _ w w' hI hI' hE.le, hE, hk, hn, hr⟩
theorem Cl.Ok.up {T1 T2 : GTab} (h : ∀ k ps, gat (@GTab.tab T1) k = some ps → gat (@GTab.tab T2) k = some ps) {P : Program} {cl : Cl} (hS : @Cl.Ok T1 P cl) : @Cl.Ok T2 P cl :=
  fun f bs nt args bs' nt' r e => @Fsp.up T1 T2 h P f bs bs' nt nt' args r (hS f bs nt args bs' nt' r e)
end Go.Pv
