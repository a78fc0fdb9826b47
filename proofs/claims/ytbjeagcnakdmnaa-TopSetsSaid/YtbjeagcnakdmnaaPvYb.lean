/- Abstract values: a result said without tokens, nil as an empty slice; tables of such. Nothing of any program. -/
import Derived.Test.YtbjeagcnakdmnaaPvYa
set_option linter.unusedSectionVars false
namespace Go.Pv
variable [GTab]
/-- What is told, said in other words. -/
theorem Fsp.say {P : Program} {f : FuncId} {args : List PV} {nt' : Nat} {r r' : PV} (h : Fsp P f [] 0 args [] nt' r) (hr : ∀ (g : Gh) (v : Value), Rel g v r → PRel g.h v r') : Fsp P f [] 0 args [] 0 r' where
  len := h.len
  fn := h.fn
  calls := fun g w vs hI hb ht hs ha => (h.calls g w vs hI hb ht hs ha).mono fun e w' ⟨v, g', he, hI', hE, hk, hn, hr'⟩ =>
    ⟨v, g', he, ⟨hI'.hw, fun id ps h => by rw [st0_obj] at h; simp at h, fun id id' b h1 => by rw [st0_obj] at h1; simp at h1,
      fun k h => by rw [st0_lv] at h; simp at h, fun k k' b lo hi lo' hi' h => by rw [st0_lv] at h; simp at h, hI'.jnk_of (fun _ _ h => h) (fun _ _ _ => rfl) (fun c m o h => (hI'.jnk c m h).2.1 o) (fun id c m _ h1 h2 => ⟨h1, h2⟩) (fun k c m lo hi _ hk _ _ => by rw [st0_lv] at hk; simp at hk), hI'.tys, hI'.gl⟩,
      ⟨hE.le, hE.ty, hE.new, fun b o hb ho => hE.own b o hb (by
        rcases ho with ⟨id, h1, h2⟩ | ⟨k, lo, hi, h1, h2⟩ | hjn
        · exact .inl ⟨id, h1, h2⟩
        · rw [st0_lv] at h1; simp at h1
        · exact .inr (.inr hjn)), hE.size, hE.keep, hE.os, hE.tape, hE.output⟩, hk, hn, .pure _ _ (hr g' v hr')⟩
end Go.Pv
