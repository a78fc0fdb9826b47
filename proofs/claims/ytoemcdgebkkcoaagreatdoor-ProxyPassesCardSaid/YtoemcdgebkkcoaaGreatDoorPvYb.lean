/- Abstract values: a result said without tokens, nil as an empty slice; tables of such. Nothing of any program. -/
import Derived.Test.YtoemcdgebkkcoaaGreatDoorPvYa
set_option linter.unusedSectionVars false
namespace Go.Pv
variable [GTab]
def fz : PV → PV
 | .nilsl => .sl 1 []
 | p => p.weak
def fz2 : PV → PV
 | .agg ps => .agg (ps.map fz)
 | p => fz p
def fz3 : PV → PV
 | .tup ps => .tup (ps.map fz2)
 | p => fz2 p
theorem fz_rel {g : Gh} {v : Value} {p : PV} (r : Rel g v p) : PRel g.h v (fz p) := by
 unfold fz
 split
 ·rw [r.nilsl_inv]; exact .slnil 1
 ·exact r.weak
theorem fz2_rel {g : Gh} {v : Value} {p : PV} (r : Rel g v p) : PRel g.h v (fz2 p) := by
 unfold fz2
 split
 ·obtain ⟨vs, rfl, hn, ho, hp⟩ := r.agg_inv
  refine .agg vs _ (by simp [hn]) ho (fun i v p hv hq => ?_)
  rw [List.getElem?_map] at hq
  obtain ⟨x, hx, rfl⟩ := Option.map_eq_some_iff.1 hq
  exact fz_rel (hp i v x hv hx)
 ·exact fz_rel r
theorem fz3_rel {g : Gh} {v : Value} {p : PV} (r : Rel g v p) : PRel g.h v (fz3 p) := by
 unfold fz3
 split
 ·obtain ⟨vs, rfl, hn, hp⟩ := r.tup_inv
  refine .tup vs _ (by simp [hn]) (fun i v p hv hq => ?_)
  rw [List.getElem?_map] at hq
  obtain ⟨x, hx, rfl⟩ := Option.map_eq_some_iff.1 hq
  exact fz2_rel (hp i v x hv hx)
 ·exact fz2_rel r
theorem Fsp.say {P : Program} {f : FuncId} {args : List PV} {nt' : Nat} {r r' : PV} (h : Fsp P f [] 0 args [] nt' r) (hr : ∀ (g : Gh) (v : Value), Rel g v r → PRel g.h v r') : Fsp P f [] 0 args [] 0 r' where
 len := h.len
 fn := h.fn
 calls := fun g w vs hI hb ht hs ha => (h.calls g w vs hI hb ht hs ha).mono fun e w' ⟨v, g', he, hI', hE, hk, hn, hr'⟩ =>
  ⟨v, g', he, ⟨hI'.hw, fun id ps h => by rw [st0_obj] at h; simp at h, fun id id' b h1 => by rw [st0_obj] at h1; simp at h1,
    fun k h => by rw [st0_lv] at h; simp at h, fun k k' b lo hi lo' hi' h => by rw [st0_lv] at h; simp at h, hI'.jnk_of (fun _ _ h => h) (fun _ _ _ => rfl) (fun c m o h => (hI'.jnk c m h).2.1 o) (fun id c m _ h1 h2 => ⟨h1, h2⟩) (fun k c m lo hi _ hk _ _ => by rw [st0_lv] at hk; simp at hk), hI'.tys, hI'.gl⟩,
    ⟨hE.le, hE.ty, hE.new, fun b o hb ho => hE.own b o hb (by
      rcases ho with ⟨id, h1, h2⟩ | ⟨k, lo, hi, h1, h2⟩ | hjn
      ·exact .inl ⟨id, h1, h2⟩
      ·rw [st0_lv] at h1; simp at h1
      ·exact .inr (.inr hjn)), hE.size, hE.keep, hE.os, hE.tape, hE.output⟩, hk, hn, .pure _ _ (hr g' v hr')⟩
def ranToF (P : Program) (or : Cl) (wbf : Nat → Bool) (n d : Nat) (f : FuncId) (args : List PV) (r : PV) : Bool :=
 match runI P or wbf n d f [] 0 args with
 | some ([], _, q) => pvEq r (fz3 q)
 | _ => false
theorem ranIsF {P : Program} (hm : P.follows .mixedOrders = true) {or : Cl} (hor : or.Ok P) {wbf : Nat → Bool} {n d : Nat} {f : FuncId} {args : List PV} {r : PV} (h : ranToF P or wbf n d f args r = true) : Fsp P f [] 0 args [] 0 r := by
 unfold ranToF at h
 split at h
 ·rename_i nt q hr
  rw [pvEq_eq h]
  exact (runI_ok hm hor _ _ _ _ _ _ _ hr).say fun g v r => fz3_rel r
 ·cases h
def ranAllF (P : Program) (or : Cl) (wbf : Nat → Bool) (n d : Nat) (f : FuncId) : List PV → Nat → Bool
 | [], _ => true
 | r :: l, i => ranToF P or wbf n d f [.int .i64 (.ofNat i)] r && ranAllF P or wbf n d f l (i + 1)
theorem ranAllF_at {P : Program} (hm : P.follows .mixedOrders = true) {or : Cl} (hor : or.Ok P) {wbf : Nat → Bool} {n d : Nat} {f : FuncId} : ∀ {l : List PV} {i : Nat}, ranAllF P or wbf n d f l i = true →
 ∀ {k : Nat} {r : PV}, l[k]? = some r → Fsp P f [] 0 [.int .i64 ((i + k : Nat) : Int)] [] 0 r
 | [], _, _, k, r, h => by simp at h
 | q :: l, i, h, k, r, hk => by
  unfold ranAllF at h
  rw [Bool.and_eq_true] at h
  cases k with
  | zero => simp at hk; subst hk; exact ranIsF hm hor h.1
  | succ k =>
   have := ranAllF_at hm hor h.2 (k := k) (r := r) (by simpa using hk)
   rwa [show i + 1 + k = i + (k + 1) by omega] at this
end Go.Pv
