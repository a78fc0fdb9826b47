/- Abstract values: a result said without tokens, nil as an empty slice; tables of such. Nothing of any program. -/
import Derived.Test.YtplaaagcbleflaaDoorPvYa
set_option linter.unusedSectionVars false
namespace Go.Pv
variable [GTab]
/-- A cell, without its token; nil is an empty row of cells of one. -/
def fz : PV → PV
  | .nilsl => .sl 1 []
  | p => p.weak
def fz2 : PV → PV
  | .agg ps => .agg (ps.map fz)
  | p => fz p
def fz3 : PV → PV
  | .tup ps => .tup (ps.map fz2)
  | p => fz2 p
theorem fz_rel {g : Gh} {v : Value} {p : PV} (r : Rel g v p) : PRel g.h v (fz p) := by
  unfold fz
  split
  · rw [r.nilsl_inv]; exact .slnil 1
  · exact r.weak
theorem fz2_rel {g : Gh} {v : Value} {p : PV} (r : Rel g v p) : PRel g.h v (fz2 p) := by
  unfold fz2
  split
  · obtain ⟨vs, rfl, hn, ho, hp⟩ := r.agg_inv
    refine .agg vs _ (by simp [hn]) ho (fun i v p hv hq => ?_)
    rw [List.getElem?_map] at hq
    obtain ⟨x, hx, rfl⟩ := Option.map_eq_some_iff.1 hq
    exact fz_rel (hp i v x hv hx)
  · exact fz_rel r
theorem fz3_rel {g : Gh} {v : Value} {p : PV} (r : Rel g v p) : PRel g.h v (fz3 p) := by
  unfold fz3
  split
  · obtain ⟨vs, rfl, hn, hp⟩ := r.tup_inv
    refine .tup vs _ (by simp [hn]) (fun i v p hv hq => ?_)
    rw [List.getElem?_map] at hq
    obtain ⟨x, hx, rfl⟩ := Option.map_eq_some_iff.1 hq
    exact fz2_rel (hp i v x hv hx)
  · exact fz2_rel r
/-- What is told, said in other words. -/
theorem Fsp.say {P : Program} {f : FuncId} {args : List PV} {nt' : Nat} {r r' : PV} (h : Fsp P f [] 0 args [] nt' r) (hr : ∀ (g : Gh) (v : Value), Rel g v r → PRel g.h v r') : Fsp P f [] 0 args [] 0 r' where
  len := h.len
  fn := h.fn
  calls := fun g w vs hI hb ht hs ha => (h.calls g w vs hI hb ht hs ha).mono fun e w' ⟨v, g', he, hI', hE, hk, hn, hr'⟩ =>
    ⟨v, g', he, ⟨hI'.hw, fun id ps h => by rw [st0_obj] at h; simp at h, fun id id' b h1 => by rw [st0_obj] at h1; simp at h1,
      fun k h => by rw [st0_lv] at h; simp at h, fun k k' b lo hi lo' hi' h => by rw [st0_lv] at h; simp at h, hI'.tys, hI'.gl⟩,
      ⟨hE.le, hE.ty, hE.new, fun b o hb ho => hE.own b o hb (by
        rcases ho with ⟨id, h1, h2⟩ | ⟨k, lo, hi, h1, h2⟩
        · exact .inl ⟨id, h1, h2⟩
        · rw [st0_lv] at h1; simp at h1), hE.size, hE.keep, hE.os, hE.tape, hE.output⟩, hk, hn, .pure _ _ (hr g' v hr')⟩
def ranToF (P : Program) (or : Cl) (wbf : Nat → Bool) (n d : Nat) (f : FuncId) (args : List PV) (r : PV) : Bool :=
  match runI P or wbf n d f [] 0 args with
  | some ([], _, q) => pvEq r (fz3 q)
  | _ => false
theorem ranIsF {P : Program} (hm : P.follows .mixedOrders = true) {or : Cl} (hor : or.Ok P) {wbf : Nat → Bool} {n d : Nat} {f : FuncId} {args : List PV} {r : PV} (h : ranToF P or wbf n d f args r = true) : Fsp P f [] 0 args [] 0 r := by
  unfold ranToF at h
  split at h
  · rename_i nt q hr
    rw [pvEq_eq h]
    exact (runI_ok hm hor _ _ _ _ _ _ _ hr).say fun g v r => fz3_rel r
  · cases h
def ranAllF (P : Program) (or : Cl) (wbf : Nat → Bool) (n d : Nat) (f : FuncId) : List PV → Nat → Bool
  | [], _ => true
  | r :: l, i => ranToF P or wbf n d f [.int .i64 (.ofNat i)] r && ranAllF P or wbf n d f l (i + 1)
theorem ranAllF_at {P : Program} (hm : P.follows .mixedOrders = true) {or : Cl} (hor : or.Ok P) {wbf : Nat → Bool} {n d : Nat} {f : FuncId} : ∀ {l : List PV} {i : Nat}, ranAllF P or wbf n d f l i = true →
    ∀ {k : Nat} {r : PV}, l[k]? = some r → Fsp P f [] 0 [.int .i64 ((i + k : Nat) : Int)] [] 0 r
  | [], _, _, k, r, h => by simp at h
  | q :: l, i, h, k, r, hk => by
    unfold ranAllF at h
    rw [Bool.and_eq_true] at h
    cases k with
    | zero => simp at hk; subst hk; exact ranIsF hm hor h.1
    | succ k =>
      have := ranAllF_at hm hor h.2 (k := k) (r := r) (by simpa using hk)
      rwa [show i + 1 + k = i + (k + 1) by omega] at this
end Go.Pv

/- The end of a function whose result lies in a box. Nothing of any program. -/
namespace Go.Pv
variable [GTab]
theorem endK_cell {P : Program} {S : PS} {m a t id : Nat} {ps qs rs : List PV} {bs' : List (List PV)} (γ : List Nat) (ha : S.get a = .box id 0) (ho : S.obj id = some ps) (hl : ldOk P t ps) (hp : ldPV P t ps = .agg qs) (hr : wkL (res1 [] γ) qs rs)
    (g1 : γ.length = bs'.length) (g2 : nodupB γ = true) (g3 : (upto 0 m).all (fun i => γ[i]? == some i) = true)
    (hw : ∀ (i j : Nat) (ps : List PV), γ[i]? = some j → bs'[i]? = some ps → ∃ qs, S.obj j = some qs ∧ wkL (res1 [] γ) qs ps) : endK P m [.cell a t] bs' 0 (.agg rs) S := by
  have hs : resPV P S [.cell a t] = some [.agg qs] := by
    simp only [resPV, ha, ho, List.drop_zero, Option.map_some, hp]
  refine endK_box [] γ rfl rfl rfl g1 g2 g3 hw ⟨?_, by rw [hs]; rfl, ?_⟩
  · simp only [resOk, ha, ho, List.drop_zero, and_true]; exact hl
  · unfold resOf
    rw [hs]
    exact .inr ⟨qs, rfl, hr⟩
end Go.Pv
