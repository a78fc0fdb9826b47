/- Layer 60: an end, as plain data; how it stands in memory. -/
import Derived.Test.YtjhkaanphpcepaaLkTypes
set_option maxRecDepth 100000
set_option linter.unusedSimpArgs false
namespace Go.Proofs.Lk
open Go.Pv
/-- A piece under way. -/
structure Pc where
  n : Int
  b : List UInt8
  due : Bool
def Pc.pv (p : Pc) : PV := .agg [.int .i64 p.n, .str p.b, .bool p.due]
/-- An end. -/
structure En where
  most : Int
  way : List Pc
  next : Int
  rest : List UInt8
  exp : Int
  aside : Nat → List UInt8
  read : List UInt8
  ack : Bool
def En.cs (e : En) (w : PV) : List PV :=
  [.int .i64 e.most, w, .int .i64 e.next, .str e.rest, .int .i64 e.exp, .str (e.aside 0), .str (e.aside 1), .str (e.aside 2), .str (e.aside 3), .str (e.aside 4), .str (e.aside 5), .str (e.aside 6), .str (e.aside 7),
   .str (e.aside 8), .str (e.aside 9), .str (e.aside 10), .str (e.aside 11), .str (e.aside 12), .str (e.aside 13), .str (e.aside 14), .str (e.aside 15), .str e.read, .bool e.ack]
def pcs (l : List Pc) : PV := .sl 3 (l.map Pc.pv)
def En.pv (e : En) : PV := .agg (e.cs (pcs e.way))
def End0 : En := { most := 0, way := [], next := 0, rest := [], exp := 0, aside := fun _ => [], read := [], ack := false }
/-- How many bytes the next piece has. -/
def En.mn (e : En) : Int := if (e.rest.length : Int) < e.most then (e.rest.length : Int) else e.most
/-- One piece more under way. -/
def En.num1 (e : En) : En :=
  { e with way := e.way ++ [⟨e.next, e.rest.take e.mn.toNat, true⟩], rest := e.rest.drop e.mn.toNat, next := e.next + 1 }
def numL : Nat → En → En
  | 0, e => e
  | k + 1, e => if (e.rest != [] && decide ((e.way.length : Int) < 16)) = true then numL k e.num1 else e
/-- Pieces are numbered, as far as there is room. -/
def En.number (e : En) : En := numL 17 e
theorem numL_stable : ∀ (k : Nat) (e : En), 16 ≤ e.way.length + k → numL (k + 1) e = numL k e
  | 0, e, h => by
    have : ¬ ((e.way.length : Int) < 16) := by omega
    simp [numL, this]
  | k + 1, e, h => by
    show (if (e.rest != [] && decide ((e.way.length : Int) < 16)) = true then numL (k + 1) e.num1 else e) = (if (e.rest != [] && decide ((e.way.length : Int) < 16)) = true then numL k e.num1 else e)
    split
    · exact numL_stable k e.num1 (by simp [En.num1]; omega)
    · rfl
theorem numL_all {k e} (h : 16 ≤ e.way.length + k) : ∀ j, numL (k + j) e = numL k e
  | 0 => rfl
  | j + 1 => by rw [← Nat.add_assoc, numL_stable (k + j) e (by omega), numL_all h j]

/-- slices.Clone of pieces: a slice of its own. -/
theorem of_sl {P : Program} {f : FuncId} {bs bs' : List (List PV)} {nt nt' : Nat} {sz : Nat} {es : List PV} {args : List PV} {r : PV} [GTab] (h1 : es = [] → Fsp P f bs nt (.nilsl :: args) bs' nt' r) (h2 : Fsp P f bs nt (.sln sz es :: args) bs' nt' r) :
    Fsp P f bs nt (.sl sz es :: args) bs' nt' r where
  len := h2.len
  fn := h2.fn
  calls := fun g w vs hI hb ht hs ha => by
    have hv0 : ∃ v, vs[0]? = some v := ⟨vs[0]'(by rw [hs]; simp), by simp⟩
    obtain ⟨v, hv⟩ := hv0
    have hr := (ha 0 v _ hv rfl).sl_inv
    have rest : ∀ (q : PV), Rel g v q → ∀ (i : Nat) (v' : Value) (p : PV), vs[i]? = some v' → (q :: args)[i]? = some p → Rel g v' p := by
      intro q hq i v' p hv' hp
      cases i with
      | zero => rw [hv] at hv'; cases hv'; cases hp; exact hq
      | succ i => exact ha (i + 1) v' p hv' (by simpa using hp)
    cases hr with
    | slnil => exact (h1 rfl).calls g w vs hI hb ht (by simpa using hs) (rest _ (.pure _ _ .nilsl))
    | sl b off n cap _ _ vals hn hc hm hsz hh ho hp => exact h2.calls g w vs hI hb ht (by simpa using hs) (rest _ (.pure _ _ (.sln _ _ _ _ _ _ (.sl b off n cap sz es vals hn hc hm hsz hh ho hp))))
end Go.Proofs.Lk
