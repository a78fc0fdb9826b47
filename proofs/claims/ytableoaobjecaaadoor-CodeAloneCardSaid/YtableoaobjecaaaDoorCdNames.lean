/- Names: of any code, as the tables have them; the code of a name. -/
import Derived.Test.YtableoaobjecaaaDoorCdOut
import Derived.Test.YtableoaobjecaaaDoorCdAwake
set_option maxRecDepth 100000
set_option linter.unusedSimpArgs false
set_option linter.unusedVariables false
namespace Go.Proofs.Cd
open Go.Pv

def nameT : List PV :=
  [.str [],
   .str [99, 114, 101, 97, 116, 101, 45, 119, 105, 110, 100, 111, 119],
   .str [100, 101, 115, 116, 114, 111, 121, 45, 119, 105, 110, 100, 111, 119],
   .str [109, 97, 112, 45, 119, 105, 110, 100, 111, 119],
   .str [117, 110, 109, 97, 112, 45, 119, 105, 110, 100, 111, 119],
   .str [99, 111, 110, 102, 105, 103, 117, 114, 101, 45, 119, 105, 110, 100, 111, 119],
   .str [114, 101, 112, 97, 114, 101, 110, 116, 45, 119, 105, 110, 100, 111, 119],
   .str [99, 104, 97, 110, 103, 101, 45, 119, 105, 110, 100, 111, 119],
   .str [115, 104, 97, 112, 101, 45, 119, 105, 110, 100, 111, 119],
   .str [103, 101, 116, 45, 103, 101, 111, 109, 101, 116, 114, 121],
   .str [113, 117, 101, 114, 121, 45, 116, 114, 101, 101],
   .str [105, 110, 116, 101, 114, 110, 45, 97, 116, 111, 109],
   .str [97, 116, 111, 109, 45, 110, 97, 109, 101],
   .str [99, 104, 97, 110, 103, 101, 45, 112, 114, 111, 112, 101, 114, 116, 121],
   .str [100, 101, 108, 101, 116, 101, 45, 112, 114, 111, 112, 101, 114, 116, 121],
   .str [103, 101, 116, 45, 112, 114, 111, 112, 101, 114, 116, 121],
   .str [108, 105, 115, 116, 45, 112, 114, 111, 112, 101, 114, 116, 105, 101, 115],
   .str [99, 114, 101, 97, 116, 101, 45, 112, 105, 120, 109, 97, 112],
   .str [102, 114, 101, 101, 45, 112, 105, 120, 109, 97, 112],
   .str [99, 114, 101, 97, 116, 101, 45, 112, 101, 110],
   .str [99, 104, 97, 110, 103, 101, 45, 112, 101, 110],
   .str [99, 108, 105, 112, 45, 112, 101, 110],
   .str [102, 114, 101, 101, 45, 112, 101, 110],
   .str [111, 112, 101, 110, 45, 102, 111, 110, 116],
   .str [99, 108, 111, 115, 101, 45, 102, 111, 110, 116],
   .str [113, 117, 101, 114, 121, 45, 102, 111, 110, 116],
   .str [99, 108, 101, 97, 114, 45, 97, 114, 101, 97],
   .str [99, 111, 112, 121, 45, 97, 114, 101, 97],
   .str [100, 114, 97, 119, 45, 112, 111, 105, 110, 116, 115],
   .str [100, 114, 97, 119, 45, 108, 105, 110, 101, 115],
   .str [102, 105, 108, 108, 45, 114, 101, 99, 116, 115],
   .str [102, 105, 108, 108, 45, 112, 111, 108, 121],
   .str [100, 114, 97, 119, 45, 97, 114, 99, 115],
   .str [102, 105, 108, 108, 45, 97, 114, 99, 115],
   .str [112, 117, 116, 45, 105, 109, 97, 103, 101],
   .str [103, 101, 116, 45, 105, 109, 97, 103, 101],
   .str [100, 114, 97, 119, 45, 116, 101, 120, 116],
   .str [115, 101, 116, 45, 102, 111, 99, 117, 115],
   .str [103, 101, 116, 45, 102, 111, 99, 117, 115],
   .str [103, 114, 97, 98, 45, 112, 111, 105, 110, 116, 101, 114],
   .str [117, 110, 103, 114, 97, 98, 45, 112, 111, 105, 110, 116, 101, 114],
   .str [103, 114, 97, 98, 45, 98, 117, 116, 116, 111, 110],
   .str [117, 110, 103, 114, 97, 98, 45, 98, 117, 116, 116, 111, 110],
   .str [103, 114, 97, 98, 45, 107, 101, 121, 98, 111, 97, 114, 100],
   .str [117, 110, 103, 114, 97, 98, 45, 107, 101, 121, 98, 111, 97, 114, 100],
   .str [103, 114, 97, 98, 45, 107, 101, 121],
   .str [117, 110, 103, 114, 97, 98, 45, 107, 101, 121],
   .str [97, 108, 108, 111, 119, 45, 101, 118, 101, 110, 116, 115],
   .str [113, 117, 101, 114, 121, 45, 112, 111, 105, 110, 116, 101, 114],
   .str [119, 97, 114, 112, 45, 112, 111, 105, 110, 116, 101, 114],
   .str [115, 101, 116, 45, 115, 101, 108, 101, 99, 116, 105, 111, 110],
   .str [103, 101, 116, 45, 115, 101, 108, 101, 99, 116, 105, 111, 110],
   .str [99, 111, 110, 118, 101, 114, 116, 45, 115, 101, 108, 101, 99, 116, 105, 111, 110],
   .str [115, 101, 110, 100, 45, 101, 118, 101, 110, 116],
   .str [115, 97, 118, 101, 45, 119, 105, 110, 100, 111, 119],
   .str [107, 105, 108, 108, 45, 99, 108, 105, 101, 110, 116],
   .str [103, 114, 97, 98, 45, 115, 101, 114, 118, 101, 114],
   .str [117, 110, 103, 114, 97, 98, 45, 115, 101, 114, 118, 101, 114],
   .str [110, 111, 45, 111, 112]]

def evNameT : List PV :=
  [.str [],
   .str [107, 101, 121, 45, 112, 114, 101, 115, 115],
   .str [107, 101, 121, 45, 114, 101, 108, 101, 97, 115, 101],
   .str [98, 117, 116, 116, 111, 110, 45, 112, 114, 101, 115, 115],
   .str [98, 117, 116, 116, 111, 110, 45, 114, 101, 108, 101, 97, 115, 101],
   .str [109, 111, 116, 105, 111, 110],
   .str [101, 110, 116, 101, 114],
   .str [108, 101, 97, 118, 101],
   .str [102, 111, 99, 117, 115, 45, 105, 110],
   .str [102, 111, 99, 117, 115, 45, 111, 117, 116],
   .str [101, 120, 112, 111, 115, 101],
   .str [103, 114, 97, 112, 104, 105, 99, 115, 45, 101, 120, 112, 111, 115, 101],
   .str [110, 111, 45, 101, 120, 112, 111, 115, 101],
   .str [99, 114, 101, 97, 116, 101],
   .str [100, 101, 115, 116, 114, 111, 121],
   .str [109, 97, 112],
   .str [117, 110, 109, 97, 112],
   .str [109, 97, 112, 45, 114, 101, 113, 117, 101, 115, 116],
   .str [99, 111, 110, 102, 105, 103, 117, 114, 101],
   .str [99, 111, 110, 102, 105, 103, 117, 114, 101, 45, 114, 101, 113, 117, 101, 115, 116],
   .str [114, 101, 112, 97, 114, 101, 110, 116],
   .str [112, 114, 111, 112, 101, 114, 116, 121],
   .str [115, 101, 108, 101, 99, 116, 105, 111, 110, 45, 99, 108, 101, 97, 114],
   .str [115, 101, 108, 101, 99, 116, 105, 111, 110, 45, 114, 101, 113, 117, 101, 115, 116],
   .str [115, 101, 108, 101, 99, 116, 105, 111, 110, 45, 110, 111, 116, 105, 102, 121],
   .str [109, 101, 115, 115, 97, 103, 101],
   .str [],
   .str [],
   .str [],
   .str [],
   .str [],
   .str [],
   .str [],
   .str [],
   .str [],
   .str [],
   .str [],
   .str [],
   .str [],
   .str [],
   .str [],
   .str [],
   .str [],
   .str [],
   .str [],
   .str [],
   .str [],
   .str [],
   .str [],
   .str [],
   .str [],
   .str [],
   .str [],
   .str [],
   .str [],
   .str [],
   .str [],
   .str [],
   .str []]

theorem name_run : ranAll Tryd.prog cl2 (fun f => Nat.beq f 43 || Nat.beq f 63) 60 10 18 nameT 0 = true := by kernel_rfl
theorem rname_run : ranAll Tryd.prog cl2 (fun f => Nat.beq f 43 || Nat.beq f 63) 60 10 22 nameT 0 = true := by kernel_rfl
theorem evname_run : ranAll Tryd.prog cl2 (fun f => Nat.beq f 43 || Nat.beq f 63) 60 10 23 evNameT 0 = true := by kernel_rfl
theorem revname_run : ranAll Tryd.prog cl2 (fun f => Nat.beq f 43 || Nat.beq f 63) 60 10 24 evNameT 0 = true := by kernel_rfl

def strOf : PV → List UInt8
  | .str s => s
  | _ => []
/-- The name of a code. -/
def nmK (k : Nat) : List UInt8 := strOf ((nth nameT k).getD .any)
def evK (k : Nat) : List UInt8 := strOf ((nth evNameT k).getD .any)
def inB (n : Int) : Bool := !(decide (n < 1)) && !(decide (58 < n))
def nm (n : Int) : List UInt8 := if inB n = true then nmK n.toNat else []
def ev (n : Int) : List UInt8 := if inB n = true then evK n.toNat else []
theorem nameT_all : (List.range 59).all (fun k => pvEq ((nth nameT k).getD .any) (.str (nmK k))) = true := by kernel_rfl
theorem evNameT_all : (List.range 59).all (fun k => pvEq ((nth evNameT k).getD .any) (.str (evK k))) = true := by kernel_rfl
theorem nameT_some : (List.range 59).all (fun k => (nth nameT k).isSome) = true := by kernel_rfl
theorem evNameT_some : (List.range 59).all (fun k => (nth evNameT k).isSome) = true := by kernel_rfl
theorem nth_at {T : List PV} {K : Nat → List UInt8} (h1 : (List.range 59).all (fun k => pvEq ((nth T k).getD .any) (.str (K k))) = true) (h2 : (List.range 59).all (fun k => (nth T k).isSome) = true) {k : Nat} (hk : k < 59) : nth T k = some (.str (K k)) := by
  have a := pvEq_eq (List.all_eq_true.1 h1 k (List.mem_range.2 hk))
  have b := List.all_eq_true.1 h2 k (List.mem_range.2 hk)
  obtain ⟨x, hx⟩ := Option.isSome_iff_exists.1 b
  rw [hx] at a ⊢
  exact congrArg some a
theorem inB_cases (n : Int) : (inB n = true ∧ ∃ k : Nat, n = .ofNat k ∧ 1 ≤ k ∧ k < 59) ∨ (inB n = false ∧ Out n) := by
  by_cases h1 : n < 1
  · exact .inr ⟨by simp [inB, h1], .inl (by simpa using h1)⟩
  by_cases h2 : 58 < n
  · exact .inr ⟨by simp [inB, h2], .inr ⟨by simpa using h1, by simpa using h2⟩⟩
  · obtain ⟨k, rfl⟩ := Int.eq_ofNat_of_zero_le (show 0 ≤ n by omega)
    exact .inl ⟨by simp only [inB, h1, h2, decide_false]; rfl, k, rfl, by omega, by omega⟩


theorem name_fs (n : Int) : Fsp Tryd.prog 18 [] 0 [.int .i64 n] [] 0 (.str (nm n)) := by
  rcases inB_cases n with ⟨h, k, rfl, h1, h2⟩ | ⟨h, ho⟩
  · have := ranAll_at mixed cl2_ok name_run (nth_at nameT_all nameT_some h2)
    rw [Nat.zero_add] at this
    unfold nm
    rw [if_pos h]
    exact this
  · unfold nm
    rw [if_neg (by rw [h]; exact Bool.false_ne_true)]
    exact name_out n ho

theorem rname_fs (n : Int) : Fsp Tryd.prog 22 [] 0 [.int .i64 n] [] 0 (.str (nm n)) := by
  rcases inB_cases n with ⟨h, k, rfl, h1, h2⟩ | ⟨h, ho⟩
  · have := ranAll_at mixed cl2_ok rname_run (nth_at nameT_all nameT_some h2)
    rw [Nat.zero_add] at this
    unfold nm
    rw [if_pos h]
    exact this
  · unfold nm
    rw [if_neg (by rw [h]; exact Bool.false_ne_true)]
    exact rname_out n ho

theorem evname_fs (n : Int) : Fsp Tryd.prog 23 [] 0 [.int .i64 n] [] 0 (.str (ev n)) := by
  rcases inB_cases n with ⟨h, k, rfl, h1, h2⟩ | ⟨h, ho⟩
  · have := ranAll_at mixed cl2_ok evname_run (nth_at evNameT_all evNameT_some h2)
    rw [Nat.zero_add] at this
    unfold ev
    rw [if_pos h]
    exact this
  · unfold ev
    rw [if_neg (by rw [h]; exact Bool.false_ne_true)]
    exact evname_out n ho

theorem revname_fs (n : Int) : Fsp Tryd.prog 24 [] 0 [.int .i64 n] [] 0 (.str (ev n)) := by
  rcases inB_cases n with ⟨h, k, rfl, h1, h2⟩ | ⟨h, ho⟩
  · have := ranAll_at mixed cl2_ok revname_run (nth_at evNameT_all evNameT_some h2)
    rw [Nat.zero_add] at this
    unfold ev
    rw [if_pos h]
    exact this
  · unfold ev
    rw [if_neg (by rw [h]; exact Bool.false_ne_true)]
    exact revname_out n ho

theorem req_some : (List.range 59).all (fun k => pvEq ((nth reqT k).getD .any) (.agg [.str (nmK k), .str (strOf (((nth reqT k).getD .any).cells.getD 1 .any)), .str (strOf (((nth reqT k).getD .any).cells.getD 2 .any))])) = true := by kernel_rfl
theorem req_some' : (List.range 59).all (fun k => (nth reqT k).isSome) = true := by kernel_rfl
theorem request_in {k : Nat} (hk : k < 59) : ∃ a b, Fsp Tryd.prog 44 [] 0 [.int .i64 (.ofNat k)] [] 0 (.agg [.str (nmK k), .str a, .str b]) := by
  have a := pvEq_eq (List.all_eq_true.1 req_some k (List.mem_range.2 hk))
  have b := List.all_eq_true.1 req_some' k (List.mem_range.2 hk)
  obtain ⟨x, hx⟩ := Option.isSome_iff_exists.1 b
  rw [hx] at a
  refine ⟨strOf (x.cells.getD 1 .any), strOf (x.cells.getD 2 .any), ?_⟩
  have a' : x = .agg [.str (nmK k), .str (strOf (x.cells.getD 1 .any)), .str (strOf (x.cells.getD 2 .any))] := a
  rw [← a']
  exact reqT_ok 44 [] 0 _ _ _ _ (by show (match nth reqT k with | some r => some (([] : List (List PV)), 0, r) | none => none) = _; rw [hx])
/-- The first code from i on of that name; 0: there is none. -/
def ofS (s : List UInt8) : Nat → Nat → Nat
  | 0, _ => 0
  | m + 1, i => if nmK i == s then i else ofS s m (i + 1)
end Go.Proofs.Cd
