/-
  Integers and bools, as an argument that reads holds them. Conditions: none.
-/
import Derived.Test.YtbaninglcafhhaaRows
import Derived.Test.YtbaninglcafhhaaOpen
namespace Go.Proofs.Ytbaninglcafhhaa
open Go.RowKit Go.ChangeShapes Go.WideShapes

def isInt (n : Int) : Prop := -9223372036854775808 ≤ n ∧ n ≤ 9223372036854775807
def isWord (n : Int) : Prop := 0 ≤ n ∧ n ≤ 18446744073709551615
def intCells (x : Int) : List Value := [.int .i64 x]
def wordCells (x : Int) : List Value := [.int .u64 x]
def boolCells (x : Bool) : List Value := [.bool x]
theorem int_of_wf {n : Int} (h : (Lit.int .i64 n).wf = true) : isInt n := by
  simp only [Lit.wf, IntKind.min, IntKind.max, IntKind.signed, IntKind.bits, Bool.and_eq_true, decide_eq_true_eq, if_true] at h
  unfold isInt
  omega
theorem word_of_wf {n : Int} (h : (Lit.int .u64 n).wf = true) : isWord n := by
  simp only [Lit.wf, IntKind.min, IntKind.max, IntKind.signed, IntKind.bits, Bool.and_eq_true, decide_eq_true_eq, Bool.false_eq_true, if_false] at h
  unfold isWord
  omega
theorem reach_len {n c k : Nat} (h : n ≤ c) (hc : c * (k + 1) ≤ reachBytes) : n ≤ 140737488355328 := by
  unfold reachBytes at hc
  have : c * 1 ≤ c * (k + 1) := Nat.mul_le_mul_left _ (by omega)
  omega
theorem opens_ints : OpensW Try.prog 3 intCells (fun _ n => isInt n) := by
  intro w H enc fuel cs x h _
  obtain ⟨n, e, hd⟩ := opens_int Try.underlying3 w H enc fuel cs x h
  exact ⟨n, e, int_of_wf hd⟩
theorem opens_bools : OpensW Try.prog 4 boolCells (fun _ _ => True) := opensW_of (opens_bool Try.underlying4)
end Go.Proofs.Ytbaninglcafhhaa
