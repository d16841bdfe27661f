/-
  A number within bounds. Conditions: the bound is positive.
-/
import Derived.Test.YtbaninglcafhhaaRows
import Derived.Test.YtbaninglcafhhaaBase
import Derived.Test.YtbaninglcafhhaaOrder
import Derived.IntWalk
namespace Go.Proofs.Ytbaninglcafhhaa
open Go.RowKit


def withinOf (i n : Int) : Int := IntKind.u64.wrap i % n

theorem u64_low (i : Int) : 0 ≤ IntKind.u64.wrap i := by
  simp only [IntKind.wrap]
  exact Int.emod_nonneg _ (by decide)
theorem within_lt (i n : Int) (h0 : 0 < n) : 0 ≤ withinOf i n ∧ withinOf i n < n := ⟨Int.emod_nonneg _ (by omega), Int.emod_lt_of_pos _ h0⟩
theorem within_eq (i n : Int) (h0 : 0 < n) (h1 : n ≤ 1000000) : wrap64 ((IntKind.u64.wrap i).tmod n) = withinOf i n := by
  rw [Int.tmod_eq_emod_of_nonneg (u64_low i)]
  have := within_lt i n h0
  unfold withinOf at this ⊢
  exact IntWalk.wrap64_in _ (by omega)
theorem within_any (i n : Int) (w : World) (h0 : 0 < n) (h1 : n ≤ 1000000) (_ : -9223372036854775808 ≤ i ∧ i ≤ 9223372036854775807) :
    Calls Try.prog 50 #[.int .i64 i, .int .i64 n] w fun e w' => e = .returned (.int .i64 (withinOf i n)) ∧ w' = w := by
  go_enter Try.func50, Try.ntmps50
  go_wp2
  go_ret
  refine ⟨?_, rfl⟩
  show Ending.returned (.int .i64 (wrap64 ((IntKind.u64.wrap i).tmod n))) = _
  rw [within_eq i n h0 h1]

end Go.Proofs.Ytbaninglcafhhaa
