/-
  The masks of package mem and of the page: of one, two, four, eight bytes. Conditions: one of these sizes.
-/
import Derived.Test.YtddbndmbcdeggaaMemA
namespace Go.Proofs.Ytddbndmbcdeggaa
open Go.RowKit

def maskOf (size : Int) : Int := if size = 1 then 255 else if size = 2 then 65535 else if size = 4 then 4294967295 else 18446744073709551615

theorem mask_any (size : Int) (hs : size = 1 ∨ size = 2 ∨ size = 4 ∨ size = 8) (w : World) : Calls Try.prog 80 #[.int .i64 (8 * size)] w fun e w' => e = .returned (.int .u64 (maskOf size)) ∧ w' = w := by
  rcases hs with rfl | rfl | rfl | rfl
  all_goals
    go_enter Try.func80, Try.ntmps80
    go_wp2
    go_ret
    exact ⟨rfl, rfl⟩

end Go.Proofs.Ytddbndmbcdeggaa
