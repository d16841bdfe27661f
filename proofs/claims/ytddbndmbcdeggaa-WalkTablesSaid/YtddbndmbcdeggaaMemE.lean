/-
  Write: a number's bytes at a place. Conditions: a place that may be, or none.
-/
import Derived.Test.YtddbndmbcdeggaaMemD
namespace Go.Proofs.Ytddbndmbcdeggaa
open Go.RowKit

/-- A word with some bytes put at a place. -/
def putOf (x shift mask v : Int) : Int := bits .or .u64 (bits .andNot .u64 x (IntKind.u64.wrap (mask * 2 ^ shift.toNat))) (IntKind.u64.wrap (bits .and .u64 v mask * 2 ^ shift.toNat))

end Go.Proofs.Ytddbndmbcdeggaa
