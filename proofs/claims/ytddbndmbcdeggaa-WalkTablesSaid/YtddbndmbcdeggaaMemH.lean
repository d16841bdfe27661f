/-
  Memories: copied, the same, written over; whether frames are there. Conditions: the lengths fit.
-/
import Derived.Test.YtddbndmbcdeggaaMemG
namespace Go.Proofs.Ytddbndmbcdeggaa
open Go.RowKit

def intT : TypeId := 3
theorem int_len (x : Int) : (intCells x).length = 1 := rfl

def inOf (l : List Int) (n : Int) : Int := match l.findIdx? (· == n) with | some i => i | none => -1

/-- All of them are numbers of frames. -/
def thereB (k : Int) (l : List Int) : Bool := l.all fun f => numB f (k - 1)

end Go.Proofs.Ytddbndmbcdeggaa
