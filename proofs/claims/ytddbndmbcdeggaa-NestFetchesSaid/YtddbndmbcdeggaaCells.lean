/-
  Integers, words and bools as cells. Conditions: none.
-/
import Derived.Test.YtddbndmbcdeggaaBase
namespace Go.Proofs.Ytddbndmbcdeggaa
open Go Go.RowKit

def isInt (n : Int) : Prop := -9223372036854775808 ≤ n ∧ n ≤ 9223372036854775807
def isWord (n : Int) : Prop := 0 ≤ n ∧ n ≤ 18446744073709551615
def intCells (x : Int) : List Value := [.int .i64 x]
def wordCells (x : Int) : List Value := [.int .u64 x]
def boolCells (x : Bool) : List Value := [.bool x]
end Go.Proofs.Ytddbndmbcdeggaa
