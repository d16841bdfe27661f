/-
  Where a page is, by both stages: the page's answer. Conditions: what is asked may be.
-/
import Derived.Test.YtddbndmbcdeggaaNsJ
namespace Go.Proofs.Ytddbndmbcdeggaa
open Go Go.RowKit

theorem rTrans_any (A : Option Addr) (c : Nat) (ws : List Int) (one two : Rt) (page acc : Int) (w : World) (hA : MeAt w A c ws) (hok : transOk ws.length one two page acc = true) :
    Calls Try.prog 33 #[.agg #[.slice A ws.length c], .agg one.cells.toArray, .agg two.cells.toArray, .int .i64 page, .int .i64 acc] w
      (WPost w (transRes ws one two page acc).1.cells.toArray (transRes ws one two page acc).2.1.cells.toArray [] (transRes ws one two page acc).2.2) := by
  unfold transRes
  rw [if_pos hok]
  cases hon : one.on
  · exact rTrans_off A c ws one two page acc w hA hok hon
  · exact rTrans_on A c ws one two page acc w hA hok hon

end Go.Proofs.Ytddbndmbcdeggaa
