/-
  The asks that the statements of layer 6 are handed, in memory; 'wakes'. Conditions: none.
-/
import Derived.Test.YtjbjepjbnklccaaPerm
import Derived.Test.YtjbjepjbnklccaaPermA
import Derived.Test.YtjbjepjbnklccaaSlice
namespace Go.Proofs.Ytjbjepjbnklccaa
open Go.RowKit

structure Ask where
  addr : Option Addr
  cap : Nat
  l : List Attr
  acc : Int
  stage : Int
  level : Int
  page : Int

def Ask.cells (q : Ask) : List Value := [.slice q.addr q.l.length q.cap, .int .i64 q.acc, .int .i64 q.stage, .int .i64 q.level, .int .i64 q.page]

/-- What an ask leads to. -/
def AskAt (w : World) (q : Ask) : Prop := q.l.length ≤ maxLen ∧ At w q.addr 6 Attr.cells q.l

theorem attr_len (a : Attr) : a.cells.length = 6 := rfl

theorem AskAt.below {w w' : World} {q : Ask} (h : AskAt w q) (hb : Below w.heap.size w w') : AskAt w' q := ⟨h.1, h.2.below hb⟩

/-- The attributes together, said of a row that is known. -/
theorem both_lit {l : List Attr} {r w x f n : Bool} {s : Int} (h : both l = ⟨r, w, x, f, n, s⟩) (A : Option Addr) (c : Nat) (W : World) (hn : l.length ≤ 1000) (hA : At W A 6 Attr.cells l) :
    Calls Try.prog 6 #[.slice A l.length c] W fun e w' => e = .returned (.agg #[.bool r, .bool w, .bool x, .bool f, .bool n, .int .i64 s]) ∧ Below W.heap.size W w' := by
  refine (both_any A c l W (by omega) hA).mono ?_
  rintro e w' ⟨rfl, hb⟩
  rw [h]
  exact ⟨rfl, hb⟩

theorem refBoth_lit {l : List Attr} {r w x f n : Bool} {s : Int} (h : both l = ⟨r, w, x, f, n, s⟩) (A : Option Addr) (c : Nat) (W : World) (hn : l.length ≤ 1000) (hA : At W A 6 Attr.cells l) :
    Calls Try.prog 7 #[.slice A l.length c] W fun e w' => e = .returned (.agg #[.bool r, .bool w, .bool x, .bool f, .bool n, .int .i64 s]) ∧ Below W.heap.size W w' := by
  refine (refBoth_any A c l W (by omega) hA).mono ?_
  rintro e w' ⟨rfl, hb⟩
  rw [h]
  exact ⟨rfl, hb⟩

theorem wakes_any (w : World) : Calls Try.prog 8 #[] w fun e w' => e = .returned (.bool true) ∧ Below w.heap.size w w' := by
  have hb := fun W => both_lit (l := []) rfl none 0 W (by simp) At.nil
  have HB := Lib.hid hb
  clear hb
  go_enter Try.func8, Try.ntmps8
  go_wp2_with (go_at_call 6; refine (HB.out _).mono ?_; rintro e w' ⟨rfl, hb⟩; have HC := Lib.hid hb; clear hb)
  go_ret
  exact ⟨rfl, HC.out⟩

end Go.Proofs.Ytjbjepjbnklccaa
