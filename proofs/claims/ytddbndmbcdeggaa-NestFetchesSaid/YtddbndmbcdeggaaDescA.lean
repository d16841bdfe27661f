/-
  Places and descriptors: whether one may be. Conditions: the place is there.
-/
import Derived.Test.YtddbndmbcdeggaaFieldA
import Derived.Test.YtddbndmbcdeggaaPut
import Derived.Laws.StructEq
namespace Go.Proofs.Ytddbndmbcdeggaa
open Go.RowKit

structure De where
  kind : Int
  frame : Int
  r : Bool
  w : Bool
  x : Bool
  af : Bool
  ng : Bool
  soft : Int
  note : Int
def De.cells (d : De) : List Value := [.int .i64 d.kind, .int .i64 d.frame, .bool d.r, .bool d.w, .bool d.x, .bool d.af, .bool d.ng, .int .i64 d.soft, .int .i64 d.note]
def noDe : De := ⟨0, 0, false, false, false, false, false, 0, 0⟩
theorem de_len (d : De) : d.cells.length = 9 := rfl
def descT : TypeId := 33

/-- Is there such a place? -/
def placeOk (stage level : Int) : Bool := (stage == 1 || stage == 2) && (decide (0 ≤ level) && decide (level < 4))
theorem there_any (stage level : Int) (w : World) :
    Calls Try.prog 54 #[.agg #[.int .i64 stage, .int .i64 level]] w fun e w' => e = .returned (.bool (placeOk stage level)) ∧ Below w.heap.size w w' := by
  unfold placeOk
  cases h1 : (stage == 1) <;> cases h2 : (stage == 2) <;> cases h3 : decide (0 ≤ level) <;> cases h4 : decide (level < 4)
  all_goals
    go_enter Try.func54, Try.ntmps54
    go_wp2
    go_ret
    exact ⟨rfl, (Below.refl _ _).alloc (Nat.le_refl _) _⟩

theorem place_any (stage level : Int) (w : World) :
    Calls Try.prog 16 #[.int .i64 stage, .int .i64 level] w fun e w' => e = .returned (.bool (placeOk stage level)) ∧ w' = w := by
  unfold placeOk
  cases h1 : (stage == 1) <;> cases h2 : (stage == 2) <;> cases h3 : decide (0 ≤ level) <;> cases h4 : decide (level < 4)
  all_goals
    go_enter Try.func16, Try.ntmps16
    go_wp2
    go_ret
    exact ⟨rfl, rfl⟩

def bitsOf (level : Int) : Int := 3 * (3 - level)
theorem bits_any (stage level : Int) (h0 : 0 ≤ level) (h1 : level ≤ 3) (w : World) :
    Calls Try.prog 55 #[.agg #[.int .i64 stage, .int .i64 level]] w fun e w' => e = .returned (.int .i64 (bitsOf level)) ∧ Below w.heap.size w w' := by
  go_enter Try.func55, Try.ntmps55
  go_wp2
  go_ret
  exact ⟨rfl, (Below.refl _ _).alloc (Nat.le_refl _) _⟩

def frameOk (fr of_ : Int) : Bool := decide (0 ≤ fr) && (decide (fr ≤ 4095) && fr % of_ == 0)
theorem framed_any (stage level : Int) (d : De) (of_ : Int) (ho : 0 < of_) (ho2 : of_ ≤ 512) (w : World) :
    Calls Try.prog 94 #[.agg (.int .i64 stage :: .int .i64 level :: d.cells).toArray, .int .i64 of_] w fun e w' => e = .returned (.bool (frameOk d.frame of_)) ∧ Below w.heap.size w w' := by
  obtain ⟨kind, frame, r, dw, x, af, ng, soft, note⟩ := d
  unfold frameOk
  dsimp only [De.cells]
  by_cases h1 : 0 ≤ frame
  · by_cases h2 : frame ≤ 4095
    · cases h3 : (frame % of_ == 0)
      all_goals
        have q1 : decide (0 ≤ frame) = true := by simpa using h1
        have q2 : decide (frame ≤ 4095) = true := by simpa using h2
        rw [q1, q2]
        go_enter Try.func94, Try.ntmps94
        go_wp2
        go_ret
        exact ⟨rfl, (Below.refl _ _).alloc (Nat.le_refl _) _⟩
    · have q1 : decide (0 ≤ frame) = true := by simpa using h1
      have q2 : decide (frame ≤ 4095) = false := by simpa using h2
      rw [q1, q2]
      clear h1 h2
      go_enter Try.func94, Try.ntmps94
      go_wp2
      go_ret
      exact ⟨rfl, (Below.refl _ _).alloc (Nat.le_refl _) _⟩
  · have q1 : decide (0 ≤ frame) = false := by simpa using h1
    rw [q1]
    clear h1
    go_enter Try.func94, Try.ntmps94
    go_wp2
    go_ret
    exact ⟨rfl, (Below.refl _ _).alloc (Nat.le_refl _) _⟩

def deEq (a b : De) : Bool := a.kind == b.kind && (a.frame == b.frame && (a.r == b.r && (a.w == b.w && (a.x == b.x && (a.af == b.af && (a.ng == b.ng && (a.soft == b.soft && a.note == b.note)))))))
theorem run_eql_de (a0 a1 : Int) (a2 a3 a4 a5 a6 : Bool) (a7 a8 b0 b1 : Int) (b2 b3 b4 b5 b6 : Bool) (b7 b8 : Int) (w : World) :
    (binOp .eql 33 (.agg #[.int .i64 a0, .int .i64 a1, .bool a2, .bool a3, .bool a4, .bool a5, .bool a6, .int .i64 a7, .int .i64 a8]) (.agg #[.int .i64 b0, .int .i64 b1, .bool b2, .bool b3, .bool b4, .bool b5, .bool b6, .int .i64 b7, .int .i64 b8])).run Try.prog w =
      .ok (.bool (deEq ⟨a0, a1, a2, a3, a4, a5, a6, a7, a8⟩ ⟨b0, b1, b2, b3, b4, b5, b6, b7, b8⟩)) w := by
  unfold deEq
  dsimp only
  go_simp
  (repeat' split) <;> simp [*]
theorem run_neq_de (a0 a1 : Int) (a2 a3 a4 a5 a6 : Bool) (a7 a8 b0 b1 : Int) (b2 b3 b4 b5 b6 : Bool) (b7 b8 : Int) (w : World) :
    (binOp .neq 33 (.agg #[.int .i64 a0, .int .i64 a1, .bool a2, .bool a3, .bool a4, .bool a5, .bool a6, .int .i64 a7, .int .i64 a8]) (.agg #[.int .i64 b0, .int .i64 b1, .bool b2, .bool b3, .bool b4, .bool b5, .bool b6, .int .i64 b7, .int .i64 b8])).run Try.prog w =
      .ok (.bool (!deEq ⟨a0, a1, a2, a3, a4, a5, a6, a7, a8⟩ ⟨b0, b1, b2, b3, b4, b5, b6, b7, b8⟩)) w := by
  unfold deEq
  dsimp only
  go_simp
  (repeat' split) <;> simp [*]
theorem deEq_iff (a b : De) : deEq a b = true ↔ a = b := by
  obtain ⟨a0, a1, a2, a3, a4, a5, a6, a7, a8⟩ := a
  obtain ⟨b0, b1, b2, b3, b4, b5, b6, b7, b8⟩ := b
  simp [deEq]

end Go.Proofs.Ytddbndmbcdeggaa
