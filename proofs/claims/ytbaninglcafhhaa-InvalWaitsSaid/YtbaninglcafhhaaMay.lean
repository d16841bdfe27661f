/-
  What 'perm.May' and the page's own 'May', 'Acc' hand back, by what access is asked. Conditions: none.
-/
import Derived.Test.YtbaninglcafhhaaRows
import Derived.Test.YtbaninglcafhhaaBase
import Derived.Test.YtbaninglcafhhaaOrder
namespace Go.Proofs.Ytbaninglcafhhaa
open Go.RowKit

theorem zNum_any (n m : Int) (w : World) : Calls Try.prog 46 #[.int .i64 n, .int .i64 m] w fun e w' => e = .returned (.bool (decide (0 ≤ n) && decide (n ≤ m))) ∧ w' = w := by
  by_cases h0 : 0 ≤ n
  · by_cases h1 : n ≤ m
    · go_enter Try.func46, Try.ntmps46
      go_wp2
      go_ret
      exact ⟨by simp [h1, h0], rfl⟩
    · go_enter Try.func46, Try.ntmps46
      go_wp2
      go_ret
      exact ⟨by simp; omega, rfl⟩
  · go_enter Try.func46, Try.ntmps46
    go_wp2
    go_ret
    exact ⟨by simp; omega, rfl⟩

def mayOf (r w x : Bool) (acc : Int) : Bool := if acc = 0 then r else if acc = 1 then w else if acc = 2 then x else false
/-- The error number of what is of its form or not. -/
def formIf (b : Bool) : Int := if b then 0 else 1
def accOk (acc : Int) : Bool := decide (0 ≤ acc) && decide (acc ≤ 2)

theorem acc_cases (acc : Int) : acc = 0 ∨ acc = 1 ∨ acc = 2 ∨ (accOk acc = false ∧ acc ≠ 0 ∧ acc ≠ 1 ∧ acc ≠ 2) := by
  unfold accOk
  by_cases h0 : acc = 0
  · exact .inl h0
  by_cases h1 : acc = 1
  · exact .inr (.inl h1)
  by_cases h2 : acc = 2
  · exact .inr (.inr (.inl h2))
  · refine .inr (.inr (.inr ⟨?_, h0, h1, h2⟩))
    simp; omega

theorem acc_any (acc : Int) (w : World) : Calls Try.prog 56 #[.int .i64 acc] w fun e w' => e = .returned (.bool (accOk acc)) ∧ w' = w := by
  go_enter Try.func56, Try.ntmps56
  go_wp2_with (go_at_call 46; refine (zNum_any _ _ _).mono ?_; rintro e w' ⟨rfl, rfl⟩)
  go_ret
  exact ⟨rfl, rfl⟩

theorem pmay_any (r w x f n : Bool) (s acc : Int) (W : World) :
    Calls Try.prog 94 #[.agg #[.bool r, .bool w, .bool x, .bool f, .bool n, .int .i64 s], .int .i64 acc] W fun e w' =>
      e = .returned (.tuple #[.bool (mayOf r w x acc), .int .i64 (formIf (accOk acc))]) ∧ Below W.heap.size W w' := by
  rcases acc_cases acc with rfl | rfl | rfl | ⟨ha, h0, h1, h2⟩
  · go_enter Try.func94, Try.ntmps94
    go_wp2
    go_ret2
    exact ⟨rfl, (Below.refl _ _).alloc (Nat.le_refl _) _⟩
  · go_enter Try.func94, Try.ntmps94
    go_wp2
    go_ret2
    exact ⟨rfl, (Below.refl _ _).alloc (Nat.le_refl _) _⟩
  · go_enter Try.func94, Try.ntmps94
    go_wp2
    go_ret2
    exact ⟨rfl, (Below.refl _ _).alloc (Nat.le_refl _) _⟩
  · have e0 : (acc == 0) = false := by simp [h0]
    have e1 : (acc == 1) = false := by simp [h1]
    have e2 : (acc == 2) = false := by simp [h2]
    have HA := Lib.hid (show mayOf r w x acc = false by simp [mayOf, h0, h1, h2])
    have HB := Lib.hid ha
    clear ha h0 h1 h2
    go_enter Try.func94, Try.ntmps94
    go_wp2
    go_ret2
    exact ⟨by rw [HA.out, HB.out]; rfl, (Below.refl _ _).alloc (Nat.le_refl _) _⟩

theorem prefMay_any (r w x f n : Bool) (s acc : Int) (W : World) :
    Calls Try.prog 83 #[.agg #[.bool r, .bool w, .bool x, .bool f, .bool n, .int .i64 s], .int .i64 acc] W fun e w' =>
      e = .returned (.bool (mayOf r w x acc)) ∧ Below W.heap.size W w' := by
  rcases acc_cases acc with rfl | rfl | rfl | ⟨hx, h0, h1, h2⟩
  · cases r
    all_goals
      go_enter Try.func83, Try.ntmps83
      go_wp2
      go_ret
      exact ⟨rfl, (Below.refl _ _).alloc (Nat.le_refl _) _⟩
  · cases w
    all_goals
      go_enter Try.func83, Try.ntmps83
      go_wp2
      go_ret
      exact ⟨rfl, (Below.refl _ _).alloc (Nat.le_refl _) _⟩
  · cases x
    all_goals
      go_enter Try.func83, Try.ntmps83
      go_wp2
      go_ret
      exact ⟨rfl, (Below.refl _ _).alloc (Nat.le_refl _) _⟩
  · have e0 : (acc == 0) = false := by simp [h0]
    have e1 : (acc == 1) = false := by simp [h1]
    have e2 : (acc == 2) = false := by simp [h2]
    have HA := Lib.hid (show mayOf r w x acc = false by simp [mayOf, h0, h1, h2])
    clear h0 h1 h2 hx
    go_enter Try.func83, Try.ntmps83
    go_wp2
    go_ret
    exact ⟨by rw [HA.out]; rfl, (Below.refl _ _).alloc (Nat.le_refl _) _⟩

end Go.Proofs.Ytbaninglcafhhaa
