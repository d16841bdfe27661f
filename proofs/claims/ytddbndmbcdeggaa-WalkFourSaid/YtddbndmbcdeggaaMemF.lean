/-
  The page's own answers on memories: whether one may be, its frames, the error of a place, equality. Conditions: the lengths fit an int.
-/
import Derived.Test.YtddbndmbcdeggaaMemE
namespace Go.Proofs.Ytddbndmbcdeggaa
open Go.RowKit

def numB (n most : Int) : Bool := decide (0 ≤ n) && decide (n ≤ most)

theorem numB_yes {n most : Int} (h : numB n most = true) : 0 ≤ n ∧ n ≤ most := by simpa [numB] using h
theorem numB_no {n most : Int} (h : numB n most = false) : n < 0 ∨ most < n := by
  simp only [numB, Bool.and_eq_false_iff, decide_eq_false_iff_not] at h
  omega

theorem Num_any (n most : Int) (w : World) : Calls Try.prog 18 #[.int .i64 n, .int .i64 most] w fun e w' => e = .returned (.bool (numB n most)) ∧ w' = w := by
  by_cases h0 : 0 ≤ n
  · by_cases h1 : n ≤ most
    · have HM := Lib.hid (show numB n most = true by simp [numB, h0, h1])
      go_enter Try.func18, Try.ntmps18
      go_wp2
      go_ret
      exact ⟨by rw [HM.out]; rfl, rfl⟩
    · have HM := Lib.hid (show numB n most = false by simp [numB, h1])
      go_enter Try.func18, Try.ntmps18
      go_wp2
      go_ret
      exact ⟨by rw [HM.out]; rfl, rfl⟩
  · have HM := Lib.hid (show numB n most = false by simp [numB, h0])
    go_enter Try.func18, Try.ntmps18
    go_wp2
    go_ret
    exact ⟨by rw [HM.out]; rfl, rfl⟩

theorem memOk_spec (n : Nat) : memOk n = true ↔ 8 ≤ n ∧ n ≤ 512 ∧ n % 8 = 0 := by
  simp only [memOk, Bool.and_eq_true, decide_eq_true_eq]
  omega

theorem refMem_any (A : Option Addr) (n c : Nat) (w : World) (hn : n ≤ 9223372036854775807) :
    Calls Try.prog 15 #[.agg #[.slice A n c]] w fun e w' => e = .returned (.bool (memOk n)) ∧ Below w.heap.size w w' := by
  have hs := memOk_spec n
  by_cases h0 : 8 ≤ n
  · have q0 : decide ((8 : Int) ≤ (n : Int)) = true := by simp; omega
    by_cases h2 : n ≤ 512
    · have q2 : decide ((n : Int) ≤ 512) = true := by simp; omega
      by_cases h1 : n % 8 = 0
      · have HM := Lib.hid (show memOk n = true from hs.2 ⟨h0, h2, h1⟩)
        have q1 : ((n : Int) % 8 == 0) = true := by simp; omega
        clear hs h1
        go_enter Try.func15, Try.ntmps15
        go_wp2
        go_ret
        exact ⟨by rw [HM.out]; rfl, (Below.refl _ _).alloc (Nat.le_refl _) _⟩
      · have HM := Lib.hid (show memOk n = false by rw [Bool.eq_false_iff]; intro h; exact h1 (hs.1 h).2.2)
        have q1 : ((n : Int) % 8 == 0) = false := by simp; omega
        clear hs h1
        go_enter Try.func15, Try.ntmps15
        go_wp2
        go_ret
        exact ⟨by rw [HM.out]; rfl, (Below.refl _ _).alloc (Nat.le_refl _) _⟩
    · have HM := Lib.hid (show memOk n = false by rw [Bool.eq_false_iff]; intro h; exact h2 (hs.1 h).2.1)
      have q2 : decide ((n : Int) ≤ 512) = false := by simp; omega
      clear hs
      go_enter Try.func15, Try.ntmps15
      go_wp2
      go_ret
      exact ⟨by rw [HM.out]; rfl, (Below.refl _ _).alloc (Nat.le_refl _) _⟩
  · have HM := Lib.hid (show memOk n = false by rw [Bool.eq_false_iff]; intro h; exact h0 (hs.1 h).1)
    have q0 : decide ((8 : Int) ≤ (n : Int)) = false := by simp; omega
    clear hs
    go_enter Try.func15, Try.ntmps15
    go_wp2
    go_ret
    exact ⟨by rw [HM.out]; rfl, (Below.refl _ _).alloc (Nat.le_refl _) _⟩

theorem refFrames_any (A : Option Addr) (n c : Nat) (w : World) (hn : n ≤ 9223372036854775807) :
    Calls Try.prog 19 #[.agg #[.slice A n c]] w fun e w' => e = .returned (.int .i64 ((n : Int) / 8)) ∧ Below w.heap.size w w' := by
  go_enter Try.func19, Try.ntmps19
  go_wp2
  go_ret
  exact ⟨rfl, (Below.refl _ _).alloc (Nat.le_refl _) _⟩

/-- The page's error of a place of a memory that may be. -/
def placeOf (n : Nat) (at_ size : Int) : Int := if sizeOk size then (if at_ < 0 ∨ 8 * (n : Int) ≤ at_ then 2 else if at_ % size = 0 then 0 else 8) else 1

end Go.Proofs.Ytddbndmbcdeggaa
