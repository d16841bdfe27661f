/-
  The page's own answers on memories: whether one may be, its frames, the error of a place, equality. Conditions: the lengths fit an int.
-/
import Derived.Test.YtipepkmmjdlpoaaMemE
namespace Go.Proofs.Ytipepkmmjdlpoaa
open Go.RowKit

def numB (n most : Int) : Bool := decide (0 ≤ n) && decide (n ≤ most)

theorem numB_yes {n most : Int} (h : numB n most = true) : 0 ≤ n ∧ n ≤ most := by simpa [numB] using h
theorem numB_no {n most : Int} (h : numB n most = false) : n < 0 ∨ most < n := by
  simp only [numB, Bool.and_eq_false_iff, decide_eq_false_iff_not] at h
  omega

theorem Num_any (n most : Int) (w : World) : Calls Try.prog 40 #[.int .i64 n, .int .i64 most] w fun e w' => e = .returned (.bool (numB n most)) ∧ w' = w := by
  by_cases h0 : 0 ≤ n
  · by_cases h1 : n ≤ most
    · have HM := Lib.hid (show numB n most = true by simp [numB, h0, h1])
      go_enter Try.func40, Try.ntmps40
      go_wp2
      go_ret
      exact ⟨by rw [HM.out]; rfl, rfl⟩
    · have HM := Lib.hid (show numB n most = false by simp [numB, h1])
      go_enter Try.func40, Try.ntmps40
      go_wp2
      go_ret
      exact ⟨by rw [HM.out]; rfl, rfl⟩
  · have HM := Lib.hid (show numB n most = false by simp [numB, h0])
    go_enter Try.func40, Try.ntmps40
    go_wp2
    go_ret
    exact ⟨by rw [HM.out]; rfl, rfl⟩

theorem memOk_spec (n : Nat) : memOk n = true ↔ 8 ≤ n ∧ n ≤ 512 ∧ n % 8 = 0 := by
  simp only [memOk, Bool.and_eq_true, decide_eq_true_eq]
  omega

theorem refMem_any (A : Option Addr) (n c : Nat) (w : World) (hn : n ≤ 9223372036854775807) :
    Calls Try.prog 17 #[.agg #[.slice A n c]] w fun e w' => e = .returned (.bool (memOk n)) ∧ Below w.heap.size w w' := by
  have hs := memOk_spec n
  by_cases h0 : 8 ≤ n
  · have q0 : decide ((8 : Int) ≤ (n : Int)) = true := by simp; omega
    by_cases h2 : n ≤ 512
    · have q2 : decide ((n : Int) ≤ 512) = true := by simp; omega
      by_cases h1 : n % 8 = 0
      · have HM := Lib.hid (show memOk n = true from hs.2 ⟨h0, h2, h1⟩)
        have q1 : ((n : Int) % 8 == 0) = true := by simp; omega
        clear hs h1
        go_enter Try.func17, Try.ntmps17
        go_wp2
        go_ret
        exact ⟨by rw [HM.out]; rfl, (Below.refl _ _).alloc (Nat.le_refl _) _⟩
      · have HM := Lib.hid (show memOk n = false by rw [Bool.eq_false_iff]; intro h; exact h1 (hs.1 h).2.2)
        have q1 : ((n : Int) % 8 == 0) = false := by simp; omega
        clear hs h1
        go_enter Try.func17, Try.ntmps17
        go_wp2
        go_ret
        exact ⟨by rw [HM.out]; rfl, (Below.refl _ _).alloc (Nat.le_refl _) _⟩
    · have HM := Lib.hid (show memOk n = false by rw [Bool.eq_false_iff]; intro h; exact h2 (hs.1 h).2.1)
      have q2 : decide ((n : Int) ≤ 512) = false := by simp; omega
      clear hs
      go_enter Try.func17, Try.ntmps17
      go_wp2
      go_ret
      exact ⟨by rw [HM.out]; rfl, (Below.refl _ _).alloc (Nat.le_refl _) _⟩
  · have HM := Lib.hid (show memOk n = false by rw [Bool.eq_false_iff]; intro h; exact h0 (hs.1 h).1)
    have q0 : decide ((8 : Int) ≤ (n : Int)) = false := by simp; omega
    clear hs
    go_enter Try.func17, Try.ntmps17
    go_wp2
    go_ret
    exact ⟨by rw [HM.out]; rfl, (Below.refl _ _).alloc (Nat.le_refl _) _⟩

theorem refFrames_any (A : Option Addr) (n c : Nat) (w : World) (hn : n ≤ 9223372036854775807) :
    Calls Try.prog 24 #[.agg #[.slice A n c]] w fun e w' => e = .returned (.int .i64 ((n : Int) / 8)) ∧ Below w.heap.size w w' := by
  go_enter Try.func24, Try.ntmps24
  go_wp2
  go_ret
  exact ⟨rfl, (Below.refl _ _).alloc (Nat.le_refl _) _⟩

/-- The page's error of a place of a memory that may be. -/
def placeOf (n : Nat) (at_ size : Int) : Int := if sizeOk size then (if at_ < 0 ∨ 8 * (n : Int) ≤ at_ then 2 else if at_ % size = 0 then 0 else 8) else 1

theorem refMay_no (A : Option Addr) (n c : Nat) (at_ size : Int) (w : World) (hs : sizeOk size = false) :
    Calls Try.prog 25 #[.agg #[.slice A n c], .int .i64 at_, .int .i64 size] w fun e w' => e = .returned (.int .i64 1) ∧ Below w.heap.size w w' := by
  rcases size_cases size with rfl | rfl | rfl | rfl | ⟨_, h1, h2, h4, h8⟩
  · simp [sizeOk] at hs
  · simp [sizeOk] at hs
  · simp [sizeOk] at hs
  · simp [sizeOk] at hs
  · have p1 : (size != 1) = true := by simp [h1]
    have p2 : (size != 2) = true := by simp [h2]
    have p4 : (size != 4) = true := by simp [h4]
    have p8 : (size != 8) = true := by simp [h8]
    clear hs h1 h2 h4 h8
    go_enter Try.func25, Try.ntmps25
    go_wp2
    go_ret
    exact ⟨rfl, (Below.refl _ _).alloc (Nat.le_refl _) _⟩

set_option maxHeartbeats 1000000 in
theorem refMay_yes (A : Option Addr) (n c : Nat) (at_ size : Int) (w : World) (hn : n ≤ 140737488355328) (hat : -9223372036854775808 ≤ at_ ∧ at_ ≤ 9223372036854775807) (hs : size = 1 ∨ size = 2 ∨ size = 4 ∨ size = 8) (r : Int)
    (hr : r = if at_ < 0 ∨ 8 * (n : Int) ≤ at_ then 2 else if at_ % size = 0 then 0 else 8) :
    Calls Try.prog 25 #[.agg #[.slice A n c], .int .i64 at_, .int .i64 size] w fun e w' => e = .returned (.int .i64 r) ∧ Below w.heap.size w w' := by
  have ha1 := hat.1
  have ha2 := hat.2
  clear hat
  by_cases h0 : at_ < 0
  · have h0' := h0
    have HR := Lib.hid (show r = 2 by rw [hr, if_pos (.inl h0)])
    clear hr
    rcases hs with rfl | rfl | rfl | rfl
    all_goals
      go_enter Try.func25, Try.ntmps25
      go_wp2
      go_ret
      exact ⟨by rw [HR.out]; rfl, (Below.refl _ _).alloc (Nat.le_refl _) _⟩
  · by_cases h1 : 8 * (n : Int) ≤ at_
    · have h1' := h1
      have HR := Lib.hid (show r = 2 by rw [hr, if_pos (.inr h1)])
      clear hr
      rcases hs with rfl | rfl | rfl | rfl
      all_goals
        go_enter Try.func25, Try.ntmps25
        go_wp2
        go_ret
        exact ⟨by rw [HR.out]; rfl, (Below.refl _ _).alloc (Nat.le_refl _) _⟩
    · by_cases h2 : at_ % size = 0
      · have h2' := h2
        have HR := Lib.hid (show r = 0 by rw [hr, if_neg (by omega), if_pos h2])
        clear hr
        rcases hs with rfl | rfl | rfl | rfl
        all_goals
          go_enter Try.func25, Try.ntmps25
          go_wp2
          go_ret
          exact ⟨by rw [HR.out]; rfl, (Below.refl _ _).alloc (Nat.le_refl _) _⟩
      · have h2' := h2
        have HR := Lib.hid (show r = 8 by rw [hr, if_neg (by omega), if_neg h2])
        clear hr
        rcases hs with rfl | rfl | rfl | rfl
        · exact absurd (by omega) h2
        all_goals
          go_enter Try.func25, Try.ntmps25
          go_wp2
          go_ret
          exact ⟨by rw [HR.out]; rfl, (Below.refl _ _).alloc (Nat.le_refl _) _⟩

theorem refMay_any (A : Option Addr) (n c : Nat) (at_ size : Int) (w : World) (hn : n ≤ 140737488355328) (hat : -9223372036854775808 ≤ at_ ∧ at_ ≤ 9223372036854775807) :
    Calls Try.prog 25 #[.agg #[.slice A n c], .int .i64 at_, .int .i64 size] w fun e w' => e = .returned (.int .i64 (placeOf n at_ size)) ∧ Below w.heap.size w w' := by
  rcases size_cases size with hs | hs | hs | hs | ⟨hs, _⟩
  case inr.inr.inr.inr => rw [placeOf, if_neg (by rw [hs]; decide)]; exact refMay_no A n c at_ size w hs
  all_goals
    rw [placeOf, if_pos (by subst hs; rfl)]
    exact refMay_yes A n c at_ size w hn hat (by simp [hs]) _ rfl

theorem memPlaced_any (A : Option Addr) (n c : Nat) (at_ size : Int) (w : World) (hn : n ≤ 140737488355328) (hat : -9223372036854775808 ≤ at_ ∧ at_ ≤ 9223372036854775807) :
    Calls Try.prog 35 #[.agg #[.slice A n c], .int .i64 at_, .int .i64 size] w fun e w' => e = .returned (.int .i64 (if memOk n then placeOf n at_ size else 1)) ∧ Below w.heap.size w w' := by
  cases hg : memOk n
  · exact memPlaced_no A n c at_ size w hn (by rw [hg]; rfl)
  · rcases size_cases size with hs | hs | hs | hs | ⟨hs, _⟩
    case inr.inr.inr.inr => rw [if_pos rfl, placeOf, if_neg (by rw [hs]; decide)]; exact memPlaced_no A n c at_ size w hn (by rw [hs]; simp)
    all_goals
      rw [if_pos rfl, placeOf, if_pos (by subst hs; rfl)]
      exact memPlaced_yes A n c at_ size w hn hat hg (by simp [hs]) _ rfl

end Go.Proofs.Ytipepkmmjdlpoaa
