/-
  Leaf contracts of package mem: whether a memory may be, how many frames it has, the place of some bytes. Conditions: the lengths fit an int.
-/
import Derived.Test.YtddbndmbcdeggaaRows
import Derived.Test.YtddbndmbcdeggaaBase
import Derived.Test.YtddbndmbcdeggaaOrder
namespace Go.Proofs.Ytddbndmbcdeggaa
open Go.RowKit

def memOk (n : Nat) : Bool := decide (0 < n) && (decide (n % 8 = 0) && decide (n / 8 ≤ 64))

theorem memMay_any (A : Option Addr) (n c : Nat) (w : World) (hn : n ≤ 9223372036854775807) :
    Calls Try.prog 56 #[.agg #[.slice A n c]] w fun e w' => e = .returned (.bool (memOk n)) ∧ Below w.heap.size w w' := by
  by_cases h0 : 0 < n
  · have q0 : decide ((0 : Int) < (n : Int)) = true := by simp; omega
    by_cases h1 : n % 8 = 0
    · have HM := Lib.hid (show memOk n = decide ((n : Int) / 8 ≤ 64) by simp [memOk, h0, h1]; omega)
      have q1 : ((n : Int) % 8 == 0) = true := by simp; omega
      go_enter Try.func56, Try.ntmps56
      go_wp2
      go_ret
      exact ⟨by rw [HM.out]; rfl, (Below.refl _ _).alloc (Nat.le_refl _) _⟩
    · have HM := Lib.hid (show memOk n = false by simp [memOk, h1])
      have q1 : ((n : Int) % 8 == 0) = false := by simp; omega
      go_enter Try.func56, Try.ntmps56
      go_wp2
      go_ret
      exact ⟨by rw [HM.out]; rfl, (Below.refl _ _).alloc (Nat.le_refl _) _⟩
  · have HM := Lib.hid (show memOk n = false by simp [memOk, h0])
    have q0 : decide ((0 : Int) < (n : Int)) = false := by simp; omega
    go_enter Try.func56, Try.ntmps56
    go_wp2
    go_ret
    exact ⟨by rw [HM.out]; rfl, (Below.refl _ _).alloc (Nat.le_refl _) _⟩

theorem memFrames_any (A : Option Addr) (n c : Nat) (w : World) (hn : n ≤ 9223372036854775807) :
    Calls Try.prog 71 #[.agg #[.slice A n c]] w fun e w' => e = .returned (.int .i64 ((n : Int) / 8)) ∧ Below w.heap.size w w' := by
  go_enter Try.func71, Try.ntmps71
  go_wp2
  go_ret
  exact ⟨rfl, (Below.refl _ _).alloc (Nat.le_refl _) _⟩

theorem memCheck_any (A : Option Addr) (n c : Nat) (w : World) (hn : n ≤ 9223372036854775807) (g : Bool) (hg : memOk n = g) :
    Calls Try.prog 38 #[.agg #[.slice A n c]] w fun e w' => e = .returned (.int .i64 (if g then 0 else 1)) ∧ Below w.heap.size w w' := by
  have HC := Lib.hid (fun W => memMay_any A n c W hn)
  rw [hg] at HC
  clear hg
  cases g
  all_goals
    go_enter Try.func38, Try.ntmps38
    go_wp2_with (go_at_call 56; refine (HC.out _).mono ?_; rintro e w1 ⟨rfl, hb1⟩; have hs1 := hb1.size; (try simp at hs1); have hc1_0 := fun o => (bcell hb1).1 (w.heap.size) o (by first | omega | (simp; done) | (simp; omega)); have hf1_0 := fun o => (bcell hb1).2.1 (w.heap.size) o (by first | omega | (simp; done) | (simp; omega)); have hz1_0 := (bcell hb1).2.2 (w.heap.size) (by first | omega | (simp; done) | (simp; omega)); have HB1 := Lib.hid hb1; clear hb1)
    go_ret
    refine ⟨rfl, ?_⟩
    repeat' (first | (with_reducible exact Below.refl _ _) | (with_reducible (refine Below.setCell ?_ ?_ _)) | (with_reducible (refine Below.alloc ?_ ?_ _)) | (with_reducible (refine Below.drew ?_)) | (with_reducible (refine below_via ?_ HB1.out ?_)) | omega | (simp; done) | (simp; omega))

/-- The error of a place. -/
def sizeOk (size : Int) : Bool := decide (size = 1) || (decide (size = 2) || (decide (size = 4) || decide (size = 8)))
def placeErr (g : Bool) (n : Nat) (at_ size : Int) : Int := if g && sizeOk size then (if at_ < 0 ∨ 8 * (n : Int) ≤ at_ then 2 else if at_ % size = 0 then 0 else 8) else 1

theorem size_cases (size : Int) : size = 1 ∨ size = 2 ∨ size = 4 ∨ size = 8 ∨ (sizeOk size = false ∧ size ≠ 1 ∧ size ≠ 2 ∧ size ≠ 4 ∧ size ≠ 8) := by
  by_cases h1 : size = 1
  · exact .inl h1
  by_cases h2 : size = 2
  · exact .inr (.inl h2)
  by_cases h4 : size = 4
  · exact .inr (.inr (.inl h4))
  by_cases h8 : size = 8
  · exact .inr (.inr (.inr (.inl h8)))
  · exact .inr (.inr (.inr (.inr ⟨by simp [sizeOk, h1, h2, h4, h8], h1, h2, h4, h8⟩)))

end Go.Proofs.Ytddbndmbcdeggaa
