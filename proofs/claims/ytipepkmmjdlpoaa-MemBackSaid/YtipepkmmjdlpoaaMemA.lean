/-
  Leaf contracts of package mem: whether a memory may be, how many frames it has, the place of some bytes. Conditions: the lengths fit an int.
-/
import Derived.Test.YtipepkmmjdlpoaaRows
import Derived.Test.YtipepkmmjdlpoaaBase
import Derived.Test.YtipepkmmjdlpoaaOrder
namespace Go.Proofs.Ytipepkmmjdlpoaa
open Go.RowKit

theorem mnum_any (n : Int) (w : World) : Calls Try.prog 11 #[.int .i64 n] w fun e w' => e = .returned (.int .i64 n) ∧ w' = w := by
  go_enter Try.func11, Try.ntmps11
  go_wp2
  go_ret
  exact ⟨rfl, rfl⟩

def memOk (n : Nat) : Bool := decide (0 < n) && (decide (n % 8 = 0) && decide (n / 8 ≤ 64))

theorem memMay_any (A : Option Addr) (n c : Nat) (w : World) (hn : n ≤ 9223372036854775807) :
    Calls Try.prog 43 #[.agg #[.slice A n c]] w fun e w' => e = .returned (.bool (memOk n)) ∧ Below w.heap.size w w' := by
  by_cases h0 : 0 < n
  · have q0 : decide ((0 : Int) < (n : Int)) = true := by simp; omega
    by_cases h1 : n % 8 = 0
    · have HM := Lib.hid (show memOk n = decide ((n : Int) / 8 ≤ 64) by simp [memOk, h0, h1]; omega)
      have q1 : ((n : Int) % 8 == 0) = true := by simp; omega
      go_enter Try.func43, Try.ntmps43
      go_wp2
      go_ret
      exact ⟨by rw [HM.out]; rfl, (Below.refl _ _).alloc (Nat.le_refl _) _⟩
    · have HM := Lib.hid (show memOk n = false by simp [memOk, h1])
      have q1 : ((n : Int) % 8 == 0) = false := by simp; omega
      go_enter Try.func43, Try.ntmps43
      go_wp2
      go_ret
      exact ⟨by rw [HM.out]; rfl, (Below.refl _ _).alloc (Nat.le_refl _) _⟩
  · have HM := Lib.hid (show memOk n = false by simp [memOk, h0])
    have q0 : decide ((0 : Int) < (n : Int)) = false := by simp; omega
    go_enter Try.func43, Try.ntmps43
    go_wp2
    go_ret
    exact ⟨by rw [HM.out]; rfl, (Below.refl _ _).alloc (Nat.le_refl _) _⟩

theorem memFrames_any (A : Option Addr) (n c : Nat) (w : World) (hn : n ≤ 9223372036854775807) :
    Calls Try.prog 42 #[.agg #[.slice A n c]] w fun e w' => e = .returned (.int .i64 ((n : Int) / 8)) ∧ Below w.heap.size w w' := by
  go_enter Try.func42, Try.ntmps42
  go_wp2
  go_ret
  exact ⟨rfl, (Below.refl _ _).alloc (Nat.le_refl _) _⟩

theorem memCheck_any (A : Option Addr) (n c : Nat) (w : World) (hn : n ≤ 9223372036854775807) (g : Bool) (hg : memOk n = g) :
    Calls Try.prog 23 #[.agg #[.slice A n c]] w fun e w' => e = .returned (.int .i64 (if g then 0 else 1)) ∧ Below w.heap.size w w' := by
  have HC := Lib.hid (fun W => memMay_any A n c W hn)
  rw [hg] at HC
  clear hg
  cases g
  all_goals
    go_enter Try.func23, Try.ntmps23
    go_wp2_with (go_at_call 43; refine (HC.out _).mono ?_; rintro e w1 ⟨rfl, hb1⟩; have hs1 := hb1.size; (try simp at hs1); have hc1_0 := fun o => (bcell hb1).1 (w.heap.size) o (by first | omega | (simp; done) | (simp; omega)); have hf1_0 := fun o => (bcell hb1).2.1 (w.heap.size) o (by first | omega | (simp; done) | (simp; omega)); have hz1_0 := (bcell hb1).2.2 (w.heap.size) (by first | omega | (simp; done) | (simp; omega)); have HB1 := Lib.hid hb1; clear hb1)
    go_ret
    refine ⟨rfl, ?_⟩
    repeat' (first | (with_reducible exact Below.refl _ _) | (with_reducible (refine Below.setCell ?_ ?_ _)) | (with_reducible (refine Below.alloc ?_ ?_ _)) | (with_reducible (refine Below.drew ?_)) | (with_reducible (refine below_via ?_ HB1.out ?_)) | omega | (simp; done) | (simp; omega))

/-- The error of a place. -/
def sizeOk (size : Int) : Bool := decide (size = 1) || (decide (size = 2) || (decide (size = 4) || decide (size = 8)))
def placeErr (g : Bool) (n : Nat) (at_ size : Int) : Int := if g && sizeOk size then (if at_ < 0 ∨ 8 * (n : Int) ≤ at_ then 2 else if at_ % size = 0 then 0 else 8) else 1

theorem size_cases (size : Int) : size = 1 ∨ size = 2 ∨ size = 4 ∨ size = 8 ∨ (sizeOk size = false ∧ size ≠ 1 ∧ size ≠ 2 ∧ size ≠ 4 ∧ size ≠ 8) := by
  by_cases h1 : size = 1
  · exact .inl h1
  by_cases h2 : size = 2
  · exact .inr (.inl h2)
  by_cases h4 : size = 4
  · exact .inr (.inr (.inl h4))
  by_cases h8 : size = 8
  · exact .inr (.inr (.inr (.inl h8)))
  · exact .inr (.inr (.inr (.inr ⟨by simp [sizeOk, h1, h2, h4, h8], h1, h2, h4, h8⟩)))

set_option maxHeartbeats 1000000 in
theorem memPlaced_no (A : Option Addr) (n c : Nat) (at_ size : Int) (w : World) (hn : n ≤ 140737488355328) (h : (memOk n && sizeOk size) = false) :
    Calls Try.prog 35 #[.agg #[.slice A n c], .int .i64 at_, .int .i64 size] w fun e w' => e = .returned (.int .i64 1) ∧ Below w.heap.size w w' := by
  have HC := Lib.hid (fun W => memMay_any A n c W (by omega))
  cases hg : memOk n
  · rw [hg] at HC
    clear h hg
    go_enter Try.func35, Try.ntmps35
    go_wp2_with (go_at_call 43; refine (HC.out _).mono ?_; rintro e w1 ⟨rfl, hb1⟩; have hs1 := hb1.size; (try simp at hs1); have hc1_0 := fun o => (bcell hb1).1 (w.heap.size) o (by first | omega | (simp; done) | (simp; omega)); have hf1_0 := fun o => (bcell hb1).2.1 (w.heap.size) o (by first | omega | (simp; done) | (simp; omega)); have hz1_0 := (bcell hb1).2.2 (w.heap.size) (by first | omega | (simp; done) | (simp; omega)); have HB1 := Lib.hid hb1; clear hb1)
    go_ret
    refine ⟨rfl, ?_⟩
    repeat' (first | (with_reducible exact Below.refl _ _) | (with_reducible (refine Below.setCell ?_ ?_ _)) | (with_reducible (refine Below.alloc ?_ ?_ _)) | (with_reducible (refine Below.drew ?_)) | (with_reducible (refine below_via ?_ HB1.out ?_)) | omega | (simp; done) | (simp; omega))
  · rw [hg] at HC h
    rcases size_cases size with rfl | rfl | rfl | rfl | ⟨_, h1, h2, h4, h8⟩
    · simp [sizeOk] at h
    · simp [sizeOk] at h
    · simp [sizeOk] at h
    · simp [sizeOk] at h
    · have q1 : (size == 1) = false := by simp [h1]
      have q2 : (size == 2) = false := by simp [h2]
      have q4 : (size == 4) = false := by simp [h4]
      have q8 : (size == 8) = false := by simp [h8]
      have p1 : (size != 1) = true := by simp [h1]
      have p2 : (size != 2) = true := by simp [h2]
      have p4 : (size != 4) = true := by simp [h4]
      have p8 : (size != 8) = true := by simp [h8]
      clear h hg h1 h2 h4 h8
      go_enter Try.func35, Try.ntmps35
      go_wp2_with (go_at_call 43; refine (HC.out _).mono ?_; rintro e w1 ⟨rfl, hb1⟩; have hs1 := hb1.size; (try simp at hs1); have hc1_0 := fun o => (bcell hb1).1 (w.heap.size) o (by first | omega | (simp; done) | (simp; omega)); have hf1_0 := fun o => (bcell hb1).2.1 (w.heap.size) o (by first | omega | (simp; done) | (simp; omega)); have hz1_0 := (bcell hb1).2.2 (w.heap.size) (by first | omega | (simp; done) | (simp; omega)); have HB1 := Lib.hid hb1; clear hb1)
      go_ret
      refine ⟨rfl, ?_⟩
      repeat' (first | (with_reducible exact Below.refl _ _) | (with_reducible (refine Below.setCell ?_ ?_ _)) | (with_reducible (refine Below.alloc ?_ ?_ _)) | (with_reducible (refine Below.drew ?_)) | (with_reducible (refine below_via ?_ HB1.out ?_)) | omega | (simp; done) | (simp; omega))

set_option maxHeartbeats 1000000 in
theorem memPlaced_yes (A : Option Addr) (n c : Nat) (at_ size : Int) (w : World) (hn : n ≤ 140737488355328) (hat : -9223372036854775808 ≤ at_ ∧ at_ ≤ 9223372036854775807) (hg : memOk n = true) (hs : size = 1 ∨ size = 2 ∨ size = 4 ∨ size = 8) (r : Int)
    (hr : r = if at_ < 0 ∨ 8 * (n : Int) ≤ at_ then 2 else if at_ % size = 0 then 0 else 8) :
    Calls Try.prog 35 #[.agg #[.slice A n c], .int .i64 at_, .int .i64 size] w fun e w' => e = .returned (.int .i64 r) ∧ Below w.heap.size w w' := by
  have HC := Lib.hid (fun W => memMay_any A n c W (by omega))
  rw [hg] at HC
  clear hg
  have ha1 := hat.1
  have ha2 := hat.2
  clear hat
  by_cases h0 : at_ < 0
  · have HR := Lib.hid (show r = 2 by rw [hr, if_pos (.inl h0)])
    clear hr
    rcases hs with rfl | rfl | rfl | rfl
    all_goals
      go_enter Try.func35, Try.ntmps35
      go_wp2_with (go_at_call 43; refine (HC.out _).mono ?_; rintro e w1 ⟨rfl, hb1⟩; have hs1 := hb1.size; (try simp at hs1); have hc1_0 := fun o => (bcell hb1).1 (w.heap.size) o (by first | omega | (simp; done) | (simp; omega)); have hf1_0 := fun o => (bcell hb1).2.1 (w.heap.size) o (by first | omega | (simp; done) | (simp; omega)); have hz1_0 := (bcell hb1).2.2 (w.heap.size) (by first | omega | (simp; done) | (simp; omega)); have HB1 := Lib.hid hb1; clear hb1)
      go_ret
      refine ⟨by rw [HR.out]; rfl, ?_⟩
      repeat' (first | (with_reducible exact Below.refl _ _) | (with_reducible (refine Below.setCell ?_ ?_ _)) | (with_reducible (refine Below.alloc ?_ ?_ _)) | (with_reducible (refine Below.drew ?_)) | (with_reducible (refine below_via ?_ HB1.out ?_)) | omega | (simp; done) | (simp; omega))
  · by_cases h1 : 8 * (n : Int) ≤ at_
    · have HR := Lib.hid (show r = 2 by rw [hr, if_pos (.inr h1)])
      clear hr
      rcases hs with rfl | rfl | rfl | rfl
      all_goals
        go_enter Try.func35, Try.ntmps35
        go_wp2_with (go_at_call 43; refine (HC.out _).mono ?_; rintro e w1 ⟨rfl, hb1⟩; have hs1 := hb1.size; (try simp at hs1); have hc1_0 := fun o => (bcell hb1).1 (w.heap.size) o (by first | omega | (simp; done) | (simp; omega)); have hf1_0 := fun o => (bcell hb1).2.1 (w.heap.size) o (by first | omega | (simp; done) | (simp; omega)); have hz1_0 := (bcell hb1).2.2 (w.heap.size) (by first | omega | (simp; done) | (simp; omega)); have HB1 := Lib.hid hb1; clear hb1)
        go_ret
        refine ⟨by rw [HR.out]; rfl, ?_⟩
        repeat' (first | (with_reducible exact Below.refl _ _) | (with_reducible (refine Below.setCell ?_ ?_ _)) | (with_reducible (refine Below.alloc ?_ ?_ _)) | (with_reducible (refine Below.drew ?_)) | (with_reducible (refine below_via ?_ HB1.out ?_)) | omega | (simp; done) | (simp; omega))
    · by_cases h2 : at_ % size = 0
      · have HR := Lib.hid (show r = 0 by rw [hr, if_neg (by omega), if_pos h2])
        clear hr
        rcases hs with rfl | rfl | rfl | rfl
        all_goals
          go_enter Try.func35, Try.ntmps35
          go_wp2_with (go_at_call 43; refine (HC.out _).mono ?_; rintro e w1 ⟨rfl, hb1⟩; have hs1 := hb1.size; (try simp at hs1); have hc1_0 := fun o => (bcell hb1).1 (w.heap.size) o (by first | omega | (simp; done) | (simp; omega)); have hf1_0 := fun o => (bcell hb1).2.1 (w.heap.size) o (by first | omega | (simp; done) | (simp; omega)); have hz1_0 := (bcell hb1).2.2 (w.heap.size) (by first | omega | (simp; done) | (simp; omega)); have HB1 := Lib.hid hb1; clear hb1)
          go_ret
          refine ⟨by rw [HR.out]; rfl, ?_⟩
          repeat' (first | (with_reducible exact Below.refl _ _) | (with_reducible (refine Below.setCell ?_ ?_ _)) | (with_reducible (refine Below.alloc ?_ ?_ _)) | (with_reducible (refine Below.drew ?_)) | (with_reducible (refine below_via ?_ HB1.out ?_)) | omega | (simp; done) | (simp; omega))
      · have HR := Lib.hid (show r = 8 by rw [hr, if_neg (by omega), if_neg h2])
        clear hr
        rcases hs with rfl | rfl | rfl | rfl
        · exact absurd (by omega) h2
        all_goals
          go_enter Try.func35, Try.ntmps35
          go_wp2_with (go_at_call 43; refine (HC.out _).mono ?_; rintro e w1 ⟨rfl, hb1⟩; have hs1 := hb1.size; (try simp at hs1); have hc1_0 := fun o => (bcell hb1).1 (w.heap.size) o (by first | omega | (simp; done) | (simp; omega)); have hf1_0 := fun o => (bcell hb1).2.1 (w.heap.size) o (by first | omega | (simp; done) | (simp; omega)); have hz1_0 := (bcell hb1).2.2 (w.heap.size) (by first | omega | (simp; done) | (simp; omega)); have HB1 := Lib.hid hb1; clear hb1)
          go_ret
          refine ⟨by rw [HR.out]; rfl, ?_⟩
          repeat' (first | (with_reducible exact Below.refl _ _) | (with_reducible (refine Below.setCell ?_ ?_ _)) | (with_reducible (refine Below.alloc ?_ ?_ _)) | (with_reducible (refine Below.drew ?_)) | (with_reducible (refine below_via ?_ HB1.out ?_)) | omega | (simp; done) | (simp; omega))

end Go.Proofs.Ytipepkmmjdlpoaa
