/-
  How many pages a leaf has, the place in a table. Conditions: none.
-/
import Derived.Test.YtddbndmbcdeggaaDescJ
namespace Go.Proofs.Ytddbndmbcdeggaa
open Go.RowKit

theorem placeOne (level : Int) : placeOk 1 level = numOk level 3 := by
  unfold placeOk numOk
  rw [show decide (level < 4) = decide (level ≤ 3) by rw [decide_eq_decide]; omega]
  rfl

set_option maxRecDepth 100000 in
set_option maxHeartbeats 2000000 in
theorem covers_any (level : Int) (w : World) :
    Calls Try.prog 83 #[.int .i64 level] w fun e w' => e = .returned (.tuple #[.int .i64 (if numOk level 3 then coversOf level else 0), .int .i64 (if numOk level 3 then 0 else 1)]) ∧ Below w.heap.size w w' := by
  have HT := Lib.hid (fun W => there_any 1 level W)
  rw [placeOne] at HT
  cases hg : numOk level 3
  · rw [hg] at HT
    clear hg
    go_enter Try.func83, Try.ntmps83
    go_wp2_with fail
    refine Calls.mono (HT.out _) ?_
    rintro e w1 ⟨rfl, hb1⟩
    have hs1 := hb1.size
    try simp at hs1
    have hc1_0 := fun o => (bcell hb1).1 (w.heap.size) o (by first | omega | (simp; done) | (simp; omega))
    have hf1_0 := fun o => (bcell hb1).2.1 (w.heap.size) o (by first | omega | (simp; done) | (simp; omega))
    have hz1_0 := (bcell hb1).2.2 (w.heap.size) (by first | omega | (simp; done) | (simp; omega))
    have HB1 := Lib.hid hb1
    clear hb1
    go_wp2
    go_ret2
    exact ⟨rfl, (by repeat' (first | (with_reducible exact Below.refl _ _) | (with_reducible (refine Below.setCell ?_ ?_ _)) | (with_reducible (refine Below.alloc ?_ ?_ _)) | (with_reducible (refine Below.drew ?_)) | (with_reducible (refine below_via ?_ HB1.out ?_)) | omega | (simp; done) | (simp; omega)))⟩
  · rw [hg] at HT
    have hl : 0 ≤ level ∧ level ≤ 3 := by simpa [numOk] using hg
    have HBT := Lib.hid (fun W => bits_any 1 level hl.1 hl.2 W)
    have hbt : 0 ≤ bitsOf level ∧ bitsOf level ≤ 9 := by unfold bitsOf; omega
    unfold coversOf
    generalize bitsOf level = bt at *
    obtain ⟨hb0, hb9⟩ := hbt
    have hw2 := i64_covers bt hb0 hb9
    clear hg hl
    go_enter Try.func83, Try.ntmps83
    go_wp2_with fail
    refine Calls.mono (HT.out _) ?_
    rintro e w1 ⟨rfl, hb1⟩
    have hs1 := hb1.size
    try simp at hs1
    have hc1_0 := fun o => (bcell hb1).1 (w.heap.size) o (by first | omega | (simp; done) | (simp; omega))
    have hf1_0 := fun o => (bcell hb1).2.1 (w.heap.size) o (by first | omega | (simp; done) | (simp; omega))
    have hz1_0 := (bcell hb1).2.2 (w.heap.size) (by first | omega | (simp; done) | (simp; omega))
    have HB1 := Lib.hid hb1
    clear hb1
    go_wp2_with fail
    refine Calls.mono (HBT.out _) ?_
    rintro e w2 ⟨rfl, hb2⟩
    have hs2 := hb2.size
    try simp at hs2
    have hc2_0 := fun o => (bcell hb2).1 (w.heap.size) o (by first | omega | (simp; done) | (simp; omega))
    have hf2_0 := fun o => (bcell hb2).2.1 (w.heap.size) o (by first | omega | (simp; done) | (simp; omega))
    have hz2_0 := (bcell hb2).2.2 (w.heap.size) (by first | omega | (simp; done) | (simp; omega))
    have HB2 := Lib.hid hb2
    clear hb2
    go_wp2
    go_ret2
    exact ⟨rfl, (by repeat' (first | (with_reducible exact Below.refl _ _) | (with_reducible (refine Below.setCell ?_ ?_ _)) | (with_reducible (refine Below.alloc ?_ ?_ _)) | (with_reducible (refine Below.drew ?_)) | (with_reducible (refine below_via ?_ HB2.out ?_)) | (with_reducible (refine below_via ?_ HB1.out ?_)) | omega | (simp; done) | (simp; omega)))⟩

def idxOf (level page : Int) : Int := page / coversOf level % 8
def idxOk (level page : Int) : Bool := numOk level 3 && numOk page 4095

set_option maxRecDepth 100000 in
set_option maxHeartbeats 2000000 in
theorem index_any (level page : Int) (w : World) :
    Calls Try.prog 37 #[.int .i64 level, .int .i64 page] w fun e w' => e = .returned (.tuple #[.int .i64 (if idxOk level page then idxOf level page else 0), .int .i64 (if idxOk level page then 0 else 1)]) ∧ Below w.heap.size w w' := by
  have HT := Lib.hid (fun W => there_any 1 level W)
  rw [placeOne] at HT
  unfold idxOk
  cases hg : numOk level 3
  · rw [hg] at HT
    rw [Bool.false_and]
    clear hg
    go_enter Try.func37, Try.ntmps37
    go_wp2_with fail
    refine Calls.mono (HT.out _) ?_
    rintro e w1 ⟨rfl, hb1⟩
    have hs1 := hb1.size
    try simp at hs1
    have hc1_0 := fun o => (bcell hb1).1 (w.heap.size) o (by first | omega | (simp; done) | (simp; omega))
    have hf1_0 := fun o => (bcell hb1).2.1 (w.heap.size) o (by first | omega | (simp; done) | (simp; omega))
    have hz1_0 := (bcell hb1).2.2 (w.heap.size) (by first | omega | (simp; done) | (simp; omega))
    have HB1 := Lib.hid hb1
    clear hb1
    go_wp2
    go_ret2
    exact ⟨rfl, (by repeat' (first | (with_reducible exact Below.refl _ _) | (with_reducible (refine Below.setCell ?_ ?_ _)) | (with_reducible (refine Below.alloc ?_ ?_ _)) | (with_reducible (refine Below.drew ?_)) | (with_reducible (refine below_via ?_ HB1.out ?_)) | omega | (simp; done) | (simp; omega)))⟩
  · rw [hg] at HT
    rw [Bool.true_and]
    have hl : 0 ≤ level ∧ level ≤ 3 := by simpa [numOk] using hg
    have HBT := Lib.hid (fun W => bits_any 1 level hl.1 hl.2 W)
    have hbt : 0 ≤ bitsOf level ∧ bitsOf level ≤ 9 := by unfold bitsOf; omega
    clear hg hl
    unfold numOk
    by_cases h0 : 0 ≤ page
    · have q0 : decide (0 ≤ page) = true := by simpa using h0
      have q0' : decide (page < 0) = false := by simp; omega
      by_cases h1 : page ≤ 4095
      · have q1 : decide (page ≤ 4095) = true := by simpa using h1
        have q1' : decide (4095 < page) = false := by simp; omega
        rw [q0, q1]
        unfold idxOf coversOf
        generalize bitsOf level = bt at *
        obtain ⟨hb0, hb9⟩ := hbt
        have hp : 0 ≤ page / 2 ^ bt.toNat := Int.ediv_nonneg h0 (Int.le_of_lt (covers_pos bt))
        go_enter Try.func37, Try.ntmps37
        go_wp2_with fail
        refine Calls.mono (HT.out _) ?_
        rintro e w1 ⟨rfl, hb1⟩
        have hs1 := hb1.size
        try simp at hs1
        have hc1_0 := fun o => (bcell hb1).1 (w.heap.size) o (by first | omega | (simp; done) | (simp; omega))
        have hf1_0 := fun o => (bcell hb1).2.1 (w.heap.size) o (by first | omega | (simp; done) | (simp; omega))
        have hz1_0 := (bcell hb1).2.2 (w.heap.size) (by first | omega | (simp; done) | (simp; omega))
        have HB1 := Lib.hid hb1
        clear hb1
        go_wp2_with fail
        refine Calls.mono (HBT.out _) ?_
        rintro e w2 ⟨rfl, hb2⟩
        have hs2 := hb2.size
        try simp at hs2
        have hc2_0 := fun o => (bcell hb2).1 (w.heap.size) o (by first | omega | (simp; done) | (simp; omega))
        have hf2_0 := fun o => (bcell hb2).2.1 (w.heap.size) o (by first | omega | (simp; done) | (simp; omega))
        have hz2_0 := (bcell hb2).2.2 (w.heap.size) (by first | omega | (simp; done) | (simp; omega))
        have HB2 := Lib.hid hb2
        clear hb2
        go_wp2
        go_ret2
        exact ⟨rfl, (by repeat' (first | (with_reducible exact Below.refl _ _) | (with_reducible (refine Below.setCell ?_ ?_ _)) | (with_reducible (refine Below.alloc ?_ ?_ _)) | (with_reducible (refine Below.drew ?_)) | (with_reducible (refine below_via ?_ HB2.out ?_)) | (with_reducible (refine below_via ?_ HB1.out ?_)) | omega | (simp; done) | (simp; omega)))⟩
      · have q1 : decide (page ≤ 4095) = false := by simpa using h1
        have q1' : decide (4095 < page) = true := by simp; omega
        rw [q0, q1]
        clear h0 h1
        go_enter Try.func37, Try.ntmps37
        go_wp2_with fail
        refine Calls.mono (HT.out _) ?_
        rintro e w1 ⟨rfl, hb1⟩
        have hs1 := hb1.size
        try simp at hs1
        have hc1_0 := fun o => (bcell hb1).1 (w.heap.size) o (by first | omega | (simp; done) | (simp; omega))
        have hf1_0 := fun o => (bcell hb1).2.1 (w.heap.size) o (by first | omega | (simp; done) | (simp; omega))
        have hz1_0 := (bcell hb1).2.2 (w.heap.size) (by first | omega | (simp; done) | (simp; omega))
        have HB1 := Lib.hid hb1
        clear hb1
        go_wp2
        go_ret2
        exact ⟨rfl, (by repeat' (first | (with_reducible exact Below.refl _ _) | (with_reducible (refine Below.setCell ?_ ?_ _)) | (with_reducible (refine Below.alloc ?_ ?_ _)) | (with_reducible (refine Below.drew ?_)) | (with_reducible (refine below_via ?_ HB1.out ?_)) | omega | (simp; done) | (simp; omega)))⟩
    · have q0 : decide (0 ≤ page) = false := by simpa using h0
      have q0' : decide (page < 0) = true := by simp; omega
      rw [q0]
      clear h0
      go_enter Try.func37, Try.ntmps37
      go_wp2_with fail
      refine Calls.mono (HT.out _) ?_
      rintro e w1 ⟨rfl, hb1⟩
      have hs1 := hb1.size
      try simp at hs1
      have hc1_0 := fun o => (bcell hb1).1 (w.heap.size) o (by first | omega | (simp; done) | (simp; omega))
      have hf1_0 := fun o => (bcell hb1).2.1 (w.heap.size) o (by first | omega | (simp; done) | (simp; omega))
      have hz1_0 := (bcell hb1).2.2 (w.heap.size) (by first | omega | (simp; done) | (simp; omega))
      have HB1 := Lib.hid hb1
      clear hb1
      go_wp2
      go_ret2
      exact ⟨rfl, (by repeat' (first | (with_reducible exact Below.refl _ _) | (with_reducible (refine Below.setCell ?_ ?_ _)) | (with_reducible (refine Below.alloc ?_ ?_ _)) | (with_reducible (refine Below.drew ?_)) | (with_reducible (refine below_via ?_ HB1.out ?_)) | omega | (simp; done) | (simp; omega)))⟩

set_option maxRecDepth 100000 in
set_option maxHeartbeats 2000000 in
theorem rindex_any (level page : Int) (h : idxOk level page = true) (w : World) :
    Calls Try.prog 42 #[.int .i64 level, .int .i64 page] w fun e w' => e = .returned (.int .i64 (idxOf level page)) ∧ Below w.heap.size w w' := by
  simp only [idxOk, numOk, Bool.and_eq_true, decide_eq_true_eq] at h
  obtain ⟨⟨l0, l1⟩, p0, p1⟩ := h
  have HC := Lib.hid (fun W => rcovers_any level l0 l1 W)
  unfold idxOf
  have hc0 : 0 < coversOf level := covers_pos _
  generalize coversOf level = cv at *
  have hc1 : ¬ cv = 0 := by omega
  have hc2 : (cv == 0) = false := by simpa using hc1
  have hp : 0 ≤ page / cv := Int.ediv_nonneg p0 (by omega)
  have hp2 : page / cv ≤ page := Int.ediv_le_self _ p0
  have hp3 : page / cv ≤ 4095 := by omega
  clear hp2
  go_enter Try.func42, Try.ntmps42
  go_wp2_with fail
  refine Calls.mono (HC.out _) ?_
  rintro e w1 ⟨rfl, hb1⟩
  have hs1 := hb1.size
  try simp at hs1
  have HB1 := Lib.hid hb1
  clear hb1
  go_wp2
  go_ret
  exact ⟨rfl, (by repeat' (first | (with_reducible exact Below.refl _ _) | (with_reducible (refine Below.setCell ?_ ?_ _)) | (with_reducible (refine Below.alloc ?_ ?_ _)) | (with_reducible (refine Below.drew ?_)) | (with_reducible (refine below_via ?_ HB1.out ?_)) | omega | (simp; done) | (simp; omega)))⟩

end Go.Proofs.Ytddbndmbcdeggaa
