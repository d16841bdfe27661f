/-
  What 'perm.May', 'perm.Flag' and the page's own 'May', 'Flag', 'Acc' hand back, by what access is asked. Conditions: none.
-/
import Derived.Test.YtjbjepjbnklccaaRows
import Derived.Test.YtjbjepjbnklccaaBase
import Derived.Test.YtjbjepjbnklccaaOrder
namespace Go.Proofs.Ytjbjepjbnklccaa
open Go.RowKit

theorem num_any (n : Int) (w : World) : Calls Try.prog 14 #[.int .i64 n] w fun e w' => e = .returned (.int .i64 n) ∧ w' = w := by
  go_enter Try.func14, Try.ntmps14
  go_wp2
  go_ret
  exact ⟨rfl, rfl⟩

theorem zNum_any (n m : Int) (w : World) : Calls Try.prog 15 #[.int .i64 n, .int .i64 m] w fun e w' => e = .returned (.bool (decide (0 ≤ n) && decide (n ≤ m))) ∧ w' = w := by
  by_cases h0 : 0 ≤ n
  · by_cases h1 : n ≤ m
    · go_enter Try.func15, Try.ntmps15
      go_wp2
      go_ret
      exact ⟨by simp [h1, h0], rfl⟩
    · go_enter Try.func15, Try.ntmps15
      go_wp2
      go_ret
      exact ⟨by simp; omega, rfl⟩
  · go_enter Try.func15, Try.ntmps15
    go_wp2
    go_ret
    exact ⟨by simp; omega, rfl⟩

def mayOf (r w x : Bool) (acc : Int) : Bool := if acc = 0 then r else if acc = 1 then w else if acc = 2 then x else false
/-- The error number of what is of its form or not. -/
def formIf (b : Bool) : Int := if b then 0 else 1
def accOk (acc : Int) : Bool := decide (0 ≤ acc) && decide (acc ≤ 2)

theorem acc_cases (acc : Int) : acc = 0 ∨ acc = 1 ∨ acc = 2 ∨ (accOk acc = false ∧ acc ≠ 0 ∧ acc ≠ 1 ∧ acc ≠ 2) := by
  unfold accOk
  by_cases h0 : acc = 0
  · exact .inl h0
  by_cases h1 : acc = 1
  · exact .inr (.inl h1)
  by_cases h2 : acc = 2
  · exact .inr (.inr (.inl h2))
  · refine .inr (.inr (.inr ⟨?_, h0, h1, h2⟩))
    simp; omega

theorem acc_any (acc : Int) (w : World) : Calls Try.prog 11 #[.int .i64 acc] w fun e w' => e = .returned (.bool (accOk acc)) ∧ w' = w := by
  go_enter Try.func11, Try.ntmps11
  go_wp2_with (go_at_call 15; refine (zNum_any _ _ _).mono ?_; rintro e w' ⟨rfl, rfl⟩)
  go_ret
  exact ⟨rfl, rfl⟩

theorem may_any (r w x f n : Bool) (s acc : Int) (W : World) :
    Calls Try.prog 9 #[.agg #[.bool r, .bool w, .bool x, .bool f, .bool n, .int .i64 s], .int .i64 acc] W fun e w' =>
      e = .returned (.tuple #[.bool (mayOf r w x acc), .int .i64 (formIf (accOk acc))]) ∧ Below W.heap.size W w' := by
  rcases acc_cases acc with rfl | rfl | rfl | ⟨ha, h0, h1, h2⟩
  · go_enter Try.func9, Try.ntmps9
    go_wp2
    go_ret2
    exact ⟨rfl, (Below.refl _ _).alloc (Nat.le_refl _) _⟩
  · go_enter Try.func9, Try.ntmps9
    go_wp2
    go_ret2
    exact ⟨rfl, (Below.refl _ _).alloc (Nat.le_refl _) _⟩
  · go_enter Try.func9, Try.ntmps9
    go_wp2
    go_ret2
    exact ⟨rfl, (Below.refl _ _).alloc (Nat.le_refl _) _⟩
  · have e0 : (acc == 0) = false := by simp [h0]
    have e1 : (acc == 1) = false := by simp [h1]
    have e2 : (acc == 2) = false := by simp [h2]
    have HA := Lib.hid (show mayOf r w x acc = false by simp [mayOf, h0, h1, h2])
    have HB := Lib.hid ha
    clear ha h0 h1 h2
    go_enter Try.func9, Try.ntmps9
    go_wp2
    go_ret2
    exact ⟨by rw [HA.out, HB.out]; rfl, (Below.refl _ _).alloc (Nat.le_refl _) _⟩

theorem refMay_any (r w x f n : Bool) (s acc : Int) (W : World) :
    Calls Try.prog 12 #[.agg #[.bool r, .bool w, .bool x, .bool f, .bool n, .int .i64 s], .int .i64 acc] W fun e w' =>
      e = .returned (.bool (mayOf r w x acc)) ∧ Below W.heap.size W w' := by
  rcases acc_cases acc with rfl | rfl | rfl | ⟨hx, h0, h1, h2⟩
  · cases r
    all_goals
      go_enter Try.func12, Try.ntmps12
      go_wp2
      go_ret
      exact ⟨rfl, (Below.refl _ _).alloc (Nat.le_refl _) _⟩
  · cases w
    all_goals
      go_enter Try.func12, Try.ntmps12
      go_wp2
      go_ret
      exact ⟨rfl, (Below.refl _ _).alloc (Nat.le_refl _) _⟩
  · cases x
    all_goals
      go_enter Try.func12, Try.ntmps12
      go_wp2
      go_ret
      exact ⟨rfl, (Below.refl _ _).alloc (Nat.le_refl _) _⟩
  · have e0 : (acc == 0) = false := by simp [h0]
    have e1 : (acc == 1) = false := by simp [h1]
    have e2 : (acc == 2) = false := by simp [h2]
    have HA := Lib.hid (show mayOf r w x acc = false by simp [mayOf, h0, h1, h2])
    clear h0 h1 h2 hx
    go_enter Try.func12, Try.ntmps12
    go_wp2
    go_ret
    exact ⟨by rw [HA.out]; rfl, (Below.refl _ _).alloc (Nat.le_refl _) _⟩

/-- Why an access may not be: the kind of the fault. -/
def faultOf (f may : Bool) : Int := if f then (if may then 0 else 4) else 3
def faultCells (k stage level : Int) (walk : Bool) (page : Int) : List Value := [.int .i64 k, .int .i64 stage, .int .i64 level, .bool walk, .int .i64 page]
/-- The fault that an access meets, or none. -/
def flagOf (f may : Bool) (stage level page : Int) : List Value := if f && may then faultCells 0 0 0 false 0 else faultCells (faultOf f may) stage level false page

set_option maxHeartbeats 1000000 in
theorem flag_any (r w x f n : Bool) (s acc stage level page : Int) (W : World) :
    Calls Try.prog 10 #[.agg #[.bool r, .bool w, .bool x, .bool f, .bool n, .int .i64 s], .int .i64 acc, .int .i64 stage, .int .i64 level, .int .i64 page] W fun e w' =>
      e = .returned (.tuple #[.agg (if accOk acc then flagOf f (mayOf r w x acc) stage level page else faultCells 0 0 0 false 0).toArray, .int .i64 (formIf (accOk acc))]) ∧ Below W.heap.size W w' := by
  have hm := may_any r w x f n s acc
  have HM := Lib.hid hm
  clear hm
  generalize mayOf r w x acc = m at *
  generalize accOk acc = g at *
  have E0 : formIf false = 1 := rfl
  have E1 : formIf true = 0 := rfl
  cases g
  · go_enter Try.func10, Try.ntmps10
    go_wp2_with (go_at_call 9; refine (HM.out _).mono ?_; rintro e w1 ⟨rfl, hb1⟩; have hs1 := hb1.size; (try simp at hs1); have hc1_0 := fun o => (bcell hb1).1 (W.heap.size) o (by first | omega | (simp; done) | (simp; omega)); have hf1_0 := fun o => (bcell hb1).2.1 (W.heap.size) o (by first | omega | (simp; done) | (simp; omega)); have hz1_0 := (bcell hb1).2.2 (W.heap.size) (by first | omega | (simp; done) | (simp; omega)); have hc1_1 := fun o => (bcell hb1).1 (W.heap.size + 1) o (by first | omega | (simp; done) | (simp; omega)); have hf1_1 := fun o => (bcell hb1).2.1 (W.heap.size + 1) o (by first | omega | (simp; done) | (simp; omega)); have hz1_1 := (bcell hb1).2.2 (W.heap.size + 1) (by first | omega | (simp; done) | (simp; omega)); have HB1 := Lib.hid hb1; clear hb1)
    refine bodyPost_ret (v := .tuple #[.agg (faultCells 0 0 0 false 0).toArray, .int .i64 1]) (by simp only [results, Try.results10]; simp only [faultCells]; go_simp) rfl ⟨rfl, ?_⟩
    repeat' (first | (with_reducible exact Below.refl _ _) | (with_reducible (refine Below.setCell ?_ ?_ _)) | (with_reducible (refine Below.alloc ?_ ?_ _)) | (with_reducible (refine Below.drew ?_)) | (with_reducible (refine below_call ?_ HB1.out ?_)) | omega | (simp; done) | (simp; omega))
  · cases f
    · go_enter Try.func10, Try.ntmps10
      go_wp2_with (go_at_call 9; refine (HM.out _).mono ?_; rintro e w1 ⟨rfl, hb1⟩; have hs1 := hb1.size; (try simp at hs1); have hc1_0 := fun o => (bcell hb1).1 (W.heap.size) o (by first | omega | (simp; done) | (simp; omega)); have hf1_0 := fun o => (bcell hb1).2.1 (W.heap.size) o (by first | omega | (simp; done) | (simp; omega)); have hz1_0 := (bcell hb1).2.2 (W.heap.size) (by first | omega | (simp; done) | (simp; omega)); have hc1_1 := fun o => (bcell hb1).1 (W.heap.size + 1) o (by first | omega | (simp; done) | (simp; omega)); have hf1_1 := fun o => (bcell hb1).2.1 (W.heap.size + 1) o (by first | omega | (simp; done) | (simp; omega)); have hz1_1 := (bcell hb1).2.2 (W.heap.size + 1) (by first | omega | (simp; done) | (simp; omega)); have HB1 := Lib.hid hb1; clear hb1)
      refine bodyPost_ret (v := .tuple #[.agg (faultCells 3 stage level false page).toArray, .int .i64 0]) (by simp only [results, Try.results10]; simp only [faultCells]; go_simp) rfl ⟨by cases m <;> rfl, ?_⟩
      repeat' (first | (with_reducible exact Below.refl _ _) | (with_reducible (refine Below.setCell ?_ ?_ _)) | (with_reducible (refine Below.alloc ?_ ?_ _)) | (with_reducible (refine Below.drew ?_)) | (with_reducible (refine below_call ?_ HB1.out ?_)) | omega | (simp; done) | (simp; omega))
    · cases m
      · go_enter Try.func10, Try.ntmps10
        go_wp2_with (go_at_call 9; refine (HM.out _).mono ?_; rintro e w1 ⟨rfl, hb1⟩; have hs1 := hb1.size; (try simp at hs1); have hc1_0 := fun o => (bcell hb1).1 (W.heap.size) o (by first | omega | (simp; done) | (simp; omega)); have hf1_0 := fun o => (bcell hb1).2.1 (W.heap.size) o (by first | omega | (simp; done) | (simp; omega)); have hz1_0 := (bcell hb1).2.2 (W.heap.size) (by first | omega | (simp; done) | (simp; omega)); have hc1_1 := fun o => (bcell hb1).1 (W.heap.size + 1) o (by first | omega | (simp; done) | (simp; omega)); have hf1_1 := fun o => (bcell hb1).2.1 (W.heap.size + 1) o (by first | omega | (simp; done) | (simp; omega)); have hz1_1 := (bcell hb1).2.2 (W.heap.size + 1) (by first | omega | (simp; done) | (simp; omega)); have HB1 := Lib.hid hb1; clear hb1)
        refine bodyPost_ret (v := .tuple #[.agg (faultCells 4 stage level false page).toArray, .int .i64 0]) (by simp only [results, Try.results10]; simp only [faultCells]; go_simp) rfl ⟨rfl, ?_⟩
        repeat' (first | (with_reducible exact Below.refl _ _) | (with_reducible (refine Below.setCell ?_ ?_ _)) | (with_reducible (refine Below.alloc ?_ ?_ _)) | (with_reducible (refine Below.drew ?_)) | (with_reducible (refine below_call ?_ HB1.out ?_)) | omega | (simp; done) | (simp; omega))
      · go_enter Try.func10, Try.ntmps10
        go_wp2_with (go_at_call 9; refine (HM.out _).mono ?_; rintro e w1 ⟨rfl, hb1⟩; have hs1 := hb1.size; (try simp at hs1); have hc1_0 := fun o => (bcell hb1).1 (W.heap.size) o (by first | omega | (simp; done) | (simp; omega)); have hf1_0 := fun o => (bcell hb1).2.1 (W.heap.size) o (by first | omega | (simp; done) | (simp; omega)); have hz1_0 := (bcell hb1).2.2 (W.heap.size) (by first | omega | (simp; done) | (simp; omega)); have hc1_1 := fun o => (bcell hb1).1 (W.heap.size + 1) o (by first | omega | (simp; done) | (simp; omega)); have hf1_1 := fun o => (bcell hb1).2.1 (W.heap.size + 1) o (by first | omega | (simp; done) | (simp; omega)); have hz1_1 := (bcell hb1).2.2 (W.heap.size + 1) (by first | omega | (simp; done) | (simp; omega)); have HB1 := Lib.hid hb1; clear hb1)
        refine bodyPost_ret (v := .tuple #[.agg (faultCells 0 0 0 false 0).toArray, .int .i64 0]) (by simp only [results, Try.results10]; simp only [faultCells]; go_simp) rfl ⟨rfl, ?_⟩
        repeat' (first | (with_reducible exact Below.refl _ _) | (with_reducible (refine Below.setCell ?_ ?_ _)) | (with_reducible (refine Below.alloc ?_ ?_ _)) | (with_reducible (refine Below.drew ?_)) | (with_reducible (refine below_call ?_ HB1.out ?_)) | omega | (simp; done) | (simp; omega))

set_option maxHeartbeats 1000000 in
theorem refFlag_any (r w x f n : Bool) (s acc stage level page : Int) (W : World) :
    Calls Try.prog 13 #[.agg #[.bool r, .bool w, .bool x, .bool f, .bool n, .int .i64 s], .int .i64 acc, .int .i64 stage, .int .i64 level, .int .i64 page] W fun e w' =>
      e = .returned (.agg (flagOf f (mayOf r w x acc) stage level page).toArray) ∧ Below W.heap.size W w' := by
  have hm := refMay_any r w x f n s acc
  have HM := Lib.hid hm
  clear hm
  generalize mayOf r w x acc = m at *
  cases f
  · go_enter Try.func13, Try.ntmps13
    go_wp2
    refine bodyPost_ret (v := .agg (faultCells 3 stage level false page).toArray) (by simp only [results, Try.results13]; simp only [faultCells]; go_simp) rfl ⟨by cases m <;> rfl, ?_⟩
    repeat' (first | (with_reducible exact Below.refl _ _) | (with_reducible (refine Below.setCell ?_ ?_ _)) | (with_reducible (refine Below.alloc ?_ ?_ _)) | (with_reducible (refine Below.drew ?_)) | omega | (simp; done) | (simp; omega))
  · cases m
    · go_enter Try.func13, Try.ntmps13
      go_wp2_with (go_at_call 12; refine (HM.out _).mono ?_; rintro e w1 ⟨rfl, hb1⟩; have hs1 := hb1.size; (try simp at hs1); have hc1_0 := fun o => (bcell hb1).1 (W.heap.size) o (by first | omega | (simp; done) | (simp; omega)); have hf1_0 := fun o => (bcell hb1).2.1 (W.heap.size) o (by first | omega | (simp; done) | (simp; omega)); have hz1_0 := (bcell hb1).2.2 (W.heap.size) (by first | omega | (simp; done) | (simp; omega)); have hc1_1 := fun o => (bcell hb1).1 (W.heap.size + 1) o (by first | omega | (simp; done) | (simp; omega)); have hf1_1 := fun o => (bcell hb1).2.1 (W.heap.size + 1) o (by first | omega | (simp; done) | (simp; omega)); have hz1_1 := (bcell hb1).2.2 (W.heap.size + 1) (by first | omega | (simp; done) | (simp; omega)); have hc1_2 := fun o => (bcell hb1).1 (W.heap.size + 1 + 1) o (by first | omega | (simp; done) | (simp; omega)); have hf1_2 := fun o => (bcell hb1).2.1 (W.heap.size + 1 + 1) o (by first | omega | (simp; done) | (simp; omega)); have hz1_2 := (bcell hb1).2.2 (W.heap.size + 1 + 1) (by first | omega | (simp; done) | (simp; omega)); have HB1 := Lib.hid hb1; clear hb1)
      refine bodyPost_ret (v := .agg (faultCells 4 stage level false page).toArray) (by simp only [results, Try.results13]; simp only [faultCells]; go_simp) rfl ⟨rfl, ?_⟩
      repeat' (first | (with_reducible exact Below.refl _ _) | (with_reducible (refine Below.setCell ?_ ?_ _)) | (with_reducible (refine Below.alloc ?_ ?_ _)) | (with_reducible (refine Below.drew ?_)) | (with_reducible (refine below_call ?_ HB1.out ?_)) | omega | (simp; done) | (simp; omega))
    · go_enter Try.func13, Try.ntmps13
      go_wp2_with (go_at_call 12; refine (HM.out _).mono ?_; rintro e w1 ⟨rfl, hb1⟩; have hs1 := hb1.size; (try simp at hs1); have hc1_0 := fun o => (bcell hb1).1 (W.heap.size) o (by first | omega | (simp; done) | (simp; omega)); have hf1_0 := fun o => (bcell hb1).2.1 (W.heap.size) o (by first | omega | (simp; done) | (simp; omega)); have hz1_0 := (bcell hb1).2.2 (W.heap.size) (by first | omega | (simp; done) | (simp; omega)); have hc1_1 := fun o => (bcell hb1).1 (W.heap.size + 1) o (by first | omega | (simp; done) | (simp; omega)); have hf1_1 := fun o => (bcell hb1).2.1 (W.heap.size + 1) o (by first | omega | (simp; done) | (simp; omega)); have hz1_1 := (bcell hb1).2.2 (W.heap.size + 1) (by first | omega | (simp; done) | (simp; omega)); have hc1_2 := fun o => (bcell hb1).1 (W.heap.size + 1 + 1) o (by first | omega | (simp; done) | (simp; omega)); have hf1_2 := fun o => (bcell hb1).2.1 (W.heap.size + 1 + 1) o (by first | omega | (simp; done) | (simp; omega)); have hz1_2 := (bcell hb1).2.2 (W.heap.size + 1 + 1) (by first | omega | (simp; done) | (simp; omega)); have HB1 := Lib.hid hb1; clear hb1)
      refine bodyPost_ret (v := .agg (faultCells 0 0 0 false 0).toArray) (by simp only [results, Try.results13]; simp only [faultCells]; go_simp) rfl ⟨rfl, ?_⟩
      repeat' (first | (with_reducible exact Below.refl _ _) | (with_reducible (refine Below.setCell ?_ ?_ _)) | (with_reducible (refine Below.alloc ?_ ?_ _)) | (with_reducible (refine Below.drew ?_)) | (with_reducible (refine below_call ?_ HB1.out ?_)) | omega | (simp; done) | (simp; omega))

end Go.Proofs.Ytjbjepjbnklccaa
