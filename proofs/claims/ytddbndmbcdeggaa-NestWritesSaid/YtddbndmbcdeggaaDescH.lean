/-
  What a word could be. Conditions: it is a word.
-/
import Derived.Test.YtddbndmbcdeggaaDescG
namespace Go.Proofs.Ytddbndmbcdeggaa
open Go.RowKit

def guessNone (x : Int) : De := ⟨0, 0, false, false, false, false, false, 0, partOf x 4 4⟩
def guessTable (x : Int) : De := ⟨1, partOf x 12 12, false, false, false, false, false, 0, 0⟩
def guessLeaf (stage x : Int) : De := if stage == 1 then ⟨2, partOf x 12 12, true, !bitOf x 7, !bitOf x 54, bitOf x 10, bitOf x 11, 0, 0⟩ else ⟨2, partOf x 12 12, bitOf x 6, bitOf x 7, !bitOf x 54, bitOf x 10, false, partOf x 55 4, 0⟩
def guessDe (stage level x : Int) : De := if !bitOf x 0 then guessNone x else if bitOf x 1 && decide (level < 3) then guessTable x else guessLeaf stage x

set_option maxRecDepth 100000 in
set_option maxHeartbeats 1000000 in
theorem on_any (at_ x : Int) (b : Nat) (hx : 0 ≤ x ∧ x ≤ 18446744073709551615) (h0 : 0 ≤ at_) (h1 : at_ ≤ 63) (w : World) (hc : w.cell? ⟨b, 0, none⟩ = some (.int .u64 x)) :
    Calls Try.prog 75 #[.int .i64 at_, .pointer (some ⟨b, 0, none⟩)] w fun e w' => e = .returned (.bool (bitOf x at_)) ∧ Below w.heap.size w w' := by
  have HP := Lib.hid (fun W => part_any x at_ 1 hx (by omega) (by omega) h0 (by omega) W)
  unfold bitOf
  clear hx
  go_enter Try.func75, Try.ntmps75
  go_wp2_with fail
  refine Calls.mono (HP.out _) ?_
  rintro e w1 ⟨rfl, hb1⟩
  have hs1 := hb1.size
  try simp at hs1
  have HB1 := Lib.hid hb1
  clear hb1
  go_wp2
  go_ret
  exact ⟨rfl, (by repeat' (first | (with_reducible exact Below.refl _ _) | (with_reducible (refine Below.setCell ?_ ?_ _)) | (with_reducible (refine Below.alloc ?_ ?_ _)) | (with_reducible (refine Below.drew ?_)) | (with_reducible (refine below_via ?_ HB1.out ?_)) | omega | (simp; done) | (simp; omega)))⟩

def deV (d : De) : Value := .agg d.cells.toArray
/-- What comes of 'guess'. -/
def GuessPost (w : World) (d : De) (e : Ending) (w' : World) : Prop := e = .returned (deV d) ∧ Below w.heap.size w w'

set_option maxRecDepth 100000 in
set_option maxHeartbeats 8000000 in
theorem guess0 (stage level x : Int) (hx : 0 ≤ x ∧ x ≤ 18446744073709551615) (b0 : bitOf x 0 = false) (w : World) :
    Calls Try.prog 60 #[.agg #[.int .i64 stage, .int .i64 level], .int .u64 x] w (GuessPost w (guessNone x)) := by
  have HP := Lib.hid (fun at_ n h0 h1 h2 h3 W => part_any x at_ n hx h0 h1 h2 h3 W)
  have HON := Lib.hid (fun at_ b h0 h1 W hc => on_any at_ x b hx h0 h1 W hc)
  clear hx
  go_enter Try.func60, Try.ntmps60
  go_wp2_with fail
  refine Calls.mono (HON.out _ _ (by omega) (by omega) _ (by go_simp)) ?_
  rintro e w1 ⟨rfl, hb1⟩
  have hs1 := hb1.size
  try simp at hs1
  have hc1_0 := fun o => (bcell hb1).1 (w.heap.size) o (by first | omega | (simp; done) | (simp; omega))
  have hf1_0 := fun o => (bcell hb1).2.1 (w.heap.size) o (by first | omega | (simp; done) | (simp; omega))
  have hz1_0 := (bcell hb1).2.2 (w.heap.size) (by first | omega | (simp; done) | (simp; omega))
  have hc1_1 := fun o => (bcell hb1).1 (w.heap.size + 1) o (by first | omega | (simp; done) | (simp; omega))
  have hf1_1 := fun o => (bcell hb1).2.1 (w.heap.size + 1) o (by first | omega | (simp; done) | (simp; omega))
  have hz1_1 := (bcell hb1).2.2 (w.heap.size + 1) (by first | omega | (simp; done) | (simp; omega))
  have hc1_2 := fun o => (bcell hb1).1 (w.heap.size + 2) o (by first | omega | (simp; done) | (simp; omega))
  have hf1_2 := fun o => (bcell hb1).2.1 (w.heap.size + 2) o (by first | omega | (simp; done) | (simp; omega))
  have hz1_2 := (bcell hb1).2.2 (w.heap.size + 2) (by first | omega | (simp; done) | (simp; omega))
  have HB1 := Lib.hid hb1
  clear hb1
  go_wp2_with fail
  refine Calls.mono (HP.out _ _ (by omega) (by omega) (by omega) (by omega) _) ?_
  rintro e w2 ⟨rfl, hb2⟩
  have hs2 := hb2.size
  try simp at hs2
  have hc2_0 := fun o => (bcell hb2).1 (w.heap.size) o (by first | omega | (simp; done) | (simp; omega))
  have hf2_0 := fun o => (bcell hb2).2.1 (w.heap.size) o (by first | omega | (simp; done) | (simp; omega))
  have hz2_0 := (bcell hb2).2.2 (w.heap.size) (by first | omega | (simp; done) | (simp; omega))
  have hc2_1 := fun o => (bcell hb2).1 (w.heap.size + 1) o (by first | omega | (simp; done) | (simp; omega))
  have hf2_1 := fun o => (bcell hb2).2.1 (w.heap.size + 1) o (by first | omega | (simp; done) | (simp; omega))
  have hz2_1 := (bcell hb2).2.2 (w.heap.size + 1) (by first | omega | (simp; done) | (simp; omega))
  have hc2_2 := fun o => (bcell hb2).1 (w.heap.size + 2) o (by first | omega | (simp; done) | (simp; omega))
  have hf2_2 := fun o => (bcell hb2).2.1 (w.heap.size + 2) o (by first | omega | (simp; done) | (simp; omega))
  have hz2_2 := (bcell hb2).2.2 (w.heap.size + 2) (by first | omega | (simp; done) | (simp; omega))
  have HB2 := Lib.hid hb2
  clear hb2
  go_wp2
  refine bodyPost_ret (v := deV (guessNone x)) (by simp [deV, guessNone, De.cells, results, Try.results60, go_sem, *]) rfl ⟨rfl, ?_⟩
  repeat' (first | (with_reducible exact Below.refl _ _) | (with_reducible (refine Below.setCell ?_ ?_ _)) | (with_reducible (refine Below.alloc ?_ ?_ _)) | (with_reducible (refine Below.drew ?_)) | (with_reducible (refine below_via ?_ HB2.out ?_)) | (with_reducible (refine below_via ?_ HB1.out ?_)) | omega | (simp; done) | (simp; omega))

set_option maxRecDepth 100000 in
set_option maxHeartbeats 8000000 in
theorem guess1 (stage level x : Int) (hx : 0 ≤ x ∧ x ≤ 18446744073709551615) (b0 : bitOf x 0 = true) (b1 : bitOf x 1 = true) (hl : (level == 3) = false) (w : World) :
    Calls Try.prog 60 #[.agg #[.int .i64 stage, .int .i64 level], .int .u64 x] w (GuessPost w (guessTable x)) := by
  have HP := Lib.hid (fun at_ n h0 h1 h2 h3 W => part_any x at_ n hx h0 h1 h2 h3 W)
  have HON := Lib.hid (fun at_ b h0 h1 W hc => on_any at_ x b hx h0 h1 W hc)
  clear hx
  go_enter Try.func60, Try.ntmps60
  go_wp2_with fail
  refine Calls.mono (HON.out _ _ (by omega) (by omega) _ (by go_simp)) ?_
  rintro e w1 ⟨rfl, hb1⟩
  have hs1 := hb1.size
  try simp at hs1
  have hc1_0 := fun o => (bcell hb1).1 (w.heap.size) o (by first | omega | (simp; done) | (simp; omega))
  have hf1_0 := fun o => (bcell hb1).2.1 (w.heap.size) o (by first | omega | (simp; done) | (simp; omega))
  have hz1_0 := (bcell hb1).2.2 (w.heap.size) (by first | omega | (simp; done) | (simp; omega))
  have hc1_1 := fun o => (bcell hb1).1 (w.heap.size + 1) o (by first | omega | (simp; done) | (simp; omega))
  have hf1_1 := fun o => (bcell hb1).2.1 (w.heap.size + 1) o (by first | omega | (simp; done) | (simp; omega))
  have hz1_1 := (bcell hb1).2.2 (w.heap.size + 1) (by first | omega | (simp; done) | (simp; omega))
  have hc1_2 := fun o => (bcell hb1).1 (w.heap.size + 2) o (by first | omega | (simp; done) | (simp; omega))
  have hf1_2 := fun o => (bcell hb1).2.1 (w.heap.size + 2) o (by first | omega | (simp; done) | (simp; omega))
  have hz1_2 := (bcell hb1).2.2 (w.heap.size + 2) (by first | omega | (simp; done) | (simp; omega))
  have HB1 := Lib.hid hb1
  clear hb1
  go_wp2_with fail
  refine Calls.mono (HON.out _ _ (by omega) (by omega) _ (by go_simp)) ?_
  rintro e w2 ⟨rfl, hb2⟩
  have hs2 := hb2.size
  try simp at hs2
  have hc2_0 := fun o => (bcell hb2).1 (w.heap.size) o (by first | omega | (simp; done) | (simp; omega))
  have hf2_0 := fun o => (bcell hb2).2.1 (w.heap.size) o (by first | omega | (simp; done) | (simp; omega))
  have hz2_0 := (bcell hb2).2.2 (w.heap.size) (by first | omega | (simp; done) | (simp; omega))
  have hc2_1 := fun o => (bcell hb2).1 (w.heap.size + 1) o (by first | omega | (simp; done) | (simp; omega))
  have hf2_1 := fun o => (bcell hb2).2.1 (w.heap.size + 1) o (by first | omega | (simp; done) | (simp; omega))
  have hz2_1 := (bcell hb2).2.2 (w.heap.size + 1) (by first | omega | (simp; done) | (simp; omega))
  have hc2_2 := fun o => (bcell hb2).1 (w.heap.size + 2) o (by first | omega | (simp; done) | (simp; omega))
  have hf2_2 := fun o => (bcell hb2).2.1 (w.heap.size + 2) o (by first | omega | (simp; done) | (simp; omega))
  have hz2_2 := (bcell hb2).2.2 (w.heap.size + 2) (by first | omega | (simp; done) | (simp; omega))
  have HB2 := Lib.hid hb2
  clear hb2
  go_wp2_with fail
  refine Calls.mono (HP.out _ _ (by omega) (by omega) (by omega) (by omega) _) ?_
  rintro e w3 ⟨rfl, hb3⟩
  have hs3 := hb3.size
  try simp at hs3
  have hc3_0 := fun o => (bcell hb3).1 (w.heap.size) o (by first | omega | (simp; done) | (simp; omega))
  have hf3_0 := fun o => (bcell hb3).2.1 (w.heap.size) o (by first | omega | (simp; done) | (simp; omega))
  have hz3_0 := (bcell hb3).2.2 (w.heap.size) (by first | omega | (simp; done) | (simp; omega))
  have hc3_1 := fun o => (bcell hb3).1 (w.heap.size + 1) o (by first | omega | (simp; done) | (simp; omega))
  have hf3_1 := fun o => (bcell hb3).2.1 (w.heap.size + 1) o (by first | omega | (simp; done) | (simp; omega))
  have hz3_1 := (bcell hb3).2.2 (w.heap.size + 1) (by first | omega | (simp; done) | (simp; omega))
  have hc3_2 := fun o => (bcell hb3).1 (w.heap.size + 2) o (by first | omega | (simp; done) | (simp; omega))
  have hf3_2 := fun o => (bcell hb3).2.1 (w.heap.size + 2) o (by first | omega | (simp; done) | (simp; omega))
  have hz3_2 := (bcell hb3).2.2 (w.heap.size + 2) (by first | omega | (simp; done) | (simp; omega))
  have HB3 := Lib.hid hb3
  clear hb3
  go_wp2
  refine bodyPost_ret (v := deV (guessTable x)) (by simp [deV, guessTable, De.cells, results, Try.results60, go_sem, *]) rfl ⟨rfl, ?_⟩
  repeat' (first | (with_reducible exact Below.refl _ _) | (with_reducible (refine Below.setCell ?_ ?_ _)) | (with_reducible (refine Below.alloc ?_ ?_ _)) | (with_reducible (refine Below.drew ?_)) | (with_reducible (refine below_via ?_ HB3.out ?_)) | (with_reducible (refine below_via ?_ HB2.out ?_)) | (with_reducible (refine below_via ?_ HB1.out ?_)) | omega | (simp; done) | (simp; omega))

set_option maxRecDepth 100000 in
set_option maxHeartbeats 8000000 in
theorem guess2a1 (stage level x : Int) (hx : 0 ≤ x ∧ x ≤ 18446744073709551615) (b0 : bitOf x 0 = true) (b1 : bitOf x 1 = false) (hst : (stage == 1) = true) (w : World) :
    Calls Try.prog 60 #[.agg #[.int .i64 stage, .int .i64 level], .int .u64 x] w (GuessPost w (⟨2, partOf x 12 12, true, !bitOf x 7, !bitOf x 54, bitOf x 10, bitOf x 11, 0, 0⟩)) := by
  have HP := Lib.hid (fun at_ n h0 h1 h2 h3 W => part_any x at_ n hx h0 h1 h2 h3 W)
  have HON := Lib.hid (fun at_ b h0 h1 W hc => on_any at_ x b hx h0 h1 W hc)
  clear hx
  go_enter Try.func60, Try.ntmps60
  go_wp2_with fail
  refine Calls.mono (HON.out _ _ (by omega) (by omega) _ (by go_simp)) ?_
  rintro e w1 ⟨rfl, hb1⟩
  have hs1 := hb1.size
  try simp at hs1
  have hc1_0 := fun o => (bcell hb1).1 (w.heap.size) o (by first | omega | (simp; done) | (simp; omega))
  have hf1_0 := fun o => (bcell hb1).2.1 (w.heap.size) o (by first | omega | (simp; done) | (simp; omega))
  have hz1_0 := (bcell hb1).2.2 (w.heap.size) (by first | omega | (simp; done) | (simp; omega))
  have hc1_1 := fun o => (bcell hb1).1 (w.heap.size + 1) o (by first | omega | (simp; done) | (simp; omega))
  have hf1_1 := fun o => (bcell hb1).2.1 (w.heap.size + 1) o (by first | omega | (simp; done) | (simp; omega))
  have hz1_1 := (bcell hb1).2.2 (w.heap.size + 1) (by first | omega | (simp; done) | (simp; omega))
  have hc1_2 := fun o => (bcell hb1).1 (w.heap.size + 2) o (by first | omega | (simp; done) | (simp; omega))
  have hf1_2 := fun o => (bcell hb1).2.1 (w.heap.size + 2) o (by first | omega | (simp; done) | (simp; omega))
  have hz1_2 := (bcell hb1).2.2 (w.heap.size + 2) (by first | omega | (simp; done) | (simp; omega))
  have HB1 := Lib.hid hb1
  clear hb1
  go_wp2_with fail
  refine Calls.mono (HON.out _ _ (by omega) (by omega) _ (by go_simp)) ?_
  rintro e w2 ⟨rfl, hb2⟩
  have hs2 := hb2.size
  try simp at hs2
  have hc2_0 := fun o => (bcell hb2).1 (w.heap.size) o (by first | omega | (simp; done) | (simp; omega))
  have hf2_0 := fun o => (bcell hb2).2.1 (w.heap.size) o (by first | omega | (simp; done) | (simp; omega))
  have hz2_0 := (bcell hb2).2.2 (w.heap.size) (by first | omega | (simp; done) | (simp; omega))
  have hc2_1 := fun o => (bcell hb2).1 (w.heap.size + 1) o (by first | omega | (simp; done) | (simp; omega))
  have hf2_1 := fun o => (bcell hb2).2.1 (w.heap.size + 1) o (by first | omega | (simp; done) | (simp; omega))
  have hz2_1 := (bcell hb2).2.2 (w.heap.size + 1) (by first | omega | (simp; done) | (simp; omega))
  have hc2_2 := fun o => (bcell hb2).1 (w.heap.size + 2) o (by first | omega | (simp; done) | (simp; omega))
  have hf2_2 := fun o => (bcell hb2).2.1 (w.heap.size + 2) o (by first | omega | (simp; done) | (simp; omega))
  have hz2_2 := (bcell hb2).2.2 (w.heap.size + 2) (by first | omega | (simp; done) | (simp; omega))
  have HB2 := Lib.hid hb2
  clear hb2
  go_wp2_with fail
  refine Calls.mono (HP.out _ _ (by omega) (by omega) (by omega) (by omega) _) ?_
  rintro e w3 ⟨rfl, hb3⟩
  have hs3 := hb3.size
  try simp at hs3
  have hc3_0 := fun o => (bcell hb3).1 (w.heap.size) o (by first | omega | (simp; done) | (simp; omega))
  have hf3_0 := fun o => (bcell hb3).2.1 (w.heap.size) o (by first | omega | (simp; done) | (simp; omega))
  have hz3_0 := (bcell hb3).2.2 (w.heap.size) (by first | omega | (simp; done) | (simp; omega))
  have hc3_1 := fun o => (bcell hb3).1 (w.heap.size + 1) o (by first | omega | (simp; done) | (simp; omega))
  have hf3_1 := fun o => (bcell hb3).2.1 (w.heap.size + 1) o (by first | omega | (simp; done) | (simp; omega))
  have hz3_1 := (bcell hb3).2.2 (w.heap.size + 1) (by first | omega | (simp; done) | (simp; omega))
  have hc3_2 := fun o => (bcell hb3).1 (w.heap.size + 2) o (by first | omega | (simp; done) | (simp; omega))
  have hf3_2 := fun o => (bcell hb3).2.1 (w.heap.size + 2) o (by first | omega | (simp; done) | (simp; omega))
  have hz3_2 := (bcell hb3).2.2 (w.heap.size + 2) (by first | omega | (simp; done) | (simp; omega))
  have HB3 := Lib.hid hb3
  clear hb3
  go_wp2_with fail
  refine Calls.mono (HON.out _ _ (by omega) (by omega) _ (by go_simp)) ?_
  rintro e w4 ⟨rfl, hb4⟩
  have hs4 := hb4.size
  try simp at hs4
  have hc4_0 := fun o => (bcell hb4).1 (w.heap.size) o (by first | omega | (simp; done) | (simp; omega))
  have hf4_0 := fun o => (bcell hb4).2.1 (w.heap.size) o (by first | omega | (simp; done) | (simp; omega))
  have hz4_0 := (bcell hb4).2.2 (w.heap.size) (by first | omega | (simp; done) | (simp; omega))
  have hc4_1 := fun o => (bcell hb4).1 (w.heap.size + 1) o (by first | omega | (simp; done) | (simp; omega))
  have hf4_1 := fun o => (bcell hb4).2.1 (w.heap.size + 1) o (by first | omega | (simp; done) | (simp; omega))
  have hz4_1 := (bcell hb4).2.2 (w.heap.size + 1) (by first | omega | (simp; done) | (simp; omega))
  have hc4_2 := fun o => (bcell hb4).1 (w.heap.size + 2) o (by first | omega | (simp; done) | (simp; omega))
  have hf4_2 := fun o => (bcell hb4).2.1 (w.heap.size + 2) o (by first | omega | (simp; done) | (simp; omega))
  have hz4_2 := (bcell hb4).2.2 (w.heap.size + 2) (by first | omega | (simp; done) | (simp; omega))
  have HB4 := Lib.hid hb4
  clear hb4
  go_wp2_with fail
  refine Calls.mono (HON.out _ _ (by omega) (by omega) _ (by go_simp)) ?_
  rintro e w5 ⟨rfl, hb5⟩
  have hs5 := hb5.size
  try simp at hs5
  have hc5_0 := fun o => (bcell hb5).1 (w.heap.size) o (by first | omega | (simp; done) | (simp; omega))
  have hf5_0 := fun o => (bcell hb5).2.1 (w.heap.size) o (by first | omega | (simp; done) | (simp; omega))
  have hz5_0 := (bcell hb5).2.2 (w.heap.size) (by first | omega | (simp; done) | (simp; omega))
  have hc5_1 := fun o => (bcell hb5).1 (w.heap.size + 1) o (by first | omega | (simp; done) | (simp; omega))
  have hf5_1 := fun o => (bcell hb5).2.1 (w.heap.size + 1) o (by first | omega | (simp; done) | (simp; omega))
  have hz5_1 := (bcell hb5).2.2 (w.heap.size + 1) (by first | omega | (simp; done) | (simp; omega))
  have hc5_2 := fun o => (bcell hb5).1 (w.heap.size + 2) o (by first | omega | (simp; done) | (simp; omega))
  have hf5_2 := fun o => (bcell hb5).2.1 (w.heap.size + 2) o (by first | omega | (simp; done) | (simp; omega))
  have hz5_2 := (bcell hb5).2.2 (w.heap.size + 2) (by first | omega | (simp; done) | (simp; omega))
  have HB5 := Lib.hid hb5
  clear hb5
  go_wp2_with fail
  refine Calls.mono (HON.out _ _ (by omega) (by omega) _ (by go_simp)) ?_
  rintro e w6 ⟨rfl, hb6⟩
  have hs6 := hb6.size
  try simp at hs6
  have hc6_0 := fun o => (bcell hb6).1 (w.heap.size) o (by first | omega | (simp; done) | (simp; omega))
  have hf6_0 := fun o => (bcell hb6).2.1 (w.heap.size) o (by first | omega | (simp; done) | (simp; omega))
  have hz6_0 := (bcell hb6).2.2 (w.heap.size) (by first | omega | (simp; done) | (simp; omega))
  have hc6_1 := fun o => (bcell hb6).1 (w.heap.size + 1) o (by first | omega | (simp; done) | (simp; omega))
  have hf6_1 := fun o => (bcell hb6).2.1 (w.heap.size + 1) o (by first | omega | (simp; done) | (simp; omega))
  have hz6_1 := (bcell hb6).2.2 (w.heap.size + 1) (by first | omega | (simp; done) | (simp; omega))
  have hc6_2 := fun o => (bcell hb6).1 (w.heap.size + 2) o (by first | omega | (simp; done) | (simp; omega))
  have hf6_2 := fun o => (bcell hb6).2.1 (w.heap.size + 2) o (by first | omega | (simp; done) | (simp; omega))
  have hz6_2 := (bcell hb6).2.2 (w.heap.size + 2) (by first | omega | (simp; done) | (simp; omega))
  have hc6_3 := fun o => (bcell hb6).1 (w5.heap.size) o (by first | omega | (simp; done) | (simp; omega))
  have hf6_3 := fun o => (bcell hb6).2.1 (w5.heap.size) o (by first | omega | (simp; done) | (simp; omega))
  have hz6_3 := (bcell hb6).2.2 (w5.heap.size) (by first | omega | (simp; done) | (simp; omega))
  have HB6 := Lib.hid hb6
  clear hb6
  go_wp2_with fail
  refine Calls.mono (HON.out _ _ (by omega) (by omega) _ (by go_simp)) ?_
  rintro e w7 ⟨rfl, hb7⟩
  have hs7 := hb7.size
  try simp at hs7
  have hc7_0 := fun o => (bcell hb7).1 (w.heap.size) o (by first | omega | (simp; done) | (simp; omega))
  have hf7_0 := fun o => (bcell hb7).2.1 (w.heap.size) o (by first | omega | (simp; done) | (simp; omega))
  have hz7_0 := (bcell hb7).2.2 (w.heap.size) (by first | omega | (simp; done) | (simp; omega))
  have hc7_1 := fun o => (bcell hb7).1 (w.heap.size + 1) o (by first | omega | (simp; done) | (simp; omega))
  have hf7_1 := fun o => (bcell hb7).2.1 (w.heap.size + 1) o (by first | omega | (simp; done) | (simp; omega))
  have hz7_1 := (bcell hb7).2.2 (w.heap.size + 1) (by first | omega | (simp; done) | (simp; omega))
  have hc7_2 := fun o => (bcell hb7).1 (w.heap.size + 2) o (by first | omega | (simp; done) | (simp; omega))
  have hf7_2 := fun o => (bcell hb7).2.1 (w.heap.size + 2) o (by first | omega | (simp; done) | (simp; omega))
  have hz7_2 := (bcell hb7).2.2 (w.heap.size + 2) (by first | omega | (simp; done) | (simp; omega))
  have hc7_3 := fun o => (bcell hb7).1 (w5.heap.size) o (by first | omega | (simp; done) | (simp; omega))
  have hf7_3 := fun o => (bcell hb7).2.1 (w5.heap.size) o (by first | omega | (simp; done) | (simp; omega))
  have hz7_3 := (bcell hb7).2.2 (w5.heap.size) (by first | omega | (simp; done) | (simp; omega))
  have HB7 := Lib.hid hb7
  clear hb7
  go_wp2_with fail
  refine bodyPost_ret (v := deV ⟨2, partOf x 12 12, true, !bitOf x 7, !bitOf x 54, bitOf x 10, bitOf x 11, 0, 0⟩) (by simp [deV, De.cells, results, Try.results60, go_sem, *]) rfl ⟨rfl, ?_⟩
  repeat' (first | (with_reducible exact Below.refl _ _) | (with_reducible (refine Below.setCell ?_ ?_ _)) | (with_reducible (refine Below.alloc ?_ ?_ _)) | (with_reducible (refine Below.drew ?_)) | (with_reducible (refine below_via ?_ HB7.out ?_)) | (with_reducible (refine below_via ?_ HB6.out ?_)) | (with_reducible (refine below_via ?_ HB5.out ?_)) | (with_reducible (refine below_via ?_ HB4.out ?_)) | (with_reducible (refine below_via ?_ HB3.out ?_)) | (with_reducible (refine below_via ?_ HB2.out ?_)) | (with_reducible (refine below_via ?_ HB1.out ?_)) | omega | (simp; done) | (simp; omega))

set_option maxRecDepth 100000 in
set_option maxHeartbeats 8000000 in
theorem guess2a2 (stage level x : Int) (hx : 0 ≤ x ∧ x ≤ 18446744073709551615) (b0 : bitOf x 0 = true) (b1 : bitOf x 1 = false) (hst : (stage == 1) = false) (w : World) :
    Calls Try.prog 60 #[.agg #[.int .i64 stage, .int .i64 level], .int .u64 x] w (GuessPost w (⟨2, partOf x 12 12, bitOf x 6, bitOf x 7, !bitOf x 54, bitOf x 10, false, partOf x 55 4, 0⟩)) := by
  have HP := Lib.hid (fun at_ n h0 h1 h2 h3 W => part_any x at_ n hx h0 h1 h2 h3 W)
  have HON := Lib.hid (fun at_ b h0 h1 W hc => on_any at_ x b hx h0 h1 W hc)
  clear hx
  go_enter Try.func60, Try.ntmps60
  go_wp2_with fail
  refine Calls.mono (HON.out _ _ (by omega) (by omega) _ (by go_simp)) ?_
  rintro e w1 ⟨rfl, hb1⟩
  have hs1 := hb1.size
  try simp at hs1
  have hc1_0 := fun o => (bcell hb1).1 (w.heap.size) o (by first | omega | (simp; done) | (simp; omega))
  have hf1_0 := fun o => (bcell hb1).2.1 (w.heap.size) o (by first | omega | (simp; done) | (simp; omega))
  have hz1_0 := (bcell hb1).2.2 (w.heap.size) (by first | omega | (simp; done) | (simp; omega))
  have hc1_1 := fun o => (bcell hb1).1 (w.heap.size + 1) o (by first | omega | (simp; done) | (simp; omega))
  have hf1_1 := fun o => (bcell hb1).2.1 (w.heap.size + 1) o (by first | omega | (simp; done) | (simp; omega))
  have hz1_1 := (bcell hb1).2.2 (w.heap.size + 1) (by first | omega | (simp; done) | (simp; omega))
  have hc1_2 := fun o => (bcell hb1).1 (w.heap.size + 2) o (by first | omega | (simp; done) | (simp; omega))
  have hf1_2 := fun o => (bcell hb1).2.1 (w.heap.size + 2) o (by first | omega | (simp; done) | (simp; omega))
  have hz1_2 := (bcell hb1).2.2 (w.heap.size + 2) (by first | omega | (simp; done) | (simp; omega))
  have HB1 := Lib.hid hb1
  clear hb1
  go_wp2_with fail
  refine Calls.mono (HON.out _ _ (by omega) (by omega) _ (by go_simp)) ?_
  rintro e w2 ⟨rfl, hb2⟩
  have hs2 := hb2.size
  try simp at hs2
  have hc2_0 := fun o => (bcell hb2).1 (w.heap.size) o (by first | omega | (simp; done) | (simp; omega))
  have hf2_0 := fun o => (bcell hb2).2.1 (w.heap.size) o (by first | omega | (simp; done) | (simp; omega))
  have hz2_0 := (bcell hb2).2.2 (w.heap.size) (by first | omega | (simp; done) | (simp; omega))
  have hc2_1 := fun o => (bcell hb2).1 (w.heap.size + 1) o (by first | omega | (simp; done) | (simp; omega))
  have hf2_1 := fun o => (bcell hb2).2.1 (w.heap.size + 1) o (by first | omega | (simp; done) | (simp; omega))
  have hz2_1 := (bcell hb2).2.2 (w.heap.size + 1) (by first | omega | (simp; done) | (simp; omega))
  have hc2_2 := fun o => (bcell hb2).1 (w.heap.size + 2) o (by first | omega | (simp; done) | (simp; omega))
  have hf2_2 := fun o => (bcell hb2).2.1 (w.heap.size + 2) o (by first | omega | (simp; done) | (simp; omega))
  have hz2_2 := (bcell hb2).2.2 (w.heap.size + 2) (by first | omega | (simp; done) | (simp; omega))
  have HB2 := Lib.hid hb2
  clear hb2
  go_wp2_with fail
  refine Calls.mono (HP.out _ _ (by omega) (by omega) (by omega) (by omega) _) ?_
  rintro e w3 ⟨rfl, hb3⟩
  have hs3 := hb3.size
  try simp at hs3
  have hc3_0 := fun o => (bcell hb3).1 (w.heap.size) o (by first | omega | (simp; done) | (simp; omega))
  have hf3_0 := fun o => (bcell hb3).2.1 (w.heap.size) o (by first | omega | (simp; done) | (simp; omega))
  have hz3_0 := (bcell hb3).2.2 (w.heap.size) (by first | omega | (simp; done) | (simp; omega))
  have hc3_1 := fun o => (bcell hb3).1 (w.heap.size + 1) o (by first | omega | (simp; done) | (simp; omega))
  have hf3_1 := fun o => (bcell hb3).2.1 (w.heap.size + 1) o (by first | omega | (simp; done) | (simp; omega))
  have hz3_1 := (bcell hb3).2.2 (w.heap.size + 1) (by first | omega | (simp; done) | (simp; omega))
  have hc3_2 := fun o => (bcell hb3).1 (w.heap.size + 2) o (by first | omega | (simp; done) | (simp; omega))
  have hf3_2 := fun o => (bcell hb3).2.1 (w.heap.size + 2) o (by first | omega | (simp; done) | (simp; omega))
  have hz3_2 := (bcell hb3).2.2 (w.heap.size + 2) (by first | omega | (simp; done) | (simp; omega))
  have HB3 := Lib.hid hb3
  clear hb3
  go_wp2_with fail
  refine Calls.mono (HON.out _ _ (by omega) (by omega) _ (by go_simp)) ?_
  rintro e w4 ⟨rfl, hb4⟩
  have hs4 := hb4.size
  try simp at hs4
  have hc4_0 := fun o => (bcell hb4).1 (w.heap.size) o (by first | omega | (simp; done) | (simp; omega))
  have hf4_0 := fun o => (bcell hb4).2.1 (w.heap.size) o (by first | omega | (simp; done) | (simp; omega))
  have hz4_0 := (bcell hb4).2.2 (w.heap.size) (by first | omega | (simp; done) | (simp; omega))
  have hc4_1 := fun o => (bcell hb4).1 (w.heap.size + 1) o (by first | omega | (simp; done) | (simp; omega))
  have hf4_1 := fun o => (bcell hb4).2.1 (w.heap.size + 1) o (by first | omega | (simp; done) | (simp; omega))
  have hz4_1 := (bcell hb4).2.2 (w.heap.size + 1) (by first | omega | (simp; done) | (simp; omega))
  have hc4_2 := fun o => (bcell hb4).1 (w.heap.size + 2) o (by first | omega | (simp; done) | (simp; omega))
  have hf4_2 := fun o => (bcell hb4).2.1 (w.heap.size + 2) o (by first | omega | (simp; done) | (simp; omega))
  have hz4_2 := (bcell hb4).2.2 (w.heap.size + 2) (by first | omega | (simp; done) | (simp; omega))
  have HB4 := Lib.hid hb4
  clear hb4
  go_wp2_with fail
  refine Calls.mono (HON.out _ _ (by omega) (by omega) _ (by go_simp)) ?_
  rintro e w5 ⟨rfl, hb5⟩
  have hs5 := hb5.size
  try simp at hs5
  have hc5_0 := fun o => (bcell hb5).1 (w.heap.size) o (by first | omega | (simp; done) | (simp; omega))
  have hf5_0 := fun o => (bcell hb5).2.1 (w.heap.size) o (by first | omega | (simp; done) | (simp; omega))
  have hz5_0 := (bcell hb5).2.2 (w.heap.size) (by first | omega | (simp; done) | (simp; omega))
  have hc5_1 := fun o => (bcell hb5).1 (w.heap.size + 1) o (by first | omega | (simp; done) | (simp; omega))
  have hf5_1 := fun o => (bcell hb5).2.1 (w.heap.size + 1) o (by first | omega | (simp; done) | (simp; omega))
  have hz5_1 := (bcell hb5).2.2 (w.heap.size + 1) (by first | omega | (simp; done) | (simp; omega))
  have hc5_2 := fun o => (bcell hb5).1 (w.heap.size + 2) o (by first | omega | (simp; done) | (simp; omega))
  have hf5_2 := fun o => (bcell hb5).2.1 (w.heap.size + 2) o (by first | omega | (simp; done) | (simp; omega))
  have hz5_2 := (bcell hb5).2.2 (w.heap.size + 2) (by first | omega | (simp; done) | (simp; omega))
  have HB5 := Lib.hid hb5
  clear hb5
  go_wp2_with fail
  have e3 : (w5.alloc (.cells #[.int .i64 2, .int .i64 (partOf x 12 12), .bool false, .bool false, .bool (!bitOf x 54), .bool (bitOf x 10), .bool false, .int .i64 0, .int .i64 0] descT)).cell? ⟨w.heap.size + 1, 0, none⟩ = some (.int .u64 x) := by go_simp
  have hl5 : w.heap.size + 2 < w5.heap.size := by omega
  refine wp_region_class_tail 8 (fun w' => Below (w5.heap.size + 1) (w5.alloc (.cells #[.int .i64 2, .int .i64 (partOf x 12 12), .bool false, .bool false, .bool (!bitOf x 54), .bool (bitOf x 10), .bool false, .int .i64 0, .int .i64 0] descT)) w') (by kernel_rfl) (by kernel_rfl) (by kernel_rfl) (Below.refl _ _).drew ?_
  repeat (first
    | (refine wpLex_pass (by rfl) passes_plain ?_; (conv => arg 9; simp only [put_lit, put_lit_none, List.set]))
    | (refine wpLex_plain (by rfl) ?_
       apply Exists.intro
       refine ⟨?_, ?_⟩
       · intro w' hb
         have hsz := hb.size
         try simp at hsz
         have hcw := fun b o (h : b < w5.heap.size + 1) => hb.cell (p := ⟨b, o, none⟩) h
         have hfw := fun b o (h : b < w5.heap.size + 1) => hb.frozen (p := ⟨b, o, none⟩) h
         go_simp
         first
           | exact ⟨rfl, hb⟩
           | exact rfl
           | ((with_reducible refine Calls.mono (HON.out _ _ (by omega) (by omega) w' ((hcw _ _ (by omega)).trans e3)) ?_); rintro e w2 ⟨rfl, hb2⟩; exact ⟨_, rfl, rfl, hb.trans (hb2.mono hsz)⟩)
           | ((with_reducible refine Calls.mono (HP.out _ _ (by omega) (by omega) (by omega) (by omega) _) ?_); rintro e w2 ⟨rfl, hb2⟩; exact ⟨_, rfl, rfl, hb.trans (hb2.mono hsz)⟩)
       conv => arg 9; simp only [put_lit, put_lit_none, List.set]))
  refine wpLex_nil ?_
  intro wq hbq
  have hsq := hbq.size
  try simp at hsq
  have hcq := fun b o (h : b < w5.heap.size + 1) => hbq.cell (p := ⟨b, o, none⟩) h
  have hfq := fun b o (h : b < w5.heap.size + 1) => hbq.frozen (p := ⟨b, o, none⟩) h
  have HBq := Lib.hid hbq
  clear hbq
  simp only [List.drop]
  have hxq := (HBq.out.block w5.heap.size (by simp)).trans (heap_new _ _)
  have cx := fun j => cell_of_row _ _ j _ _ _ hxq
  have fx := fun j => frozen_of_row _ _ j _ _ hxq
  have hlq := heap_lt hxq
  clear hxq
  go_wp2
  refine bodyPost_ret (v := deV ⟨2, partOf x 12 12, bitOf x 6, bitOf x 7, !bitOf x 54, bitOf x 10, false, partOf x 55 4, 0⟩) (by simp [deV, De.cells, results, Try.results60, go_sem, *]) rfl ⟨rfl, ?_⟩
  repeat' (first | (with_reducible exact Below.refl _ _) | (with_reducible (refine Below.setCell ?_ ?_ _)) | (with_reducible (refine Below.alloc ?_ ?_ _)) | (with_reducible (refine Below.drew ?_)) | (with_reducible (refine below_via ?_ HBq.out ?_)) | (with_reducible (refine below_via ?_ HB5.out ?_)) | (with_reducible (refine below_via ?_ HB4.out ?_)) | (with_reducible (refine below_via ?_ HB3.out ?_)) | (with_reducible (refine below_via ?_ HB2.out ?_)) | (with_reducible (refine below_via ?_ HB1.out ?_)) | omega | (simp; done) | (simp; omega))

set_option maxRecDepth 100000 in
set_option maxHeartbeats 8000000 in
theorem guess2b1 (stage level x : Int) (hx : 0 ≤ x ∧ x ≤ 18446744073709551615) (b0 : bitOf x 0 = true) (b1 : bitOf x 1 = true) (hl : (level == 3) = true) (hst : (stage == 1) = true) (w : World) :
    Calls Try.prog 60 #[.agg #[.int .i64 stage, .int .i64 level], .int .u64 x] w (GuessPost w (⟨2, partOf x 12 12, true, !bitOf x 7, !bitOf x 54, bitOf x 10, bitOf x 11, 0, 0⟩)) := by
  have HP := Lib.hid (fun at_ n h0 h1 h2 h3 W => part_any x at_ n hx h0 h1 h2 h3 W)
  have HON := Lib.hid (fun at_ b h0 h1 W hc => on_any at_ x b hx h0 h1 W hc)
  clear hx
  go_enter Try.func60, Try.ntmps60
  go_wp2_with fail
  refine Calls.mono (HON.out _ _ (by omega) (by omega) _ (by go_simp)) ?_
  rintro e w1 ⟨rfl, hb1⟩
  have hs1 := hb1.size
  try simp at hs1
  have hc1_0 := fun o => (bcell hb1).1 (w.heap.size) o (by first | omega | (simp; done) | (simp; omega))
  have hf1_0 := fun o => (bcell hb1).2.1 (w.heap.size) o (by first | omega | (simp; done) | (simp; omega))
  have hz1_0 := (bcell hb1).2.2 (w.heap.size) (by first | omega | (simp; done) | (simp; omega))
  have hc1_1 := fun o => (bcell hb1).1 (w.heap.size + 1) o (by first | omega | (simp; done) | (simp; omega))
  have hf1_1 := fun o => (bcell hb1).2.1 (w.heap.size + 1) o (by first | omega | (simp; done) | (simp; omega))
  have hz1_1 := (bcell hb1).2.2 (w.heap.size + 1) (by first | omega | (simp; done) | (simp; omega))
  have hc1_2 := fun o => (bcell hb1).1 (w.heap.size + 2) o (by first | omega | (simp; done) | (simp; omega))
  have hf1_2 := fun o => (bcell hb1).2.1 (w.heap.size + 2) o (by first | omega | (simp; done) | (simp; omega))
  have hz1_2 := (bcell hb1).2.2 (w.heap.size + 2) (by first | omega | (simp; done) | (simp; omega))
  have HB1 := Lib.hid hb1
  clear hb1
  go_wp2_with fail
  refine Calls.mono (HON.out _ _ (by omega) (by omega) _ (by go_simp)) ?_
  rintro e w2 ⟨rfl, hb2⟩
  have hs2 := hb2.size
  try simp at hs2
  have hc2_0 := fun o => (bcell hb2).1 (w.heap.size) o (by first | omega | (simp; done) | (simp; omega))
  have hf2_0 := fun o => (bcell hb2).2.1 (w.heap.size) o (by first | omega | (simp; done) | (simp; omega))
  have hz2_0 := (bcell hb2).2.2 (w.heap.size) (by first | omega | (simp; done) | (simp; omega))
  have hc2_1 := fun o => (bcell hb2).1 (w.heap.size + 1) o (by first | omega | (simp; done) | (simp; omega))
  have hf2_1 := fun o => (bcell hb2).2.1 (w.heap.size + 1) o (by first | omega | (simp; done) | (simp; omega))
  have hz2_1 := (bcell hb2).2.2 (w.heap.size + 1) (by first | omega | (simp; done) | (simp; omega))
  have hc2_2 := fun o => (bcell hb2).1 (w.heap.size + 2) o (by first | omega | (simp; done) | (simp; omega))
  have hf2_2 := fun o => (bcell hb2).2.1 (w.heap.size + 2) o (by first | omega | (simp; done) | (simp; omega))
  have hz2_2 := (bcell hb2).2.2 (w.heap.size + 2) (by first | omega | (simp; done) | (simp; omega))
  have HB2 := Lib.hid hb2
  clear hb2
  go_wp2_with fail
  refine Calls.mono (HP.out _ _ (by omega) (by omega) (by omega) (by omega) _) ?_
  rintro e w3 ⟨rfl, hb3⟩
  have hs3 := hb3.size
  try simp at hs3
  have hc3_0 := fun o => (bcell hb3).1 (w.heap.size) o (by first | omega | (simp; done) | (simp; omega))
  have hf3_0 := fun o => (bcell hb3).2.1 (w.heap.size) o (by first | omega | (simp; done) | (simp; omega))
  have hz3_0 := (bcell hb3).2.2 (w.heap.size) (by first | omega | (simp; done) | (simp; omega))
  have hc3_1 := fun o => (bcell hb3).1 (w.heap.size + 1) o (by first | omega | (simp; done) | (simp; omega))
  have hf3_1 := fun o => (bcell hb3).2.1 (w.heap.size + 1) o (by first | omega | (simp; done) | (simp; omega))
  have hz3_1 := (bcell hb3).2.2 (w.heap.size + 1) (by first | omega | (simp; done) | (simp; omega))
  have hc3_2 := fun o => (bcell hb3).1 (w.heap.size + 2) o (by first | omega | (simp; done) | (simp; omega))
  have hf3_2 := fun o => (bcell hb3).2.1 (w.heap.size + 2) o (by first | omega | (simp; done) | (simp; omega))
  have hz3_2 := (bcell hb3).2.2 (w.heap.size + 2) (by first | omega | (simp; done) | (simp; omega))
  have HB3 := Lib.hid hb3
  clear hb3
  go_wp2_with fail
  refine Calls.mono (HON.out _ _ (by omega) (by omega) _ (by go_simp)) ?_
  rintro e w4 ⟨rfl, hb4⟩
  have hs4 := hb4.size
  try simp at hs4
  have hc4_0 := fun o => (bcell hb4).1 (w.heap.size) o (by first | omega | (simp; done) | (simp; omega))
  have hf4_0 := fun o => (bcell hb4).2.1 (w.heap.size) o (by first | omega | (simp; done) | (simp; omega))
  have hz4_0 := (bcell hb4).2.2 (w.heap.size) (by first | omega | (simp; done) | (simp; omega))
  have hc4_1 := fun o => (bcell hb4).1 (w.heap.size + 1) o (by first | omega | (simp; done) | (simp; omega))
  have hf4_1 := fun o => (bcell hb4).2.1 (w.heap.size + 1) o (by first | omega | (simp; done) | (simp; omega))
  have hz4_1 := (bcell hb4).2.2 (w.heap.size + 1) (by first | omega | (simp; done) | (simp; omega))
  have hc4_2 := fun o => (bcell hb4).1 (w.heap.size + 2) o (by first | omega | (simp; done) | (simp; omega))
  have hf4_2 := fun o => (bcell hb4).2.1 (w.heap.size + 2) o (by first | omega | (simp; done) | (simp; omega))
  have hz4_2 := (bcell hb4).2.2 (w.heap.size + 2) (by first | omega | (simp; done) | (simp; omega))
  have HB4 := Lib.hid hb4
  clear hb4
  go_wp2_with fail
  refine Calls.mono (HON.out _ _ (by omega) (by omega) _ (by go_simp)) ?_
  rintro e w5 ⟨rfl, hb5⟩
  have hs5 := hb5.size
  try simp at hs5
  have hc5_0 := fun o => (bcell hb5).1 (w.heap.size) o (by first | omega | (simp; done) | (simp; omega))
  have hf5_0 := fun o => (bcell hb5).2.1 (w.heap.size) o (by first | omega | (simp; done) | (simp; omega))
  have hz5_0 := (bcell hb5).2.2 (w.heap.size) (by first | omega | (simp; done) | (simp; omega))
  have hc5_1 := fun o => (bcell hb5).1 (w.heap.size + 1) o (by first | omega | (simp; done) | (simp; omega))
  have hf5_1 := fun o => (bcell hb5).2.1 (w.heap.size + 1) o (by first | omega | (simp; done) | (simp; omega))
  have hz5_1 := (bcell hb5).2.2 (w.heap.size + 1) (by first | omega | (simp; done) | (simp; omega))
  have hc5_2 := fun o => (bcell hb5).1 (w.heap.size + 2) o (by first | omega | (simp; done) | (simp; omega))
  have hf5_2 := fun o => (bcell hb5).2.1 (w.heap.size + 2) o (by first | omega | (simp; done) | (simp; omega))
  have hz5_2 := (bcell hb5).2.2 (w.heap.size + 2) (by first | omega | (simp; done) | (simp; omega))
  have HB5 := Lib.hid hb5
  clear hb5
  go_wp2_with fail
  refine Calls.mono (HON.out _ _ (by omega) (by omega) _ (by go_simp)) ?_
  rintro e w6 ⟨rfl, hb6⟩
  have hs6 := hb6.size
  try simp at hs6
  have hc6_0 := fun o => (bcell hb6).1 (w.heap.size) o (by first | omega | (simp; done) | (simp; omega))
  have hf6_0 := fun o => (bcell hb6).2.1 (w.heap.size) o (by first | omega | (simp; done) | (simp; omega))
  have hz6_0 := (bcell hb6).2.2 (w.heap.size) (by first | omega | (simp; done) | (simp; omega))
  have hc6_1 := fun o => (bcell hb6).1 (w.heap.size + 1) o (by first | omega | (simp; done) | (simp; omega))
  have hf6_1 := fun o => (bcell hb6).2.1 (w.heap.size + 1) o (by first | omega | (simp; done) | (simp; omega))
  have hz6_1 := (bcell hb6).2.2 (w.heap.size + 1) (by first | omega | (simp; done) | (simp; omega))
  have hc6_2 := fun o => (bcell hb6).1 (w.heap.size + 2) o (by first | omega | (simp; done) | (simp; omega))
  have hf6_2 := fun o => (bcell hb6).2.1 (w.heap.size + 2) o (by first | omega | (simp; done) | (simp; omega))
  have hz6_2 := (bcell hb6).2.2 (w.heap.size + 2) (by first | omega | (simp; done) | (simp; omega))
  have hc6_3 := fun o => (bcell hb6).1 (w5.heap.size) o (by first | omega | (simp; done) | (simp; omega))
  have hf6_3 := fun o => (bcell hb6).2.1 (w5.heap.size) o (by first | omega | (simp; done) | (simp; omega))
  have hz6_3 := (bcell hb6).2.2 (w5.heap.size) (by first | omega | (simp; done) | (simp; omega))
  have HB6 := Lib.hid hb6
  clear hb6
  go_wp2_with fail
  refine Calls.mono (HON.out _ _ (by omega) (by omega) _ (by go_simp)) ?_
  rintro e w7 ⟨rfl, hb7⟩
  have hs7 := hb7.size
  try simp at hs7
  have hc7_0 := fun o => (bcell hb7).1 (w.heap.size) o (by first | omega | (simp; done) | (simp; omega))
  have hf7_0 := fun o => (bcell hb7).2.1 (w.heap.size) o (by first | omega | (simp; done) | (simp; omega))
  have hz7_0 := (bcell hb7).2.2 (w.heap.size) (by first | omega | (simp; done) | (simp; omega))
  have hc7_1 := fun o => (bcell hb7).1 (w.heap.size + 1) o (by first | omega | (simp; done) | (simp; omega))
  have hf7_1 := fun o => (bcell hb7).2.1 (w.heap.size + 1) o (by first | omega | (simp; done) | (simp; omega))
  have hz7_1 := (bcell hb7).2.2 (w.heap.size + 1) (by first | omega | (simp; done) | (simp; omega))
  have hc7_2 := fun o => (bcell hb7).1 (w.heap.size + 2) o (by first | omega | (simp; done) | (simp; omega))
  have hf7_2 := fun o => (bcell hb7).2.1 (w.heap.size + 2) o (by first | omega | (simp; done) | (simp; omega))
  have hz7_2 := (bcell hb7).2.2 (w.heap.size + 2) (by first | omega | (simp; done) | (simp; omega))
  have hc7_3 := fun o => (bcell hb7).1 (w5.heap.size) o (by first | omega | (simp; done) | (simp; omega))
  have hf7_3 := fun o => (bcell hb7).2.1 (w5.heap.size) o (by first | omega | (simp; done) | (simp; omega))
  have hz7_3 := (bcell hb7).2.2 (w5.heap.size) (by first | omega | (simp; done) | (simp; omega))
  have HB7 := Lib.hid hb7
  clear hb7
  go_wp2_with fail
  refine bodyPost_ret (v := deV ⟨2, partOf x 12 12, true, !bitOf x 7, !bitOf x 54, bitOf x 10, bitOf x 11, 0, 0⟩) (by simp [deV, De.cells, results, Try.results60, go_sem, *]) rfl ⟨rfl, ?_⟩
  repeat' (first | (with_reducible exact Below.refl _ _) | (with_reducible (refine Below.setCell ?_ ?_ _)) | (with_reducible (refine Below.alloc ?_ ?_ _)) | (with_reducible (refine Below.drew ?_)) | (with_reducible (refine below_via ?_ HB7.out ?_)) | (with_reducible (refine below_via ?_ HB6.out ?_)) | (with_reducible (refine below_via ?_ HB5.out ?_)) | (with_reducible (refine below_via ?_ HB4.out ?_)) | (with_reducible (refine below_via ?_ HB3.out ?_)) | (with_reducible (refine below_via ?_ HB2.out ?_)) | (with_reducible (refine below_via ?_ HB1.out ?_)) | omega | (simp; done) | (simp; omega))

set_option maxRecDepth 100000 in
set_option maxHeartbeats 8000000 in
theorem guess2b2 (stage level x : Int) (hx : 0 ≤ x ∧ x ≤ 18446744073709551615) (b0 : bitOf x 0 = true) (b1 : bitOf x 1 = true) (hl : (level == 3) = true) (hst : (stage == 1) = false) (w : World) :
    Calls Try.prog 60 #[.agg #[.int .i64 stage, .int .i64 level], .int .u64 x] w (GuessPost w (⟨2, partOf x 12 12, bitOf x 6, bitOf x 7, !bitOf x 54, bitOf x 10, false, partOf x 55 4, 0⟩)) := by
  have HP := Lib.hid (fun at_ n h0 h1 h2 h3 W => part_any x at_ n hx h0 h1 h2 h3 W)
  have HON := Lib.hid (fun at_ b h0 h1 W hc => on_any at_ x b hx h0 h1 W hc)
  clear hx
  go_enter Try.func60, Try.ntmps60
  go_wp2_with fail
  refine Calls.mono (HON.out _ _ (by omega) (by omega) _ (by go_simp)) ?_
  rintro e w1 ⟨rfl, hb1⟩
  have hs1 := hb1.size
  try simp at hs1
  have hc1_0 := fun o => (bcell hb1).1 (w.heap.size) o (by first | omega | (simp; done) | (simp; omega))
  have hf1_0 := fun o => (bcell hb1).2.1 (w.heap.size) o (by first | omega | (simp; done) | (simp; omega))
  have hz1_0 := (bcell hb1).2.2 (w.heap.size) (by first | omega | (simp; done) | (simp; omega))
  have hc1_1 := fun o => (bcell hb1).1 (w.heap.size + 1) o (by first | omega | (simp; done) | (simp; omega))
  have hf1_1 := fun o => (bcell hb1).2.1 (w.heap.size + 1) o (by first | omega | (simp; done) | (simp; omega))
  have hz1_1 := (bcell hb1).2.2 (w.heap.size + 1) (by first | omega | (simp; done) | (simp; omega))
  have hc1_2 := fun o => (bcell hb1).1 (w.heap.size + 2) o (by first | omega | (simp; done) | (simp; omega))
  have hf1_2 := fun o => (bcell hb1).2.1 (w.heap.size + 2) o (by first | omega | (simp; done) | (simp; omega))
  have hz1_2 := (bcell hb1).2.2 (w.heap.size + 2) (by first | omega | (simp; done) | (simp; omega))
  have HB1 := Lib.hid hb1
  clear hb1
  go_wp2_with fail
  refine Calls.mono (HON.out _ _ (by omega) (by omega) _ (by go_simp)) ?_
  rintro e w2 ⟨rfl, hb2⟩
  have hs2 := hb2.size
  try simp at hs2
  have hc2_0 := fun o => (bcell hb2).1 (w.heap.size) o (by first | omega | (simp; done) | (simp; omega))
  have hf2_0 := fun o => (bcell hb2).2.1 (w.heap.size) o (by first | omega | (simp; done) | (simp; omega))
  have hz2_0 := (bcell hb2).2.2 (w.heap.size) (by first | omega | (simp; done) | (simp; omega))
  have hc2_1 := fun o => (bcell hb2).1 (w.heap.size + 1) o (by first | omega | (simp; done) | (simp; omega))
  have hf2_1 := fun o => (bcell hb2).2.1 (w.heap.size + 1) o (by first | omega | (simp; done) | (simp; omega))
  have hz2_1 := (bcell hb2).2.2 (w.heap.size + 1) (by first | omega | (simp; done) | (simp; omega))
  have hc2_2 := fun o => (bcell hb2).1 (w.heap.size + 2) o (by first | omega | (simp; done) | (simp; omega))
  have hf2_2 := fun o => (bcell hb2).2.1 (w.heap.size + 2) o (by first | omega | (simp; done) | (simp; omega))
  have hz2_2 := (bcell hb2).2.2 (w.heap.size + 2) (by first | omega | (simp; done) | (simp; omega))
  have HB2 := Lib.hid hb2
  clear hb2
  go_wp2_with fail
  refine Calls.mono (HP.out _ _ (by omega) (by omega) (by omega) (by omega) _) ?_
  rintro e w3 ⟨rfl, hb3⟩
  have hs3 := hb3.size
  try simp at hs3
  have hc3_0 := fun o => (bcell hb3).1 (w.heap.size) o (by first | omega | (simp; done) | (simp; omega))
  have hf3_0 := fun o => (bcell hb3).2.1 (w.heap.size) o (by first | omega | (simp; done) | (simp; omega))
  have hz3_0 := (bcell hb3).2.2 (w.heap.size) (by first | omega | (simp; done) | (simp; omega))
  have hc3_1 := fun o => (bcell hb3).1 (w.heap.size + 1) o (by first | omega | (simp; done) | (simp; omega))
  have hf3_1 := fun o => (bcell hb3).2.1 (w.heap.size + 1) o (by first | omega | (simp; done) | (simp; omega))
  have hz3_1 := (bcell hb3).2.2 (w.heap.size + 1) (by first | omega | (simp; done) | (simp; omega))
  have hc3_2 := fun o => (bcell hb3).1 (w.heap.size + 2) o (by first | omega | (simp; done) | (simp; omega))
  have hf3_2 := fun o => (bcell hb3).2.1 (w.heap.size + 2) o (by first | omega | (simp; done) | (simp; omega))
  have hz3_2 := (bcell hb3).2.2 (w.heap.size + 2) (by first | omega | (simp; done) | (simp; omega))
  have HB3 := Lib.hid hb3
  clear hb3
  go_wp2_with fail
  refine Calls.mono (HON.out _ _ (by omega) (by omega) _ (by go_simp)) ?_
  rintro e w4 ⟨rfl, hb4⟩
  have hs4 := hb4.size
  try simp at hs4
  have hc4_0 := fun o => (bcell hb4).1 (w.heap.size) o (by first | omega | (simp; done) | (simp; omega))
  have hf4_0 := fun o => (bcell hb4).2.1 (w.heap.size) o (by first | omega | (simp; done) | (simp; omega))
  have hz4_0 := (bcell hb4).2.2 (w.heap.size) (by first | omega | (simp; done) | (simp; omega))
  have hc4_1 := fun o => (bcell hb4).1 (w.heap.size + 1) o (by first | omega | (simp; done) | (simp; omega))
  have hf4_1 := fun o => (bcell hb4).2.1 (w.heap.size + 1) o (by first | omega | (simp; done) | (simp; omega))
  have hz4_1 := (bcell hb4).2.2 (w.heap.size + 1) (by first | omega | (simp; done) | (simp; omega))
  have hc4_2 := fun o => (bcell hb4).1 (w.heap.size + 2) o (by first | omega | (simp; done) | (simp; omega))
  have hf4_2 := fun o => (bcell hb4).2.1 (w.heap.size + 2) o (by first | omega | (simp; done) | (simp; omega))
  have hz4_2 := (bcell hb4).2.2 (w.heap.size + 2) (by first | omega | (simp; done) | (simp; omega))
  have HB4 := Lib.hid hb4
  clear hb4
  go_wp2_with fail
  refine Calls.mono (HON.out _ _ (by omega) (by omega) _ (by go_simp)) ?_
  rintro e w5 ⟨rfl, hb5⟩
  have hs5 := hb5.size
  try simp at hs5
  have hc5_0 := fun o => (bcell hb5).1 (w.heap.size) o (by first | omega | (simp; done) | (simp; omega))
  have hf5_0 := fun o => (bcell hb5).2.1 (w.heap.size) o (by first | omega | (simp; done) | (simp; omega))
  have hz5_0 := (bcell hb5).2.2 (w.heap.size) (by first | omega | (simp; done) | (simp; omega))
  have hc5_1 := fun o => (bcell hb5).1 (w.heap.size + 1) o (by first | omega | (simp; done) | (simp; omega))
  have hf5_1 := fun o => (bcell hb5).2.1 (w.heap.size + 1) o (by first | omega | (simp; done) | (simp; omega))
  have hz5_1 := (bcell hb5).2.2 (w.heap.size + 1) (by first | omega | (simp; done) | (simp; omega))
  have hc5_2 := fun o => (bcell hb5).1 (w.heap.size + 2) o (by first | omega | (simp; done) | (simp; omega))
  have hf5_2 := fun o => (bcell hb5).2.1 (w.heap.size + 2) o (by first | omega | (simp; done) | (simp; omega))
  have hz5_2 := (bcell hb5).2.2 (w.heap.size + 2) (by first | omega | (simp; done) | (simp; omega))
  have HB5 := Lib.hid hb5
  clear hb5
  go_wp2_with fail
  have e3 : (w5.alloc (.cells #[.int .i64 2, .int .i64 (partOf x 12 12), .bool false, .bool false, .bool (!bitOf x 54), .bool (bitOf x 10), .bool false, .int .i64 0, .int .i64 0] descT)).cell? ⟨w.heap.size + 1, 0, none⟩ = some (.int .u64 x) := by go_simp
  have hl5 : w.heap.size + 2 < w5.heap.size := by omega
  refine wp_region_class_tail 8 (fun w' => Below (w5.heap.size + 1) (w5.alloc (.cells #[.int .i64 2, .int .i64 (partOf x 12 12), .bool false, .bool false, .bool (!bitOf x 54), .bool (bitOf x 10), .bool false, .int .i64 0, .int .i64 0] descT)) w') (by kernel_rfl) (by kernel_rfl) (by kernel_rfl) (Below.refl _ _).drew ?_
  repeat (first
    | (refine wpLex_pass (by rfl) passes_plain ?_; (conv => arg 9; simp only [put_lit, put_lit_none, List.set]))
    | (refine wpLex_plain (by rfl) ?_
       apply Exists.intro
       refine ⟨?_, ?_⟩
       · intro w' hb
         have hsz := hb.size
         try simp at hsz
         have hcw := fun b o (h : b < w5.heap.size + 1) => hb.cell (p := ⟨b, o, none⟩) h
         have hfw := fun b o (h : b < w5.heap.size + 1) => hb.frozen (p := ⟨b, o, none⟩) h
         go_simp
         first
           | exact ⟨rfl, hb⟩
           | exact rfl
           | ((with_reducible refine Calls.mono (HON.out _ _ (by omega) (by omega) w' ((hcw _ _ (by omega)).trans e3)) ?_); rintro e w2 ⟨rfl, hb2⟩; exact ⟨_, rfl, rfl, hb.trans (hb2.mono hsz)⟩)
           | ((with_reducible refine Calls.mono (HP.out _ _ (by omega) (by omega) (by omega) (by omega) _) ?_); rintro e w2 ⟨rfl, hb2⟩; exact ⟨_, rfl, rfl, hb.trans (hb2.mono hsz)⟩)
       conv => arg 9; simp only [put_lit, put_lit_none, List.set]))
  refine wpLex_nil ?_
  intro wq hbq
  have hsq := hbq.size
  try simp at hsq
  have hcq := fun b o (h : b < w5.heap.size + 1) => hbq.cell (p := ⟨b, o, none⟩) h
  have hfq := fun b o (h : b < w5.heap.size + 1) => hbq.frozen (p := ⟨b, o, none⟩) h
  have HBq := Lib.hid hbq
  clear hbq
  simp only [List.drop]
  have hxq := (HBq.out.block w5.heap.size (by simp)).trans (heap_new _ _)
  have cx := fun j => cell_of_row _ _ j _ _ _ hxq
  have fx := fun j => frozen_of_row _ _ j _ _ hxq
  have hlq := heap_lt hxq
  clear hxq
  go_wp2
  refine bodyPost_ret (v := deV ⟨2, partOf x 12 12, bitOf x 6, bitOf x 7, !bitOf x 54, bitOf x 10, false, partOf x 55 4, 0⟩) (by simp [deV, De.cells, results, Try.results60, go_sem, *]) rfl ⟨rfl, ?_⟩
  repeat' (first | (with_reducible exact Below.refl _ _) | (with_reducible (refine Below.setCell ?_ ?_ _)) | (with_reducible (refine Below.alloc ?_ ?_ _)) | (with_reducible (refine Below.drew ?_)) | (with_reducible (refine below_via ?_ HBq.out ?_)) | (with_reducible (refine below_via ?_ HB5.out ?_)) | (with_reducible (refine below_via ?_ HB4.out ?_)) | (with_reducible (refine below_via ?_ HB3.out ?_)) | (with_reducible (refine below_via ?_ HB2.out ?_)) | (with_reducible (refine below_via ?_ HB1.out ?_)) | omega | (simp; done) | (simp; omega))

theorem guess_any (stage level x : Int) (hx : 0 ≤ x ∧ x ≤ 18446744073709551615) (hl3 : level ≤ 3) (w : World) :
    Calls Try.prog 60 #[.agg #[.int .i64 stage, .int .i64 level], .int .u64 x] w (GuessPost w (guessDe stage level x)) := by
  unfold guessDe
  cases b0 : bitOf x 0
  · exact guess0 stage level x hx b0 w
  · cases b1 : bitOf x 1
    · unfold guessLeaf
      cases hst : (stage == 1)
      · exact guess2a2 stage level x hx b0 b1 hst w
      · exact guess2a1 stage level x hx b0 b1 hst w
    · cases hl : (level == 3)
      · have h3 : decide (level < 3) = true := by simp at hl ⊢; omega
        rw [h3]
        exact guess1 stage level x hx b0 b1 hl w
      · have h3 : decide (level < 3) = false := by simp at hl ⊢; omega
        rw [h3]
        unfold guessLeaf
        cases hst : (stage == 1)
        · exact guess2b2 stage level x hx b0 b1 hl hst w
        · exact guess2b1 stage level x hx b0 b1 hl hst w

end Go.Proofs.Ytddbndmbcdeggaa
