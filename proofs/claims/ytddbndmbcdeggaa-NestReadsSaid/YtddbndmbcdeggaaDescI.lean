/-
  Which descriptor a word is: the program's answer. Conditions: it is a word.
-/
import Derived.Test.YtddbndmbcdeggaaDescH
namespace Go.Proofs.Ytddbndmbcdeggaa
open Go.RowKit

def ofDe (stage level x : Int) : De := if mayDe stage level (guessDe stage level x) && wordDe stage level (guessDe stage level x) == x then guessDe stage level x else noDe
/-- What comes of 'Of'. -/
def OfPost (w : World) (d : De) (n : Int) (e : Ending) (w' : World) : Prop := e = .returned (.tuple #[deV d, .int .i64 n]) ∧ Below w.heap.size w w'

set_option maxRecDepth 100000 in
set_option maxHeartbeats 4000000 in
theorem of_no (stage level x : Int) (hp : placeOk stage level = false) (w : World) :
    Calls Try.prog 40 #[.int .i64 stage, .int .i64 level, .int .u64 x] w (OfPost w noDe 1) := by
  have HT := Lib.hid (fun W => there_any stage level W)
  rw [hp] at HT
  clear hp
  go_enter Try.func40, Try.ntmps40
  go_wp2_with fail
  refine Calls.mono (HT.out _) ?_
  rintro e w1 ⟨rfl, hb1⟩
  have hs1 := hb1.size
  try simp at hs1
  have hc1_0 := fun o => (bcell hb1).1 (w.heap.size) o (by first | omega | (simp; done) | (simp; omega))
  have hf1_0 := fun o => (bcell hb1).2.1 (w.heap.size) o (by first | omega | (simp; done) | (simp; omega))
  have hz1_0 := (bcell hb1).2.2 (w.heap.size) (by first | omega | (simp; done) | (simp; omega))
  have hc1_1 := fun o => (bcell hb1).1 (w.heap.size + 1) o (by first | omega | (simp; done) | (simp; omega))
  have hf1_1 := fun o => (bcell hb1).2.1 (w.heap.size + 1) o (by first | omega | (simp; done) | (simp; omega))
  have hz1_1 := (bcell hb1).2.2 (w.heap.size + 1) (by first | omega | (simp; done) | (simp; omega))
  have HB1 := Lib.hid hb1
  clear hb1
  go_wp2
  refine bodyPost_ret (v := .tuple #[deV noDe, .int .i64 1]) (by simp [deV, noDe, De.cells, results, Try.results40, go_sem, *]) rfl ⟨rfl, ?_⟩
  repeat' (first | (with_reducible exact Below.refl _ _) | (with_reducible (refine Below.setCell ?_ ?_ _)) | (with_reducible (refine Below.alloc ?_ ?_ _)) | (with_reducible (refine Below.drew ?_)) | (with_reducible (refine below_via ?_ HB1.out ?_)) | omega | (simp; done) | (simp; omega))

set_option maxRecDepth 100000 in
set_option maxHeartbeats 4000000 in
theorem of_yes (stage level x : Int) (hx : 0 ≤ x ∧ x ≤ 18446744073709551615) (hp : placeOk stage level = true) (w : World) :
    Calls Try.prog 40 #[.int .i64 stage, .int .i64 level, .int .u64 x] w (OfPost w (ofDe stage level x) 0) := by
  have HT := Lib.hid (fun W => there_any stage level W)
  have HG := Lib.hid (fun W => guess_any stage level x hx (placeOk_level hp).2 W)
  have HW := Lib.hid (fun W => word_any stage level (guessDe stage level x) W)
  unfold ofDe
  unfold checkDe at HW
  rw [hp] at HT HW
  rw [Bool.true_and] at HW
  generalize guessDe stage level x = d at *
  obtain ⟨kind, frame, r, dw, dx, af, ng, soft, note⟩ := d
  generalize wordDe stage level _ = y at *
  clear hp hx
  unfold GuessPost deV at HG
  dsimp only [De.cells] at *
  generalize mayDe stage level _ = m at *
  cases m
  · rw [Bool.false_and, if_neg (by decide)]
    go_enter Try.func40, Try.ntmps40
    go_wp2_with fail
    refine Calls.mono (HT.out _) ?_
    rintro e w1 ⟨rfl, hb1⟩
    have hs1 := hb1.size
    try simp at hs1
    have hc1_0 := fun o => (bcell hb1).1 (w.heap.size) o (by first | omega | (simp; done) | (simp; omega))
    have hf1_0 := fun o => (bcell hb1).2.1 (w.heap.size) o (by first | omega | (simp; done) | (simp; omega))
    have hz1_0 := (bcell hb1).2.2 (w.heap.size) (by first | omega | (simp; done) | (simp; omega))
    have hc1_1 := fun o => (bcell hb1).1 (w.heap.size + 1) o (by first | omega | (simp; done) | (simp; omega))
    have hf1_1 := fun o => (bcell hb1).2.1 (w.heap.size + 1) o (by first | omega | (simp; done) | (simp; omega))
    have hz1_1 := (bcell hb1).2.2 (w.heap.size + 1) (by first | omega | (simp; done) | (simp; omega))
    have HB1 := Lib.hid hb1
    clear hb1
    go_wp2_with fail
    refine Calls.mono (HG.out _) ?_
    rintro e w2 ⟨rfl, hb2⟩
    have hs2 := hb2.size
    try simp at hs2
    have hc2_0 := fun o => (bcell hb2).1 (w.heap.size) o (by first | omega | (simp; done) | (simp; omega))
    have hf2_0 := fun o => (bcell hb2).2.1 (w.heap.size) o (by first | omega | (simp; done) | (simp; omega))
    have hz2_0 := (bcell hb2).2.2 (w.heap.size) (by first | omega | (simp; done) | (simp; omega))
    have hc2_1 := fun o => (bcell hb2).1 (w.heap.size + 1) o (by first | omega | (simp; done) | (simp; omega))
    have hf2_1 := fun o => (bcell hb2).2.1 (w.heap.size + 1) o (by first | omega | (simp; done) | (simp; omega))
    have hz2_1 := (bcell hb2).2.2 (w.heap.size + 1) (by first | omega | (simp; done) | (simp; omega))
    have HB2 := Lib.hid hb2
    clear hb2
    go_wp2_with fail
    refine Calls.mono (HW.out _) ?_
    rintro e w3 ⟨rfl, hb3⟩
    have hs3 := hb3.size
    try simp at hs3
    have hc3_0 := fun o => (bcell hb3).1 (w.heap.size) o (by first | omega | (simp; done) | (simp; omega))
    have hf3_0 := fun o => (bcell hb3).2.1 (w.heap.size) o (by first | omega | (simp; done) | (simp; omega))
    have hz3_0 := (bcell hb3).2.2 (w.heap.size) (by first | omega | (simp; done) | (simp; omega))
    have hc3_1 := fun o => (bcell hb3).1 (w.heap.size + 1) o (by first | omega | (simp; done) | (simp; omega))
    have hf3_1 := fun o => (bcell hb3).2.1 (w.heap.size + 1) o (by first | omega | (simp; done) | (simp; omega))
    have hz3_1 := (bcell hb3).2.2 (w.heap.size + 1) (by first | omega | (simp; done) | (simp; omega))
    have hc3_2 := fun o => (bcell hb3).1 (w2.heap.size) o (by first | omega | (simp; done) | (simp; omega))
    have hf3_2 := fun o => (bcell hb3).2.1 (w2.heap.size) o (by first | omega | (simp; done) | (simp; omega))
    have hz3_2 := (bcell hb3).2.2 (w2.heap.size) (by first | omega | (simp; done) | (simp; omega))
    have HB3 := Lib.hid hb3
    clear hb3
    go_wp2
    refine bodyPost_ret (v := .tuple #[deV noDe, .int .i64 0]) (by simp [deV, noDe, De.cells, results, Try.results40, go_sem, *]) rfl ⟨rfl, ?_⟩
    repeat' (first | (with_reducible exact Below.refl _ _) | (with_reducible (refine Below.setCell ?_ ?_ _)) | (with_reducible (refine Below.alloc ?_ ?_ _)) | (with_reducible (refine Below.drew ?_)) | (with_reducible (refine below_via ?_ HB3.out ?_)) | (with_reducible (refine below_via ?_ HB2.out ?_)) | (with_reducible (refine below_via ?_ HB1.out ?_)) | omega | (simp; done) | (simp; omega))
  · cases he : (y == x)
    · rw [Bool.true_and, if_neg (by decide)]
      have he2 : (y != x) = true := by unfold bne; rw [he]; rfl
      clear he
      go_enter Try.func40, Try.ntmps40
      go_wp2_with fail
      refine Calls.mono (HT.out _) ?_
      rintro e w1 ⟨rfl, hb1⟩
      have hs1 := hb1.size
      try simp at hs1
      have hc1_0 := fun o => (bcell hb1).1 (w.heap.size) o (by first | omega | (simp; done) | (simp; omega))
      have hf1_0 := fun o => (bcell hb1).2.1 (w.heap.size) o (by first | omega | (simp; done) | (simp; omega))
      have hz1_0 := (bcell hb1).2.2 (w.heap.size) (by first | omega | (simp; done) | (simp; omega))
      have hc1_1 := fun o => (bcell hb1).1 (w.heap.size + 1) o (by first | omega | (simp; done) | (simp; omega))
      have hf1_1 := fun o => (bcell hb1).2.1 (w.heap.size + 1) o (by first | omega | (simp; done) | (simp; omega))
      have hz1_1 := (bcell hb1).2.2 (w.heap.size + 1) (by first | omega | (simp; done) | (simp; omega))
      have HB1 := Lib.hid hb1
      clear hb1
      go_wp2_with fail
      refine Calls.mono (HG.out _) ?_
      rintro e w2 ⟨rfl, hb2⟩
      have hs2 := hb2.size
      try simp at hs2
      have hc2_0 := fun o => (bcell hb2).1 (w.heap.size) o (by first | omega | (simp; done) | (simp; omega))
      have hf2_0 := fun o => (bcell hb2).2.1 (w.heap.size) o (by first | omega | (simp; done) | (simp; omega))
      have hz2_0 := (bcell hb2).2.2 (w.heap.size) (by first | omega | (simp; done) | (simp; omega))
      have hc2_1 := fun o => (bcell hb2).1 (w.heap.size + 1) o (by first | omega | (simp; done) | (simp; omega))
      have hf2_1 := fun o => (bcell hb2).2.1 (w.heap.size + 1) o (by first | omega | (simp; done) | (simp; omega))
      have hz2_1 := (bcell hb2).2.2 (w.heap.size + 1) (by first | omega | (simp; done) | (simp; omega))
      have HB2 := Lib.hid hb2
      clear hb2
      go_wp2_with fail
      refine Calls.mono (HW.out _) ?_
      rintro e w3 ⟨rfl, hb3⟩
      have hs3 := hb3.size
      try simp at hs3
      have hc3_0 := fun o => (bcell hb3).1 (w.heap.size) o (by first | omega | (simp; done) | (simp; omega))
      have hf3_0 := fun o => (bcell hb3).2.1 (w.heap.size) o (by first | omega | (simp; done) | (simp; omega))
      have hz3_0 := (bcell hb3).2.2 (w.heap.size) (by first | omega | (simp; done) | (simp; omega))
      have hc3_1 := fun o => (bcell hb3).1 (w.heap.size + 1) o (by first | omega | (simp; done) | (simp; omega))
      have hf3_1 := fun o => (bcell hb3).2.1 (w.heap.size + 1) o (by first | omega | (simp; done) | (simp; omega))
      have hz3_1 := (bcell hb3).2.2 (w.heap.size + 1) (by first | omega | (simp; done) | (simp; omega))
      have hc3_2 := fun o => (bcell hb3).1 (w2.heap.size) o (by first | omega | (simp; done) | (simp; omega))
      have hf3_2 := fun o => (bcell hb3).2.1 (w2.heap.size) o (by first | omega | (simp; done) | (simp; omega))
      have hz3_2 := (bcell hb3).2.2 (w2.heap.size) (by first | omega | (simp; done) | (simp; omega))
      have HB3 := Lib.hid hb3
      clear hb3
      go_wp2
      refine bodyPost_ret (v := .tuple #[deV noDe, .int .i64 0]) (by simp [deV, noDe, De.cells, results, Try.results40, go_sem, *]) rfl ⟨rfl, ?_⟩
      repeat' (first | (with_reducible exact Below.refl _ _) | (with_reducible (refine Below.setCell ?_ ?_ _)) | (with_reducible (refine Below.alloc ?_ ?_ _)) | (with_reducible (refine Below.drew ?_)) | (with_reducible (refine below_via ?_ HB3.out ?_)) | (with_reducible (refine below_via ?_ HB2.out ?_)) | (with_reducible (refine below_via ?_ HB1.out ?_)) | omega | (simp; done) | (simp; omega))
    · rw [Bool.true_and, if_pos rfl]
      have he2 : (y != x) = false := by unfold bne; rw [he]; rfl
      clear he
      go_enter Try.func40, Try.ntmps40
      go_wp2_with fail
      refine Calls.mono (HT.out _) ?_
      rintro e w1 ⟨rfl, hb1⟩
      have hs1 := hb1.size
      try simp at hs1
      have hc1_0 := fun o => (bcell hb1).1 (w.heap.size) o (by first | omega | (simp; done) | (simp; omega))
      have hf1_0 := fun o => (bcell hb1).2.1 (w.heap.size) o (by first | omega | (simp; done) | (simp; omega))
      have hz1_0 := (bcell hb1).2.2 (w.heap.size) (by first | omega | (simp; done) | (simp; omega))
      have hc1_1 := fun o => (bcell hb1).1 (w.heap.size + 1) o (by first | omega | (simp; done) | (simp; omega))
      have hf1_1 := fun o => (bcell hb1).2.1 (w.heap.size + 1) o (by first | omega | (simp; done) | (simp; omega))
      have hz1_1 := (bcell hb1).2.2 (w.heap.size + 1) (by first | omega | (simp; done) | (simp; omega))
      have HB1 := Lib.hid hb1
      clear hb1
      go_wp2_with fail
      refine Calls.mono (HG.out _) ?_
      rintro e w2 ⟨rfl, hb2⟩
      have hs2 := hb2.size
      try simp at hs2
      have hc2_0 := fun o => (bcell hb2).1 (w.heap.size) o (by first | omega | (simp; done) | (simp; omega))
      have hf2_0 := fun o => (bcell hb2).2.1 (w.heap.size) o (by first | omega | (simp; done) | (simp; omega))
      have hz2_0 := (bcell hb2).2.2 (w.heap.size) (by first | omega | (simp; done) | (simp; omega))
      have hc2_1 := fun o => (bcell hb2).1 (w.heap.size + 1) o (by first | omega | (simp; done) | (simp; omega))
      have hf2_1 := fun o => (bcell hb2).2.1 (w.heap.size + 1) o (by first | omega | (simp; done) | (simp; omega))
      have hz2_1 := (bcell hb2).2.2 (w.heap.size + 1) (by first | omega | (simp; done) | (simp; omega))
      have HB2 := Lib.hid hb2
      clear hb2
      go_wp2_with fail
      refine Calls.mono (HW.out _) ?_
      rintro e w3 ⟨rfl, hb3⟩
      have hs3 := hb3.size
      try simp at hs3
      have hc3_0 := fun o => (bcell hb3).1 (w.heap.size) o (by first | omega | (simp; done) | (simp; omega))
      have hf3_0 := fun o => (bcell hb3).2.1 (w.heap.size) o (by first | omega | (simp; done) | (simp; omega))
      have hz3_0 := (bcell hb3).2.2 (w.heap.size) (by first | omega | (simp; done) | (simp; omega))
      have hc3_1 := fun o => (bcell hb3).1 (w.heap.size + 1) o (by first | omega | (simp; done) | (simp; omega))
      have hf3_1 := fun o => (bcell hb3).2.1 (w.heap.size + 1) o (by first | omega | (simp; done) | (simp; omega))
      have hz3_1 := (bcell hb3).2.2 (w.heap.size + 1) (by first | omega | (simp; done) | (simp; omega))
      have hc3_2 := fun o => (bcell hb3).1 (w2.heap.size) o (by first | omega | (simp; done) | (simp; omega))
      have hf3_2 := fun o => (bcell hb3).2.1 (w2.heap.size) o (by first | omega | (simp; done) | (simp; omega))
      have hz3_2 := (bcell hb3).2.2 (w2.heap.size) (by first | omega | (simp; done) | (simp; omega))
      have HB3 := Lib.hid hb3
      clear hb3
      go_wp2
      refine bodyPost_ret (v := .tuple #[deV ⟨kind, frame, r, dw, dx, af, ng, soft, note⟩, .int .i64 0]) (by simp [deV, De.cells, results, Try.results40, go_sem, *]) rfl ⟨rfl, ?_⟩
      repeat' (first | (with_reducible exact Below.refl _ _) | (with_reducible (refine Below.setCell ?_ ?_ _)) | (with_reducible (refine Below.alloc ?_ ?_ _)) | (with_reducible (refine Below.drew ?_)) | (with_reducible (refine below_via ?_ HB3.out ?_)) | (with_reducible (refine below_via ?_ HB2.out ?_)) | (with_reducible (refine below_via ?_ HB1.out ?_)) | omega | (simp; done) | (simp; omega))

end Go.Proofs.Ytddbndmbcdeggaa
