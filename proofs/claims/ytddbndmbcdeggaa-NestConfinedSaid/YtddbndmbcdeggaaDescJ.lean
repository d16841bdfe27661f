/-
  Which descriptor a word is: the page's answer. Conditions: it is a word, the place is there.
-/
import Derived.Test.YtddbndmbcdeggaaDescI
namespace Go.Proofs.Ytddbndmbcdeggaa
open Go.RowKit

def pickDe (b : Bool) (d : De) : De := if b then d else noDe
/-- What comes of the page's 'Of'. -/
def RofPost (w : World) (d : De) (e : Ending) (w' : World) : Prop := e = .returned (deV d) ∧ Below w.heap.size w w'

set_option maxRecDepth 100000 in
set_option maxHeartbeats 8000000 in
theorem rof0 (stage level x : Int) (hx : 0 ≤ x ∧ x ≤ 18446744073709551615) (h0 : 0 ≤ level) (h1 : level ≤ 3) (hs : stage = 1 ∨ stage = 2) (b0 : bitOf x 0 = false) (w : World) :
    Calls Try.prog 41 #[.int .i64 stage, .int .i64 level, .int .u64 x] w (RofPost w (pickDe (mayDe stage level ⟨0, 0, false, false, false, false, false, 0, partOf x 4 4⟩ && wordDe stage level ⟨0, 0, false, false, false, false, false, 0, partOf x 4 4⟩ == x) ⟨0, 0, false, false, false, false, false, 0, partOf x 4 4⟩)) := by
  have HS := Lib.hid (fun at_ h2 h3 W => set_any x at_ hx h2 h3 W)
  have HG := Lib.hid (fun at_ n h0 h1 h2 h3 W => rget_any x at_ n hx h0 h1 h2 h3 W)
  have HR := Lib.hid (fun W => rul_any stage level ⟨0, 0, false, false, false, false, false, 0, partOf x 4 4⟩ h0 h1 hs W)
  have HW := Lib.hid (fun h W => rword_any stage level ⟨0, 0, false, false, false, false, false, 0, partOf x 4 4⟩ h W)
  have p4 := i64_part x 4 4 (by decide)
  have p12 := i64_part x 12 12 (by decide)
  have p55 := i64_part x 55 4 (by decide)
  dsimp only [De.cells] at *
  generalize mayDe stage level _ = m at *
  generalize wordDe stage level _ = y at *
  clear hx hs
  go_enter Try.func41, Try.ntmps41
  go_wp2_with fail
  refine Calls.mono (HS.out _ (by omega) (by omega) _) ?_
  rintro e w90 ⟨rfl, rfl⟩
  go_wp2_with fail
  refine Calls.mono (HG.out _ _ (by omega) (by omega) (by omega) (by omega) _) ?_
  rintro e w2 ⟨rfl, hb2⟩
  have hs2 := hb2.size
  try simp at hs2
  have hc2_0 := fun o => (bcell hb2).1 (w.heap.size) o (by first | omega | (simp; done) | (simp; omega))
  have hf2_0 := fun o => (bcell hb2).2.1 (w.heap.size) o (by first | omega | (simp; done) | (simp; omega))
  have hz2_0 := (bcell hb2).2.2 (w.heap.size) (by first | omega | (simp; done) | (simp; omega))
  have hc2_1 := fun o => (bcell hb2).1 (w.heap.size + 1) o (by first | omega | (simp; done) | (simp; omega))
  have hf2_1 := fun o => (bcell hb2).2.1 (w.heap.size + 1) o (by first | omega | (simp; done) | (simp; omega))
  have hz2_1 := (bcell hb2).2.2 (w.heap.size + 1) (by first | omega | (simp; done) | (simp; omega))
  have HB2 := Lib.hid hb2
  clear hb2
  go_wp2_with fail
  refine Calls.mono (HR.out _) ?_
  rintro e w21 ⟨rfl, hb21⟩
  have hs21 := hb21.size
  try simp at hs21
  have hc21_0 := fun o => (bcell hb21).1 (w.heap.size) o (by first | omega | (simp; done) | (simp; omega))
  have hf21_0 := fun o => (bcell hb21).2.1 (w.heap.size) o (by first | omega | (simp; done) | (simp; omega))
  have hz21_0 := (bcell hb21).2.2 (w.heap.size) (by first | omega | (simp; done) | (simp; omega))
  have hc21_1 := fun o => (bcell hb21).1 (w.heap.size + 1) o (by first | omega | (simp; done) | (simp; omega))
  have hf21_1 := fun o => (bcell hb21).2.1 (w.heap.size + 1) o (by first | omega | (simp; done) | (simp; omega))
  have hz21_1 := (bcell hb21).2.2 (w.heap.size + 1) (by first | omega | (simp; done) | (simp; omega))
  have HB21 := Lib.hid hb21
  clear hb21
  cases m
  · go_wp2_with fail
    refine bodyPost_ret (v := deV noDe) (by simp [deV, noDe, De.cells, results, Try.results41, go_sem, *]) rfl ⟨by first | rfl | (rw [HE.out]; rfl) | (simp [pickDe, *]; done), ?_⟩
    repeat' (first | (with_reducible exact Below.refl _ _) | (with_reducible (refine Below.setCell ?_ ?_ _)) | (with_reducible (refine Below.alloc ?_ ?_ _)) | (with_reducible (refine Below.drew ?_)) | (with_reducible (refine below_via ?_ HB21.out ?_)) | (with_reducible (refine below_via ?_ HB2.out ?_)) | omega | (simp; done) | (simp; omega))
  · go_wp2_with fail
    refine Calls.mono (HW.out trivial _) ?_
    rintro e w22 ⟨rfl, hb22⟩
    have hs22 := hb22.size
    try simp at hs22
    have hc22_0 := fun o => (bcell hb22).1 (w.heap.size) o (by first | omega | (simp; done) | (simp; omega))
    have hf22_0 := fun o => (bcell hb22).2.1 (w.heap.size) o (by first | omega | (simp; done) | (simp; omega))
    have hz22_0 := (bcell hb22).2.2 (w.heap.size) (by first | omega | (simp; done) | (simp; omega))
    have hc22_1 := fun o => (bcell hb22).1 (w.heap.size + 1) o (by first | omega | (simp; done) | (simp; omega))
    have hf22_1 := fun o => (bcell hb22).2.1 (w.heap.size + 1) o (by first | omega | (simp; done) | (simp; omega))
    have hz22_1 := (bcell hb22).2.2 (w.heap.size + 1) (by first | omega | (simp; done) | (simp; omega))
    have HB22 := Lib.hid hb22
    clear hb22
    cases he : (y == x)
    · have he2 : (y != x) = true := by unfold bne; rw [he]; rfl
      have HE := Lib.hid he
      clear he
      go_wp2_with fail
      refine bodyPost_ret (v := deV noDe) (by simp [deV, noDe, De.cells, results, Try.results41, go_sem, *]) rfl ⟨by first | rfl | (rw [HE.out]; rfl) | (simp [pickDe, *]; done), ?_⟩
      repeat' (first | (with_reducible exact Below.refl _ _) | (with_reducible (refine Below.setCell ?_ ?_ _)) | (with_reducible (refine Below.alloc ?_ ?_ _)) | (with_reducible (refine Below.drew ?_)) | (with_reducible (refine below_via ?_ HB22.out ?_)) | (with_reducible (refine below_via ?_ HB21.out ?_)) | (with_reducible (refine below_via ?_ HB2.out ?_)) | omega | (simp; done) | (simp; omega))
    · have he2 : (y != x) = false := by unfold bne; rw [he]; rfl
      go_wp2_with fail
      refine bodyPost_ret (v := deV ⟨0, 0, false, false, false, false, false, 0, partOf x 4 4⟩) (by simp [deV, De.cells, results, Try.results41, go_sem, *]) rfl ⟨by first | rfl | (rw [HE.out]; rfl) | (simp [pickDe, *]; done), ?_⟩
      repeat' (first | (with_reducible exact Below.refl _ _) | (with_reducible (refine Below.setCell ?_ ?_ _)) | (with_reducible (refine Below.alloc ?_ ?_ _)) | (with_reducible (refine Below.drew ?_)) | (with_reducible (refine below_via ?_ HB22.out ?_)) | (with_reducible (refine below_via ?_ HB21.out ?_)) | (with_reducible (refine below_via ?_ HB2.out ?_)) | omega | (simp; done) | (simp; omega))

set_option maxRecDepth 100000 in
set_option maxHeartbeats 8000000 in
theorem rof1 (stage level x : Int) (hx : 0 ≤ x ∧ x ≤ 18446744073709551615) (h0 : 0 ≤ level) (h1 : level ≤ 3) (hs : stage = 1 ∨ stage = 2) (b0 : bitOf x 0 = true) (b1 : bitOf x 1 = true) (hl : decide (level < 3) = true) (w : World) :
    Calls Try.prog 41 #[.int .i64 stage, .int .i64 level, .int .u64 x] w (RofPost w (pickDe (mayDe stage level ⟨1, partOf x 12 12, false, false, false, false, false, 0, 0⟩ && wordDe stage level ⟨1, partOf x 12 12, false, false, false, false, false, 0, 0⟩ == x) ⟨1, partOf x 12 12, false, false, false, false, false, 0, 0⟩)) := by
  have HS := Lib.hid (fun at_ h2 h3 W => set_any x at_ hx h2 h3 W)
  have HG := Lib.hid (fun at_ n h0 h1 h2 h3 W => rget_any x at_ n hx h0 h1 h2 h3 W)
  have HR := Lib.hid (fun W => rul_any stage level ⟨1, partOf x 12 12, false, false, false, false, false, 0, 0⟩ h0 h1 hs W)
  have HW := Lib.hid (fun h W => rword_any stage level ⟨1, partOf x 12 12, false, false, false, false, false, 0, 0⟩ h W)
  have p4 := i64_part x 4 4 (by decide)
  have p12 := i64_part x 12 12 (by decide)
  have p55 := i64_part x 55 4 (by decide)
  dsimp only [De.cells] at *
  generalize mayDe stage level _ = m at *
  generalize wordDe stage level _ = y at *
  clear hx hs
  go_enter Try.func41, Try.ntmps41
  go_wp2_with fail
  refine Calls.mono (HS.out _ (by omega) (by omega) _) ?_
  rintro e w90 ⟨rfl, rfl⟩
  go_wp2_with fail
  refine Calls.mono (HS.out _ (by omega) (by omega) _) ?_
  rintro e w91 ⟨rfl, rfl⟩
  go_wp2_with fail
  refine Calls.mono (HG.out _ _ (by omega) (by omega) (by omega) (by omega) _) ?_
  rintro e w3 ⟨rfl, hb3⟩
  have hs3 := hb3.size
  try simp at hs3
  have hc3_0 := fun o => (bcell hb3).1 (w.heap.size) o (by first | omega | (simp; done) | (simp; omega))
  have hf3_0 := fun o => (bcell hb3).2.1 (w.heap.size) o (by first | omega | (simp; done) | (simp; omega))
  have hz3_0 := (bcell hb3).2.2 (w.heap.size) (by first | omega | (simp; done) | (simp; omega))
  have hc3_1 := fun o => (bcell hb3).1 (w.heap.size + 1) o (by first | omega | (simp; done) | (simp; omega))
  have hf3_1 := fun o => (bcell hb3).2.1 (w.heap.size + 1) o (by first | omega | (simp; done) | (simp; omega))
  have hz3_1 := (bcell hb3).2.2 (w.heap.size + 1) (by first | omega | (simp; done) | (simp; omega))
  have HB3 := Lib.hid hb3
  clear hb3
  go_wp2_with fail
  refine Calls.mono (HR.out _) ?_
  rintro e w21 ⟨rfl, hb21⟩
  have hs21 := hb21.size
  try simp at hs21
  have hc21_0 := fun o => (bcell hb21).1 (w.heap.size) o (by first | omega | (simp; done) | (simp; omega))
  have hf21_0 := fun o => (bcell hb21).2.1 (w.heap.size) o (by first | omega | (simp; done) | (simp; omega))
  have hz21_0 := (bcell hb21).2.2 (w.heap.size) (by first | omega | (simp; done) | (simp; omega))
  have hc21_1 := fun o => (bcell hb21).1 (w.heap.size + 1) o (by first | omega | (simp; done) | (simp; omega))
  have hf21_1 := fun o => (bcell hb21).2.1 (w.heap.size + 1) o (by first | omega | (simp; done) | (simp; omega))
  have hz21_1 := (bcell hb21).2.2 (w.heap.size + 1) (by first | omega | (simp; done) | (simp; omega))
  have HB21 := Lib.hid hb21
  clear hb21
  cases m
  · go_wp2_with fail
    refine bodyPost_ret (v := deV noDe) (by simp [deV, noDe, De.cells, results, Try.results41, go_sem, *]) rfl ⟨by first | rfl | (rw [HE.out]; rfl) | (simp [pickDe, *]; done), ?_⟩
    repeat' (first | (with_reducible exact Below.refl _ _) | (with_reducible (refine Below.setCell ?_ ?_ _)) | (with_reducible (refine Below.alloc ?_ ?_ _)) | (with_reducible (refine Below.drew ?_)) | (with_reducible (refine below_via ?_ HB21.out ?_)) | (with_reducible (refine below_via ?_ HB3.out ?_)) | omega | (simp; done) | (simp; omega))
  · go_wp2_with fail
    refine Calls.mono (HW.out trivial _) ?_
    rintro e w22 ⟨rfl, hb22⟩
    have hs22 := hb22.size
    try simp at hs22
    have hc22_0 := fun o => (bcell hb22).1 (w.heap.size) o (by first | omega | (simp; done) | (simp; omega))
    have hf22_0 := fun o => (bcell hb22).2.1 (w.heap.size) o (by first | omega | (simp; done) | (simp; omega))
    have hz22_0 := (bcell hb22).2.2 (w.heap.size) (by first | omega | (simp; done) | (simp; omega))
    have hc22_1 := fun o => (bcell hb22).1 (w.heap.size + 1) o (by first | omega | (simp; done) | (simp; omega))
    have hf22_1 := fun o => (bcell hb22).2.1 (w.heap.size + 1) o (by first | omega | (simp; done) | (simp; omega))
    have hz22_1 := (bcell hb22).2.2 (w.heap.size + 1) (by first | omega | (simp; done) | (simp; omega))
    have HB22 := Lib.hid hb22
    clear hb22
    cases he : (y == x)
    · have he2 : (y != x) = true := by unfold bne; rw [he]; rfl
      have HE := Lib.hid he
      clear he
      go_wp2_with fail
      refine bodyPost_ret (v := deV noDe) (by simp [deV, noDe, De.cells, results, Try.results41, go_sem, *]) rfl ⟨by first | rfl | (rw [HE.out]; rfl) | (simp [pickDe, *]; done), ?_⟩
      repeat' (first | (with_reducible exact Below.refl _ _) | (with_reducible (refine Below.setCell ?_ ?_ _)) | (with_reducible (refine Below.alloc ?_ ?_ _)) | (with_reducible (refine Below.drew ?_)) | (with_reducible (refine below_via ?_ HB22.out ?_)) | (with_reducible (refine below_via ?_ HB21.out ?_)) | (with_reducible (refine below_via ?_ HB3.out ?_)) | omega | (simp; done) | (simp; omega))
    · have he2 : (y != x) = false := by unfold bne; rw [he]; rfl
      go_wp2_with fail
      refine bodyPost_ret (v := deV ⟨1, partOf x 12 12, false, false, false, false, false, 0, 0⟩) (by simp [deV, De.cells, results, Try.results41, go_sem, *]) rfl ⟨by first | rfl | (rw [HE.out]; rfl) | (simp [pickDe, *]; done), ?_⟩
      repeat' (first | (with_reducible exact Below.refl _ _) | (with_reducible (refine Below.setCell ?_ ?_ _)) | (with_reducible (refine Below.alloc ?_ ?_ _)) | (with_reducible (refine Below.drew ?_)) | (with_reducible (refine below_via ?_ HB22.out ?_)) | (with_reducible (refine below_via ?_ HB21.out ?_)) | (with_reducible (refine below_via ?_ HB3.out ?_)) | omega | (simp; done) | (simp; omega))

set_option maxRecDepth 100000 in
set_option maxHeartbeats 8000000 in
theorem rof2a1 (stage level x : Int) (hx : 0 ≤ x ∧ x ≤ 18446744073709551615) (h0 : 0 ≤ level) (h1 : level ≤ 3) (hs : stage = 1 ∨ stage = 2) (b0 : bitOf x 0 = true) (b1 : bitOf x 1 = false) (hst : (stage == 1) = true) (w : World) :
    Calls Try.prog 41 #[.int .i64 stage, .int .i64 level, .int .u64 x] w (RofPost w (pickDe (mayDe stage level ⟨2, partOf x 12 12, true, !bitOf x 7, !bitOf x 54, bitOf x 10, bitOf x 11, 0, 0⟩ && wordDe stage level ⟨2, partOf x 12 12, true, !bitOf x 7, !bitOf x 54, bitOf x 10, bitOf x 11, 0, 0⟩ == x) ⟨2, partOf x 12 12, true, !bitOf x 7, !bitOf x 54, bitOf x 10, bitOf x 11, 0, 0⟩)) := by
  have HS := Lib.hid (fun at_ h2 h3 W => set_any x at_ hx h2 h3 W)
  have HG := Lib.hid (fun at_ n h0 h1 h2 h3 W => rget_any x at_ n hx h0 h1 h2 h3 W)
  have HR := Lib.hid (fun W => rul_any stage level ⟨2, partOf x 12 12, true, !bitOf x 7, !bitOf x 54, bitOf x 10, bitOf x 11, 0, 0⟩ h0 h1 hs W)
  have HW := Lib.hid (fun h W => rword_any stage level ⟨2, partOf x 12 12, true, !bitOf x 7, !bitOf x 54, bitOf x 10, bitOf x 11, 0, 0⟩ h W)
  have p4 := i64_part x 4 4 (by decide)
  have p12 := i64_part x 12 12 (by decide)
  have p55 := i64_part x 55 4 (by decide)
  dsimp only [De.cells] at *
  generalize mayDe stage level _ = m at *
  generalize wordDe stage level _ = y at *
  clear hx hs
  go_enter Try.func41, Try.ntmps41
  go_wp2_with fail
  refine Calls.mono (HS.out _ (by omega) (by omega) _) ?_
  rintro e w90 ⟨rfl, rfl⟩
  go_wp2_with fail
  refine Calls.mono (HS.out _ (by omega) (by omega) _) ?_
  rintro e w91 ⟨rfl, rfl⟩
  go_wp2_with fail
  refine Calls.mono (HG.out _ _ (by omega) (by omega) (by omega) (by omega) _) ?_
  rintro e w3 ⟨rfl, hb3⟩
  have hs3 := hb3.size
  try simp at hs3
  have hc3_0 := fun o => (bcell hb3).1 (w.heap.size) o (by first | omega | (simp; done) | (simp; omega))
  have hf3_0 := fun o => (bcell hb3).2.1 (w.heap.size) o (by first | omega | (simp; done) | (simp; omega))
  have hz3_0 := (bcell hb3).2.2 (w.heap.size) (by first | omega | (simp; done) | (simp; omega))
  have hc3_1 := fun o => (bcell hb3).1 (w.heap.size + 1) o (by first | omega | (simp; done) | (simp; omega))
  have hf3_1 := fun o => (bcell hb3).2.1 (w.heap.size + 1) o (by first | omega | (simp; done) | (simp; omega))
  have hz3_1 := (bcell hb3).2.2 (w.heap.size + 1) (by first | omega | (simp; done) | (simp; omega))
  have HB3 := Lib.hid hb3
  clear hb3
  go_wp2_with fail
  refine Calls.mono (HS.out _ (by omega) (by omega) _) ?_
  rintro e w93 ⟨rfl, rfl⟩
  go_wp2_with fail
  refine Calls.mono (HS.out _ (by omega) (by omega) _) ?_
  rintro e w94 ⟨rfl, rfl⟩
  go_wp2_with fail
  refine Calls.mono (HS.out _ (by omega) (by omega) _) ?_
  rintro e w95 ⟨rfl, rfl⟩
  go_wp2_with fail
  refine Calls.mono (HS.out _ (by omega) (by omega) _) ?_
  rintro e w96 ⟨rfl, rfl⟩
  go_wp2_with fail
  refine Calls.mono (HR.out _) ?_
  rintro e w21 ⟨rfl, hb21⟩
  have hs21 := hb21.size
  try simp at hs21
  have hc21_0 := fun o => (bcell hb21).1 (w.heap.size) o (by first | omega | (simp; done) | (simp; omega))
  have hf21_0 := fun o => (bcell hb21).2.1 (w.heap.size) o (by first | omega | (simp; done) | (simp; omega))
  have hz21_0 := (bcell hb21).2.2 (w.heap.size) (by first | omega | (simp; done) | (simp; omega))
  have hc21_1 := fun o => (bcell hb21).1 (w.heap.size + 1) o (by first | omega | (simp; done) | (simp; omega))
  have hf21_1 := fun o => (bcell hb21).2.1 (w.heap.size + 1) o (by first | omega | (simp; done) | (simp; omega))
  have hz21_1 := (bcell hb21).2.2 (w.heap.size + 1) (by first | omega | (simp; done) | (simp; omega))
  have HB21 := Lib.hid hb21
  clear hb21
  cases m
  · go_wp2_with fail
    refine bodyPost_ret (v := deV noDe) (by simp [deV, noDe, De.cells, results, Try.results41, go_sem, *]) rfl ⟨by first | rfl | (rw [HE.out]; rfl) | (simp [pickDe, *]; done), ?_⟩
    repeat' (first | (with_reducible exact Below.refl _ _) | (with_reducible (refine Below.setCell ?_ ?_ _)) | (with_reducible (refine Below.alloc ?_ ?_ _)) | (with_reducible (refine Below.drew ?_)) | (with_reducible (refine below_via ?_ HB21.out ?_)) | (with_reducible (refine below_via ?_ HB3.out ?_)) | omega | (simp; done) | (simp; omega))
  · go_wp2_with fail
    refine Calls.mono (HW.out trivial _) ?_
    rintro e w22 ⟨rfl, hb22⟩
    have hs22 := hb22.size
    try simp at hs22
    have hc22_0 := fun o => (bcell hb22).1 (w.heap.size) o (by first | omega | (simp; done) | (simp; omega))
    have hf22_0 := fun o => (bcell hb22).2.1 (w.heap.size) o (by first | omega | (simp; done) | (simp; omega))
    have hz22_0 := (bcell hb22).2.2 (w.heap.size) (by first | omega | (simp; done) | (simp; omega))
    have hc22_1 := fun o => (bcell hb22).1 (w.heap.size + 1) o (by first | omega | (simp; done) | (simp; omega))
    have hf22_1 := fun o => (bcell hb22).2.1 (w.heap.size + 1) o (by first | omega | (simp; done) | (simp; omega))
    have hz22_1 := (bcell hb22).2.2 (w.heap.size + 1) (by first | omega | (simp; done) | (simp; omega))
    have HB22 := Lib.hid hb22
    clear hb22
    cases he : (y == x)
    · have he2 : (y != x) = true := by unfold bne; rw [he]; rfl
      have HE := Lib.hid he
      clear he
      go_wp2_with fail
      refine bodyPost_ret (v := deV noDe) (by simp [deV, noDe, De.cells, results, Try.results41, go_sem, *]) rfl ⟨by first | rfl | (rw [HE.out]; rfl) | (simp [pickDe, *]; done), ?_⟩
      repeat' (first | (with_reducible exact Below.refl _ _) | (with_reducible (refine Below.setCell ?_ ?_ _)) | (with_reducible (refine Below.alloc ?_ ?_ _)) | (with_reducible (refine Below.drew ?_)) | (with_reducible (refine below_via ?_ HB22.out ?_)) | (with_reducible (refine below_via ?_ HB21.out ?_)) | (with_reducible (refine below_via ?_ HB3.out ?_)) | omega | (simp; done) | (simp; omega))
    · have he2 : (y != x) = false := by unfold bne; rw [he]; rfl
      go_wp2_with fail
      refine bodyPost_ret (v := deV ⟨2, partOf x 12 12, true, !bitOf x 7, !bitOf x 54, bitOf x 10, bitOf x 11, 0, 0⟩) (by simp [deV, De.cells, results, Try.results41, go_sem, *]) rfl ⟨by first | rfl | (rw [HE.out]; rfl) | (simp [pickDe, *]; done), ?_⟩
      repeat' (first | (with_reducible exact Below.refl _ _) | (with_reducible (refine Below.setCell ?_ ?_ _)) | (with_reducible (refine Below.alloc ?_ ?_ _)) | (with_reducible (refine Below.drew ?_)) | (with_reducible (refine below_via ?_ HB22.out ?_)) | (with_reducible (refine below_via ?_ HB21.out ?_)) | (with_reducible (refine below_via ?_ HB3.out ?_)) | omega | (simp; done) | (simp; omega))

set_option maxRecDepth 100000 in
set_option maxHeartbeats 8000000 in
theorem rof2a2 (stage level x : Int) (hx : 0 ≤ x ∧ x ≤ 18446744073709551615) (h0 : 0 ≤ level) (h1 : level ≤ 3) (hs : stage = 1 ∨ stage = 2) (b0 : bitOf x 0 = true) (b1 : bitOf x 1 = false) (hst : (stage == 1) = false) (w : World) :
    Calls Try.prog 41 #[.int .i64 stage, .int .i64 level, .int .u64 x] w (RofPost w (pickDe (mayDe stage level ⟨2, partOf x 12 12, bitOf x 6, bitOf x 7, !bitOf x 54, bitOf x 10, false, partOf x 55 4, 0⟩ && wordDe stage level ⟨2, partOf x 12 12, bitOf x 6, bitOf x 7, !bitOf x 54, bitOf x 10, false, partOf x 55 4, 0⟩ == x) ⟨2, partOf x 12 12, bitOf x 6, bitOf x 7, !bitOf x 54, bitOf x 10, false, partOf x 55 4, 0⟩)) := by
  have HS := Lib.hid (fun at_ h2 h3 W => set_any x at_ hx h2 h3 W)
  have HG := Lib.hid (fun at_ n h0 h1 h2 h3 W => rget_any x at_ n hx h0 h1 h2 h3 W)
  have HR := Lib.hid (fun W => rul_any stage level ⟨2, partOf x 12 12, bitOf x 6, bitOf x 7, !bitOf x 54, bitOf x 10, false, partOf x 55 4, 0⟩ h0 h1 hs W)
  have HW := Lib.hid (fun h W => rword_any stage level ⟨2, partOf x 12 12, bitOf x 6, bitOf x 7, !bitOf x 54, bitOf x 10, false, partOf x 55 4, 0⟩ h W)
  have p4 := i64_part x 4 4 (by decide)
  have p12 := i64_part x 12 12 (by decide)
  have p55 := i64_part x 55 4 (by decide)
  dsimp only [De.cells] at *
  generalize mayDe stage level _ = m at *
  generalize wordDe stage level _ = y at *
  clear hx hs
  go_enter Try.func41, Try.ntmps41
  go_wp2_with fail
  refine Calls.mono (HS.out _ (by omega) (by omega) _) ?_
  rintro e w90 ⟨rfl, rfl⟩
  go_wp2_with fail
  refine Calls.mono (HS.out _ (by omega) (by omega) _) ?_
  rintro e w91 ⟨rfl, rfl⟩
  go_wp2_with fail
  refine Calls.mono (HG.out _ _ (by omega) (by omega) (by omega) (by omega) _) ?_
  rintro e w3 ⟨rfl, hb3⟩
  have hs3 := hb3.size
  try simp at hs3
  have hc3_0 := fun o => (bcell hb3).1 (w.heap.size) o (by first | omega | (simp; done) | (simp; omega))
  have hf3_0 := fun o => (bcell hb3).2.1 (w.heap.size) o (by first | omega | (simp; done) | (simp; omega))
  have hz3_0 := (bcell hb3).2.2 (w.heap.size) (by first | omega | (simp; done) | (simp; omega))
  have hc3_1 := fun o => (bcell hb3).1 (w.heap.size + 1) o (by first | omega | (simp; done) | (simp; omega))
  have hf3_1 := fun o => (bcell hb3).2.1 (w.heap.size + 1) o (by first | omega | (simp; done) | (simp; omega))
  have hz3_1 := (bcell hb3).2.2 (w.heap.size + 1) (by first | omega | (simp; done) | (simp; omega))
  have HB3 := Lib.hid hb3
  clear hb3
  go_wp2_with fail
  refine Calls.mono (HS.out _ (by omega) (by omega) _) ?_
  rintro e w93 ⟨rfl, rfl⟩
  go_wp2_with fail
  refine Calls.mono (HS.out _ (by omega) (by omega) _) ?_
  rintro e w94 ⟨rfl, rfl⟩
  go_wp2_with fail
  refine Calls.mono (HS.out _ (by omega) (by omega) _) ?_
  rintro e w95 ⟨rfl, rfl⟩
  go_wp2_with fail
  refine Calls.mono (HS.out _ (by omega) (by omega) _) ?_
  rintro e w96 ⟨rfl, rfl⟩
  go_wp2_with fail
  refine Calls.mono (HG.out _ _ (by omega) (by omega) (by omega) (by omega) _) ?_
  rintro e w8 ⟨rfl, hb8⟩
  have hs8 := hb8.size
  try simp at hs8
  have hc8_0 := fun o => (bcell hb8).1 (w.heap.size) o (by first | omega | (simp; done) | (simp; omega))
  have hf8_0 := fun o => (bcell hb8).2.1 (w.heap.size) o (by first | omega | (simp; done) | (simp; omega))
  have hz8_0 := (bcell hb8).2.2 (w.heap.size) (by first | omega | (simp; done) | (simp; omega))
  have hc8_1 := fun o => (bcell hb8).1 (w.heap.size + 1) o (by first | omega | (simp; done) | (simp; omega))
  have hf8_1 := fun o => (bcell hb8).2.1 (w.heap.size + 1) o (by first | omega | (simp; done) | (simp; omega))
  have hz8_1 := (bcell hb8).2.2 (w.heap.size + 1) (by first | omega | (simp; done) | (simp; omega))
  have HB8 := Lib.hid hb8
  clear hb8
  go_wp2_with fail
  refine Calls.mono (HR.out _) ?_
  rintro e w21 ⟨rfl, hb21⟩
  have hs21 := hb21.size
  try simp at hs21
  have hc21_0 := fun o => (bcell hb21).1 (w.heap.size) o (by first | omega | (simp; done) | (simp; omega))
  have hf21_0 := fun o => (bcell hb21).2.1 (w.heap.size) o (by first | omega | (simp; done) | (simp; omega))
  have hz21_0 := (bcell hb21).2.2 (w.heap.size) (by first | omega | (simp; done) | (simp; omega))
  have hc21_1 := fun o => (bcell hb21).1 (w.heap.size + 1) o (by first | omega | (simp; done) | (simp; omega))
  have hf21_1 := fun o => (bcell hb21).2.1 (w.heap.size + 1) o (by first | omega | (simp; done) | (simp; omega))
  have hz21_1 := (bcell hb21).2.2 (w.heap.size + 1) (by first | omega | (simp; done) | (simp; omega))
  have HB21 := Lib.hid hb21
  clear hb21
  cases m
  · go_wp2_with fail
    refine bodyPost_ret (v := deV noDe) (by simp [deV, noDe, De.cells, results, Try.results41, go_sem, *]) rfl ⟨by first | rfl | (rw [HE.out]; rfl) | (simp [pickDe, *]; done), ?_⟩
    repeat' (first | (with_reducible exact Below.refl _ _) | (with_reducible (refine Below.setCell ?_ ?_ _)) | (with_reducible (refine Below.alloc ?_ ?_ _)) | (with_reducible (refine Below.drew ?_)) | (with_reducible (refine below_via ?_ HB21.out ?_)) | (with_reducible (refine below_via ?_ HB8.out ?_)) | (with_reducible (refine below_via ?_ HB3.out ?_)) | omega | (simp; done) | (simp; omega))
  · go_wp2_with fail
    refine Calls.mono (HW.out trivial _) ?_
    rintro e w22 ⟨rfl, hb22⟩
    have hs22 := hb22.size
    try simp at hs22
    have hc22_0 := fun o => (bcell hb22).1 (w.heap.size) o (by first | omega | (simp; done) | (simp; omega))
    have hf22_0 := fun o => (bcell hb22).2.1 (w.heap.size) o (by first | omega | (simp; done) | (simp; omega))
    have hz22_0 := (bcell hb22).2.2 (w.heap.size) (by first | omega | (simp; done) | (simp; omega))
    have hc22_1 := fun o => (bcell hb22).1 (w.heap.size + 1) o (by first | omega | (simp; done) | (simp; omega))
    have hf22_1 := fun o => (bcell hb22).2.1 (w.heap.size + 1) o (by first | omega | (simp; done) | (simp; omega))
    have hz22_1 := (bcell hb22).2.2 (w.heap.size + 1) (by first | omega | (simp; done) | (simp; omega))
    have HB22 := Lib.hid hb22
    clear hb22
    cases he : (y == x)
    · have he2 : (y != x) = true := by unfold bne; rw [he]; rfl
      have HE := Lib.hid he
      clear he
      go_wp2_with fail
      refine bodyPost_ret (v := deV noDe) (by simp [deV, noDe, De.cells, results, Try.results41, go_sem, *]) rfl ⟨by first | rfl | (rw [HE.out]; rfl) | (simp [pickDe, *]; done), ?_⟩
      repeat' (first | (with_reducible exact Below.refl _ _) | (with_reducible (refine Below.setCell ?_ ?_ _)) | (with_reducible (refine Below.alloc ?_ ?_ _)) | (with_reducible (refine Below.drew ?_)) | (with_reducible (refine below_via ?_ HB22.out ?_)) | (with_reducible (refine below_via ?_ HB21.out ?_)) | (with_reducible (refine below_via ?_ HB8.out ?_)) | (with_reducible (refine below_via ?_ HB3.out ?_)) | omega | (simp; done) | (simp; omega))
    · have he2 : (y != x) = false := by unfold bne; rw [he]; rfl
      go_wp2_with fail
      refine bodyPost_ret (v := deV ⟨2, partOf x 12 12, bitOf x 6, bitOf x 7, !bitOf x 54, bitOf x 10, false, partOf x 55 4, 0⟩) (by simp [deV, De.cells, results, Try.results41, go_sem, *]) rfl ⟨by first | rfl | (rw [HE.out]; rfl) | (simp [pickDe, *]; done), ?_⟩
      repeat' (first | (with_reducible exact Below.refl _ _) | (with_reducible (refine Below.setCell ?_ ?_ _)) | (with_reducible (refine Below.alloc ?_ ?_ _)) | (with_reducible (refine Below.drew ?_)) | (with_reducible (refine below_via ?_ HB22.out ?_)) | (with_reducible (refine below_via ?_ HB21.out ?_)) | (with_reducible (refine below_via ?_ HB8.out ?_)) | (with_reducible (refine below_via ?_ HB3.out ?_)) | omega | (simp; done) | (simp; omega))

set_option maxRecDepth 100000 in
set_option maxHeartbeats 8000000 in
theorem rof2b1 (stage level x : Int) (hx : 0 ≤ x ∧ x ≤ 18446744073709551615) (h0 : 0 ≤ level) (h1 : level ≤ 3) (hs : stage = 1 ∨ stage = 2) (b0 : bitOf x 0 = true) (b1 : bitOf x 1 = true) (hl : decide (level < 3) = false) (hst : (stage == 1) = true) (w : World) :
    Calls Try.prog 41 #[.int .i64 stage, .int .i64 level, .int .u64 x] w (RofPost w (pickDe (mayDe stage level ⟨2, partOf x 12 12, true, !bitOf x 7, !bitOf x 54, bitOf x 10, bitOf x 11, 0, 0⟩ && wordDe stage level ⟨2, partOf x 12 12, true, !bitOf x 7, !bitOf x 54, bitOf x 10, bitOf x 11, 0, 0⟩ == x) ⟨2, partOf x 12 12, true, !bitOf x 7, !bitOf x 54, bitOf x 10, bitOf x 11, 0, 0⟩)) := by
  have HS := Lib.hid (fun at_ h2 h3 W => set_any x at_ hx h2 h3 W)
  have HG := Lib.hid (fun at_ n h0 h1 h2 h3 W => rget_any x at_ n hx h0 h1 h2 h3 W)
  have HR := Lib.hid (fun W => rul_any stage level ⟨2, partOf x 12 12, true, !bitOf x 7, !bitOf x 54, bitOf x 10, bitOf x 11, 0, 0⟩ h0 h1 hs W)
  have HW := Lib.hid (fun h W => rword_any stage level ⟨2, partOf x 12 12, true, !bitOf x 7, !bitOf x 54, bitOf x 10, bitOf x 11, 0, 0⟩ h W)
  have p4 := i64_part x 4 4 (by decide)
  have p12 := i64_part x 12 12 (by decide)
  have p55 := i64_part x 55 4 (by decide)
  dsimp only [De.cells] at *
  generalize mayDe stage level _ = m at *
  generalize wordDe stage level _ = y at *
  clear hx hs
  go_enter Try.func41, Try.ntmps41
  go_wp2_with fail
  refine Calls.mono (HS.out _ (by omega) (by omega) _) ?_
  rintro e w90 ⟨rfl, rfl⟩
  go_wp2_with fail
  refine Calls.mono (HS.out _ (by omega) (by omega) _) ?_
  rintro e w91 ⟨rfl, rfl⟩
  go_wp2_with fail
  refine Calls.mono (HG.out _ _ (by omega) (by omega) (by omega) (by omega) _) ?_
  rintro e w3 ⟨rfl, hb3⟩
  have hs3 := hb3.size
  try simp at hs3
  have hc3_0 := fun o => (bcell hb3).1 (w.heap.size) o (by first | omega | (simp; done) | (simp; omega))
  have hf3_0 := fun o => (bcell hb3).2.1 (w.heap.size) o (by first | omega | (simp; done) | (simp; omega))
  have hz3_0 := (bcell hb3).2.2 (w.heap.size) (by first | omega | (simp; done) | (simp; omega))
  have hc3_1 := fun o => (bcell hb3).1 (w.heap.size + 1) o (by first | omega | (simp; done) | (simp; omega))
  have hf3_1 := fun o => (bcell hb3).2.1 (w.heap.size + 1) o (by first | omega | (simp; done) | (simp; omega))
  have hz3_1 := (bcell hb3).2.2 (w.heap.size + 1) (by first | omega | (simp; done) | (simp; omega))
  have HB3 := Lib.hid hb3
  clear hb3
  go_wp2_with fail
  refine Calls.mono (HS.out _ (by omega) (by omega) _) ?_
  rintro e w93 ⟨rfl, rfl⟩
  go_wp2_with fail
  refine Calls.mono (HS.out _ (by omega) (by omega) _) ?_
  rintro e w94 ⟨rfl, rfl⟩
  go_wp2_with fail
  refine Calls.mono (HS.out _ (by omega) (by omega) _) ?_
  rintro e w95 ⟨rfl, rfl⟩
  go_wp2_with fail
  refine Calls.mono (HS.out _ (by omega) (by omega) _) ?_
  rintro e w96 ⟨rfl, rfl⟩
  go_wp2_with fail
  refine Calls.mono (HR.out _) ?_
  rintro e w21 ⟨rfl, hb21⟩
  have hs21 := hb21.size
  try simp at hs21
  have hc21_0 := fun o => (bcell hb21).1 (w.heap.size) o (by first | omega | (simp; done) | (simp; omega))
  have hf21_0 := fun o => (bcell hb21).2.1 (w.heap.size) o (by first | omega | (simp; done) | (simp; omega))
  have hz21_0 := (bcell hb21).2.2 (w.heap.size) (by first | omega | (simp; done) | (simp; omega))
  have hc21_1 := fun o => (bcell hb21).1 (w.heap.size + 1) o (by first | omega | (simp; done) | (simp; omega))
  have hf21_1 := fun o => (bcell hb21).2.1 (w.heap.size + 1) o (by first | omega | (simp; done) | (simp; omega))
  have hz21_1 := (bcell hb21).2.2 (w.heap.size + 1) (by first | omega | (simp; done) | (simp; omega))
  have HB21 := Lib.hid hb21
  clear hb21
  cases m
  · go_wp2_with fail
    refine bodyPost_ret (v := deV noDe) (by simp [deV, noDe, De.cells, results, Try.results41, go_sem, *]) rfl ⟨by first | rfl | (rw [HE.out]; rfl) | (simp [pickDe, *]; done), ?_⟩
    repeat' (first | (with_reducible exact Below.refl _ _) | (with_reducible (refine Below.setCell ?_ ?_ _)) | (with_reducible (refine Below.alloc ?_ ?_ _)) | (with_reducible (refine Below.drew ?_)) | (with_reducible (refine below_via ?_ HB21.out ?_)) | (with_reducible (refine below_via ?_ HB3.out ?_)) | omega | (simp; done) | (simp; omega))
  · go_wp2_with fail
    refine Calls.mono (HW.out trivial _) ?_
    rintro e w22 ⟨rfl, hb22⟩
    have hs22 := hb22.size
    try simp at hs22
    have hc22_0 := fun o => (bcell hb22).1 (w.heap.size) o (by first | omega | (simp; done) | (simp; omega))
    have hf22_0 := fun o => (bcell hb22).2.1 (w.heap.size) o (by first | omega | (simp; done) | (simp; omega))
    have hz22_0 := (bcell hb22).2.2 (w.heap.size) (by first | omega | (simp; done) | (simp; omega))
    have hc22_1 := fun o => (bcell hb22).1 (w.heap.size + 1) o (by first | omega | (simp; done) | (simp; omega))
    have hf22_1 := fun o => (bcell hb22).2.1 (w.heap.size + 1) o (by first | omega | (simp; done) | (simp; omega))
    have hz22_1 := (bcell hb22).2.2 (w.heap.size + 1) (by first | omega | (simp; done) | (simp; omega))
    have HB22 := Lib.hid hb22
    clear hb22
    cases he : (y == x)
    · have he2 : (y != x) = true := by unfold bne; rw [he]; rfl
      have HE := Lib.hid he
      clear he
      go_wp2_with fail
      refine bodyPost_ret (v := deV noDe) (by simp [deV, noDe, De.cells, results, Try.results41, go_sem, *]) rfl ⟨by first | rfl | (rw [HE.out]; rfl) | (simp [pickDe, *]; done), ?_⟩
      repeat' (first | (with_reducible exact Below.refl _ _) | (with_reducible (refine Below.setCell ?_ ?_ _)) | (with_reducible (refine Below.alloc ?_ ?_ _)) | (with_reducible (refine Below.drew ?_)) | (with_reducible (refine below_via ?_ HB22.out ?_)) | (with_reducible (refine below_via ?_ HB21.out ?_)) | (with_reducible (refine below_via ?_ HB3.out ?_)) | omega | (simp; done) | (simp; omega))
    · have he2 : (y != x) = false := by unfold bne; rw [he]; rfl
      go_wp2_with fail
      refine bodyPost_ret (v := deV ⟨2, partOf x 12 12, true, !bitOf x 7, !bitOf x 54, bitOf x 10, bitOf x 11, 0, 0⟩) (by simp [deV, De.cells, results, Try.results41, go_sem, *]) rfl ⟨by first | rfl | (rw [HE.out]; rfl) | (simp [pickDe, *]; done), ?_⟩
      repeat' (first | (with_reducible exact Below.refl _ _) | (with_reducible (refine Below.setCell ?_ ?_ _)) | (with_reducible (refine Below.alloc ?_ ?_ _)) | (with_reducible (refine Below.drew ?_)) | (with_reducible (refine below_via ?_ HB22.out ?_)) | (with_reducible (refine below_via ?_ HB21.out ?_)) | (with_reducible (refine below_via ?_ HB3.out ?_)) | omega | (simp; done) | (simp; omega))

set_option maxRecDepth 100000 in
set_option maxHeartbeats 8000000 in
theorem rof2b2 (stage level x : Int) (hx : 0 ≤ x ∧ x ≤ 18446744073709551615) (h0 : 0 ≤ level) (h1 : level ≤ 3) (hs : stage = 1 ∨ stage = 2) (b0 : bitOf x 0 = true) (b1 : bitOf x 1 = true) (hl : decide (level < 3) = false) (hst : (stage == 1) = false) (w : World) :
    Calls Try.prog 41 #[.int .i64 stage, .int .i64 level, .int .u64 x] w (RofPost w (pickDe (mayDe stage level ⟨2, partOf x 12 12, bitOf x 6, bitOf x 7, !bitOf x 54, bitOf x 10, false, partOf x 55 4, 0⟩ && wordDe stage level ⟨2, partOf x 12 12, bitOf x 6, bitOf x 7, !bitOf x 54, bitOf x 10, false, partOf x 55 4, 0⟩ == x) ⟨2, partOf x 12 12, bitOf x 6, bitOf x 7, !bitOf x 54, bitOf x 10, false, partOf x 55 4, 0⟩)) := by
  have HS := Lib.hid (fun at_ h2 h3 W => set_any x at_ hx h2 h3 W)
  have HG := Lib.hid (fun at_ n h0 h1 h2 h3 W => rget_any x at_ n hx h0 h1 h2 h3 W)
  have HR := Lib.hid (fun W => rul_any stage level ⟨2, partOf x 12 12, bitOf x 6, bitOf x 7, !bitOf x 54, bitOf x 10, false, partOf x 55 4, 0⟩ h0 h1 hs W)
  have HW := Lib.hid (fun h W => rword_any stage level ⟨2, partOf x 12 12, bitOf x 6, bitOf x 7, !bitOf x 54, bitOf x 10, false, partOf x 55 4, 0⟩ h W)
  have p4 := i64_part x 4 4 (by decide)
  have p12 := i64_part x 12 12 (by decide)
  have p55 := i64_part x 55 4 (by decide)
  dsimp only [De.cells] at *
  generalize mayDe stage level _ = m at *
  generalize wordDe stage level _ = y at *
  clear hx hs
  go_enter Try.func41, Try.ntmps41
  go_wp2_with fail
  refine Calls.mono (HS.out _ (by omega) (by omega) _) ?_
  rintro e w90 ⟨rfl, rfl⟩
  go_wp2_with fail
  refine Calls.mono (HS.out _ (by omega) (by omega) _) ?_
  rintro e w91 ⟨rfl, rfl⟩
  go_wp2_with fail
  refine Calls.mono (HG.out _ _ (by omega) (by omega) (by omega) (by omega) _) ?_
  rintro e w3 ⟨rfl, hb3⟩
  have hs3 := hb3.size
  try simp at hs3
  have hc3_0 := fun o => (bcell hb3).1 (w.heap.size) o (by first | omega | (simp; done) | (simp; omega))
  have hf3_0 := fun o => (bcell hb3).2.1 (w.heap.size) o (by first | omega | (simp; done) | (simp; omega))
  have hz3_0 := (bcell hb3).2.2 (w.heap.size) (by first | omega | (simp; done) | (simp; omega))
  have hc3_1 := fun o => (bcell hb3).1 (w.heap.size + 1) o (by first | omega | (simp; done) | (simp; omega))
  have hf3_1 := fun o => (bcell hb3).2.1 (w.heap.size + 1) o (by first | omega | (simp; done) | (simp; omega))
  have hz3_1 := (bcell hb3).2.2 (w.heap.size + 1) (by first | omega | (simp; done) | (simp; omega))
  have HB3 := Lib.hid hb3
  clear hb3
  go_wp2_with fail
  refine Calls.mono (HS.out _ (by omega) (by omega) _) ?_
  rintro e w93 ⟨rfl, rfl⟩
  go_wp2_with fail
  refine Calls.mono (HS.out _ (by omega) (by omega) _) ?_
  rintro e w94 ⟨rfl, rfl⟩
  go_wp2_with fail
  refine Calls.mono (HS.out _ (by omega) (by omega) _) ?_
  rintro e w95 ⟨rfl, rfl⟩
  go_wp2_with fail
  refine Calls.mono (HS.out _ (by omega) (by omega) _) ?_
  rintro e w96 ⟨rfl, rfl⟩
  go_wp2_with fail
  refine Calls.mono (HG.out _ _ (by omega) (by omega) (by omega) (by omega) _) ?_
  rintro e w8 ⟨rfl, hb8⟩
  have hs8 := hb8.size
  try simp at hs8
  have hc8_0 := fun o => (bcell hb8).1 (w.heap.size) o (by first | omega | (simp; done) | (simp; omega))
  have hf8_0 := fun o => (bcell hb8).2.1 (w.heap.size) o (by first | omega | (simp; done) | (simp; omega))
  have hz8_0 := (bcell hb8).2.2 (w.heap.size) (by first | omega | (simp; done) | (simp; omega))
  have hc8_1 := fun o => (bcell hb8).1 (w.heap.size + 1) o (by first | omega | (simp; done) | (simp; omega))
  have hf8_1 := fun o => (bcell hb8).2.1 (w.heap.size + 1) o (by first | omega | (simp; done) | (simp; omega))
  have hz8_1 := (bcell hb8).2.2 (w.heap.size + 1) (by first | omega | (simp; done) | (simp; omega))
  have HB8 := Lib.hid hb8
  clear hb8
  go_wp2_with fail
  refine Calls.mono (HR.out _) ?_
  rintro e w21 ⟨rfl, hb21⟩
  have hs21 := hb21.size
  try simp at hs21
  have hc21_0 := fun o => (bcell hb21).1 (w.heap.size) o (by first | omega | (simp; done) | (simp; omega))
  have hf21_0 := fun o => (bcell hb21).2.1 (w.heap.size) o (by first | omega | (simp; done) | (simp; omega))
  have hz21_0 := (bcell hb21).2.2 (w.heap.size) (by first | omega | (simp; done) | (simp; omega))
  have hc21_1 := fun o => (bcell hb21).1 (w.heap.size + 1) o (by first | omega | (simp; done) | (simp; omega))
  have hf21_1 := fun o => (bcell hb21).2.1 (w.heap.size + 1) o (by first | omega | (simp; done) | (simp; omega))
  have hz21_1 := (bcell hb21).2.2 (w.heap.size + 1) (by first | omega | (simp; done) | (simp; omega))
  have HB21 := Lib.hid hb21
  clear hb21
  cases m
  · go_wp2_with fail
    refine bodyPost_ret (v := deV noDe) (by simp [deV, noDe, De.cells, results, Try.results41, go_sem, *]) rfl ⟨by first | rfl | (rw [HE.out]; rfl) | (simp [pickDe, *]; done), ?_⟩
    repeat' (first | (with_reducible exact Below.refl _ _) | (with_reducible (refine Below.setCell ?_ ?_ _)) | (with_reducible (refine Below.alloc ?_ ?_ _)) | (with_reducible (refine Below.drew ?_)) | (with_reducible (refine below_via ?_ HB21.out ?_)) | (with_reducible (refine below_via ?_ HB8.out ?_)) | (with_reducible (refine below_via ?_ HB3.out ?_)) | omega | (simp; done) | (simp; omega))
  · go_wp2_with fail
    refine Calls.mono (HW.out trivial _) ?_
    rintro e w22 ⟨rfl, hb22⟩
    have hs22 := hb22.size
    try simp at hs22
    have hc22_0 := fun o => (bcell hb22).1 (w.heap.size) o (by first | omega | (simp; done) | (simp; omega))
    have hf22_0 := fun o => (bcell hb22).2.1 (w.heap.size) o (by first | omega | (simp; done) | (simp; omega))
    have hz22_0 := (bcell hb22).2.2 (w.heap.size) (by first | omega | (simp; done) | (simp; omega))
    have hc22_1 := fun o => (bcell hb22).1 (w.heap.size + 1) o (by first | omega | (simp; done) | (simp; omega))
    have hf22_1 := fun o => (bcell hb22).2.1 (w.heap.size + 1) o (by first | omega | (simp; done) | (simp; omega))
    have hz22_1 := (bcell hb22).2.2 (w.heap.size + 1) (by first | omega | (simp; done) | (simp; omega))
    have HB22 := Lib.hid hb22
    clear hb22
    cases he : (y == x)
    · have he2 : (y != x) = true := by unfold bne; rw [he]; rfl
      have HE := Lib.hid he
      clear he
      go_wp2_with fail
      refine bodyPost_ret (v := deV noDe) (by simp [deV, noDe, De.cells, results, Try.results41, go_sem, *]) rfl ⟨by first | rfl | (rw [HE.out]; rfl) | (simp [pickDe, *]; done), ?_⟩
      repeat' (first | (with_reducible exact Below.refl _ _) | (with_reducible (refine Below.setCell ?_ ?_ _)) | (with_reducible (refine Below.alloc ?_ ?_ _)) | (with_reducible (refine Below.drew ?_)) | (with_reducible (refine below_via ?_ HB22.out ?_)) | (with_reducible (refine below_via ?_ HB21.out ?_)) | (with_reducible (refine below_via ?_ HB8.out ?_)) | (with_reducible (refine below_via ?_ HB3.out ?_)) | omega | (simp; done) | (simp; omega))
    · have he2 : (y != x) = false := by unfold bne; rw [he]; rfl
      go_wp2_with fail
      refine bodyPost_ret (v := deV ⟨2, partOf x 12 12, bitOf x 6, bitOf x 7, !bitOf x 54, bitOf x 10, false, partOf x 55 4, 0⟩) (by simp [deV, De.cells, results, Try.results41, go_sem, *]) rfl ⟨by first | rfl | (rw [HE.out]; rfl) | (simp [pickDe, *]; done), ?_⟩
      repeat' (first | (with_reducible exact Below.refl _ _) | (with_reducible (refine Below.setCell ?_ ?_ _)) | (with_reducible (refine Below.alloc ?_ ?_ _)) | (with_reducible (refine Below.drew ?_)) | (with_reducible (refine below_via ?_ HB22.out ?_)) | (with_reducible (refine below_via ?_ HB21.out ?_)) | (with_reducible (refine below_via ?_ HB8.out ?_)) | (with_reducible (refine below_via ?_ HB3.out ?_)) | omega | (simp; done) | (simp; omega))

theorem rof_any (stage level x : Int) (hx : 0 ≤ x ∧ x ≤ 18446744073709551615) (hp : placeOk stage level = true) (w : World) :
    Calls Try.prog 41 #[.int .i64 stage, .int .i64 level, .int .u64 x] w (RofPost w (ofDe stage level x)) := by
  have hl := placeOk_level hp
  have hs := placeOk_stage hp
  unfold ofDe guessDe
  cases b0 : bitOf x 0
  · exact rof0 stage level x hx hl.1 hl.2 hs b0 w
  · cases b1 : bitOf x 1
    · unfold guessLeaf
      cases hst : (stage == 1)
      · exact rof2a2 stage level x hx hl.1 hl.2 hs b0 b1 hst w
      · exact rof2a1 stage level x hx hl.1 hl.2 hs b0 b1 hst w
    · cases h3 : decide (level < 3)
      · unfold guessLeaf
        cases hst : (stage == 1)
        · exact rof2b2 stage level x hx hl.1 hl.2 hs b0 b1 h3 hst w
        · exact rof2b1 stage level x hx hl.1 hl.2 hs b0 b1 h3 hst w
      · exact rof1 stage level x hx hl.1 hl.2 hs b0 b1 h3 w

end Go.Proofs.Ytddbndmbcdeggaa
