/-
  A descriptor's word is read as it; what a word is read as has that word. Conditions: the descriptor may be.
-/
import Derived.Test.YtiapjaaaoeoaeaaDescK
namespace Go.Proofs.Ytiapjaaaoeoaeaa
open Go.RowKit

theorem word_range {stage level : Int} {d : De} (h : mayDe stage level d = true) : 0 ≤ wordDe stage level d ∧ wordDe stage level d ≤ 18446744073709551615 := by
  obtain ⟨x, hx, hlt, _⟩ := join_bits (fieldsDe stage level d) 0 (by decide) (fieldsDe_ok h)
  have e : wordDe stage level d = (x : Int) := hx
  omega

theorem part_word {stage level : Int} {d : De} (h : mayDe stage level d = true) (a n : Int) (hg : goodAt (spotsOf (fieldsDe stage level d)) a n = true) :
    partOf (wordDe stage level d) a n = valAt (fieldsDe stage level d) a := part_join _ a n (fieldsDe_ok h) hg

theorem bit_of_on {on : Bool} {x a : Int} (h : partOf x a 1 = if on then 1 else 0) : bitOf x a = on := by
  unfold bitOf
  rw [h]
  cases on <;> rfl

theorem guess_word {stage level : Int} {d : De} (h : mayDe stage level d = true) (_ : 0 ≤ level) (_ : level ≤ 3) : guessDe stage level (wordDe stage level d) = d := by
  have P := fun a n hg => part_word h a n hg
  rcases mayDe_kind h with hk | hk | hk
  · have hd : d = bareNone stage d := by
      unfold mayDe at h
      rw [if_pos hk] at h
      exact (deEq_iff _ _).1 h
    have hF : fieldsDe stage level d = [⟨4, 4, d.note⟩] := by unfold fieldsDe; rw [if_pos hk]
    generalize wordDe stage level d = x at *
    rw [hF] at P
    have b0 : bitOf x 0 = false := bit_of_on (P 0 1 (by rfl))
    have n4 : partOf x 4 4 = d.note := P 4 4 (by rfl)
    unfold guessDe guessNone
    rw [b0, if_pos (by decide), n4]
    have hf := congrArg De.frame hd
    have hr := congrArg De.r hd
    have hw := congrArg De.w hd
    have hx := congrArg De.x hd
    have ha := congrArg De.af hd
    have hn := congrArg De.ng hd
    have hs := congrArg De.soft hd
    simp only [bareNone] at hf hr hw hx ha hn hs
    obtain ⟨kind, frame, r, dw, dx, af, ng, soft, note⟩ := d
    dsimp only at *
    rw [hk, hf, hr, hw, hx, ha, hn, hs]
  · have hd : d = bareTable d ∧ level < 3 := by
      unfold mayDe at h
      rw [if_neg (by omega), if_pos hk] at h
      simp only [Bool.and_eq_true, decide_eq_true_eq] at h
      exact ⟨(deEq_iff _ _).1 h.1, h.2.1⟩
    have hF : fieldsDe stage level d = [fdBit 0 true, fdBit 1 true, ⟨12, 12, d.frame⟩] := by
      unfold fieldsDe fieldsOne
      rw [if_neg (by omega), if_pos hk, show (d.kind == 1) = true by simpa using hk]
      rfl
    generalize wordDe stage level d = x at *
    rw [hF] at P
    have b0 : bitOf x 0 = true := bit_of_on (P 0 1 (by rfl))
    have b1 : bitOf x 1 = true := bit_of_on (P 1 1 (by rfl))
    have n12 : partOf x 12 12 = d.frame := P 12 12 (by rfl)
    unfold guessDe guessTable
    rw [b0, b1, show decide (level < 3) = true by simpa using hd.2, if_neg (by decide), if_pos (by decide), n12]
    exact hd.1.symm
  · have hd : d = bareLeaf stage d := by
      unfold mayDe at h
      rw [if_neg (by omega), if_neg (by omega), if_pos hk] at h
      simp only [Bool.and_eq_true, decide_eq_true_eq] at h
      exact (deEq_iff _ _).1 h.1
    have hk1 : (d.kind == 1) = false := by simp; omega
    unfold bareLeaf at hd
    cases hst : (stage == 1)
    · have hs1 : ¬ stage = 1 := by simpa using hst
      rw [hst, if_neg (by decide)] at hd
      have hF : fieldsDe stage level d = [fdBit 0 true, fdBit 1 (level == 3), ⟨12, 12, d.frame⟩, fdBit 10 d.af, fdBit 54 (!d.x), fdBit 6 d.r, fdBit 7 d.w, ⟨55, 4, d.soft⟩] := by
        unfold fieldsDe fieldsOne fieldsTwo fieldsThree
        rw [if_neg (by omega), if_neg (by omega), hk1, if_neg hs1]
        rfl
      generalize wordDe stage level d = x at *
      rw [hF] at P
      have b0 : bitOf x 0 = true := bit_of_on (P 0 1 (by rfl))
      have b1 : bitOf x 1 = (level == 3) := bit_of_on (P 1 1 (by rfl))
      have n12 : partOf x 12 12 = d.frame := P 12 12 (by rfl)
      have b10 : bitOf x 10 = d.af := bit_of_on (P 10 1 (by rfl))
      have b54 : bitOf x 54 = !d.x := bit_of_on (P 54 1 (by rfl))
      have b6 : bitOf x 6 = d.r := bit_of_on (P 6 1 (by rfl))
      have b7 : bitOf x 7 = d.w := bit_of_on (P 7 1 (by rfl))
      have n55 : partOf x 55 4 = d.soft := P 55 4 (by rfl)
      unfold guessDe guessLeaf
      have hc : (bitOf x 1 && decide (level < 3)) = false := by
        rw [b1]
        cases h3 : (level == 3)
        · rfl
        · have : level = 3 := by simpa using h3
          rw [this]; rfl
      rw [b0, hc, if_neg (by decide), if_neg (by decide), hst, if_neg (by decide), n12, b10, b54, b6, b7, n55, Bool.not_not]
      exact hd.symm
    · have hs1 : stage = 1 := by simpa using hst
      rw [hst, if_pos rfl] at hd
      have hF : fieldsDe stage level d = [fdBit 0 true, fdBit 1 (level == 3), ⟨12, 12, d.frame⟩, fdBit 10 d.af, fdBit 54 (!d.x), fdBit 7 (!d.w), fdBit 11 d.ng] := by
        unfold fieldsDe fieldsOne fieldsTwo fieldsThree
        rw [if_neg (by omega), if_neg (by omega), hk1, if_pos hs1]
        rfl
      generalize wordDe stage level d = x at *
      rw [hF] at P
      have b0 : bitOf x 0 = true := bit_of_on (P 0 1 (by rfl))
      have b1 : bitOf x 1 = (level == 3) := bit_of_on (P 1 1 (by rfl))
      have n12 : partOf x 12 12 = d.frame := P 12 12 (by rfl)
      have b10 : bitOf x 10 = d.af := bit_of_on (P 10 1 (by rfl))
      have b54 : bitOf x 54 = !d.x := bit_of_on (P 54 1 (by rfl))
      have b7 : bitOf x 7 = !d.w := bit_of_on (P 7 1 (by rfl))
      have b11 : bitOf x 11 = d.ng := bit_of_on (P 11 1 (by rfl))
      unfold guessDe guessLeaf
      have hc : (bitOf x 1 && decide (level < 3)) = false := by
        rw [b1]
        cases h3 : (level == 3)
        · rfl
        · have : level = 3 := by simpa using h3
          rw [this]; rfl
      rw [b0, hc, if_neg (by decide), if_neg (by decide), hst, if_pos rfl, n12, b10, b54, b7, b11, Bool.not_not, Bool.not_not]
      exact hd.symm

/-- There and back. -/
theorem of_word {stage level : Int} {d : De} (h : mayDe stage level d = true) (h0 : 0 ≤ level) (h1 : level ≤ 3) : ofDe stage level (wordDe stage level d) = d := by
  unfold ofDe
  rw [guess_word h h0 h1, h, Bool.true_and, if_pos (by simp)]

theorem noDe_may (stage level : Int) : mayDe stage level noDe = true := by
  unfold mayDe
  rw [if_pos (show noDe.kind = 0 from rfl)]
  unfold bareNone noDe deEq
  by_cases h : stage = 2 <;> simp [h]

/-- What a word is read as may be, and has that word, or nothing is mapped. -/
theorem of_back (stage level x : Int) : mayDe stage level (ofDe stage level x) = true ∧ (ofDe stage level x = noDe ∨ wordDe stage level (ofDe stage level x) = x) := by
  unfold ofDe
  cases h : (mayDe stage level (guessDe stage level x) && wordDe stage level (guessDe stage level x) == x)
  · rw [if_neg (by decide)]
    exact ⟨noDe_may _ _, .inl rfl⟩
  · rw [if_pos rfl]
    simp only [Bool.and_eq_true, beq_iff_eq] at h
    exact ⟨h.1, .inr h.2⟩

end Go.Proofs.Ytiapjaaaoeoaeaa
