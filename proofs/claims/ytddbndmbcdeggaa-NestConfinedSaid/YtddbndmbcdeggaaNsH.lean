/-
  Where an intermediate page may be: what the plain words bear. Conditions: none.
-/
import Derived.Test.YtddbndmbcdeggaaNsA
namespace Go.Proofs.Ytddbndmbcdeggaa
open Go.RowKit

theorem leaf_parts {stage level : Int} {d : De} (h : mayDe stage level d = true) (h2 : d.kind = 2) : 0 < level ∧ frameOk d.frame (coversOf level) = true := by
  unfold mayDe at h
  rw [if_neg (by omega), if_neg (by omega), if_pos h2] at h
  simp only [Bool.and_eq_true, decide_eq_true_eq] at h
  exact ⟨h.2.1, h.2.2.2.2⟩
theorem mid_fits {frame level page : Int} (h0 : 0 < level) (h1 : level ≤ 3) (h : frameOk frame (coversOf level) = true) : 0 ≤ frame + page % coversOf level ∧ frame + page % coversOf level ≤ 4095 := by
  unfold frameOk at h
  simp only [Bool.and_eq_true, decide_eq_true_eq, beq_iff_eq] at h
  have hl : level = 1 ∨ level = 2 ∨ level = 3 := by omega
  rcases hl with rfl | rfl | rfl
  · rw [show coversOf 1 = 64 by rfl] at *
    omega
  · rw [show coversOf 2 = 8 by rfl] at *
    omega
  · rw [show coversOf 3 = 1 by rfl] at *
    omega
theorem ofDe_fits {stage level x page : Int} (h2 : (ofDe stage level x).kind = 2) (h1 : level ≤ 3) : 0 ≤ (ofDe stage level x).frame + page % coversOf level ∧ (ofDe stage level x).frame + page % coversOf level ≤ 4095 := by
  unfold ofDe at *
  cases h : (mayDe stage level (guessDe stage level x) && wordDe stage level (guessDe stage level x) == x)
  · rw [h, if_neg (by decide)] at h2
    exact absurd h2 (by decide)
  · rw [h, if_pos rfl] at h2
    rw [if_pos rfl]
    simp only [Bool.and_eq_true] at h
    obtain ⟨ha, hb⟩ := leaf_parts h.1 h2
    exact mid_fits ha h1 hb

theorem walkG_in (ws : List Int) (stage page : Int) (hn : 8 ≤ ws.length) (hp : 0 ≤ page) : ∀ (n : Nat) (level fr : Int) (rd : List Int), (walkG ws stage page n level fr rd).2.1.kind = 0 → 0 ≤ (walkG ws stage page n level fr rd).1.frame ∧ (walkG ws stage page n level fr rd).1.frame ≤ (ws.length : Int) / 8 - 1
  | 0, level, fr, rd, _ => by
    unfold walkG
    exact ⟨by simp only [noHt]; omega, by simp only [noHt]; omega⟩
  | n + 1, level, fr, rd, h => by
    unfold walkG at h ⊢
    split
    · next hc =>
      rw [if_pos hc] at h
      exact absurd h (show ¬ (1 : Int) = 0 by decide)
    · next hc =>
      rw [if_neg hc] at h
      split
      · next h0 =>
        rw [if_pos h0] at h
        exact absurd h (show ¬ (2 : Int) = 0 by decide)
      · next h0 =>
        rw [if_neg h0] at h
        split
        · next h1 =>
          rw [if_pos h1] at h
          exact walkG_in ws stage page hn hp n _ _ _ h
        · next h1 =>
          rw [if_neg h1] at h
          have hk := tabDe_kind ws stage level fr page
          unfold leafF at h
          unfold leafH
          dsimp only at h ⊢
          split
          · next hl =>
            dsimp only
            have hcv : 0 < coversOf level := covers_pos _
            have := Int.emod_nonneg page (show coversOf level ≠ 0 by omega)
            exact ⟨by omega, by omega⟩
          · next hl =>
            rw [if_neg hl] at h
            exact absurd h (show ¬ (1 : Int) = 0 by decide)

/-- Where no fault is, the frame lies in the memory. -/
theorem midRes_in (ws : List Int) (two : Rt) (mid acc : Int) (hn : 8 ≤ ws.length) (h : (midRes ws two mid acc).2.1.kind = 0) : numOk (midRes ws two mid acc).1.frame ((ws.length : Int) / 8 - 1) = true := by
  have key : 0 ≤ (midRes ws two mid acc).1.frame ∧ (midRes ws two mid acc).1.frame ≤ (ws.length : Int) / 8 - 1 := by
    unfold midRes at h ⊢
    cases hok : midOk ws.length two mid acc
    · rw [if_neg (by decide)]
      exact ⟨by simp only [noHt]; omega, by simp only [noHt]; omega⟩
    · rw [hok, if_pos rfl] at h
      rw [if_pos rfl]
      have hmi : 0 ≤ mid := by
        unfold midOk askedB numOk at hok
        simp only [Bool.and_eq_true, List.all_cons, List.all_nil, decide_eq_true_eq, Bool.and_true] at hok
        omega
      unfold midOf at h ⊢
      cases hon : two.on
      · rw [hon, if_neg (by decide)] at h
        rw [if_neg (by decide)]
        unfold offMid at h ⊢
        split
        · next hc =>
          rw [if_pos hc] at h
          exact absurd h (show ¬ (1 : Int) = 0 by decide)
        · next hc =>
          dsimp only
          omega
      · rw [hon, if_pos rfl] at h
        rw [if_pos rfl]
        unfold onMid at h ⊢
        dsimp only at h ⊢
        rw [if_pos h]
        unfold onFt at h
        by_cases hk : (walkOf ws 2 two.frame mid).2.1.kind = 0
        · exact walkG_in ws 2 mid hn hmi 4 0 two.frame [] hk
        · rw [if_neg hk] at h
          exact absurd h hk
  unfold numOk
  simp only [Bool.and_eq_true, decide_eq_true_eq]
  exact key

end Go.Proofs.Ytddbndmbcdeggaa
