/-
  The table that is remembered, the deepest one: two ways to look for it. Plain facts.
-/
import Derived.Test.YtbaninglcafhhaaChkA
import Derived.Test.YtbaninglcafhhaaEntE
namespace Go.Proofs.Ytbaninglcafhhaa
open Go.RowKit

/-- The best of the first k. -/
def bestN (es : List Ent) (p : Ent → Bool) : Nat → Ent
  | 0 => noEnt
  | k + 1 => match es[k]? with
    | some e => if p e && decide ((bestN es p k).level < e.level) then e else bestN es p k
    | none => bestN es p k
/-- Its place. -/
def placeN (es : List Ent) (p : Ent → Bool) : Nat → Option Nat
  | 0 => none
  | k + 1 => match es[k]? with
    | some e => if p e && decide ((bestN es p k).level < e.level) then some k else placeN es p k
    | none => placeN es p k
def atN (es : List Ent) (p : Ent → Bool) (k : Nat) : Int := match placeN es p k with | none => -1 | some j => j
theorem best_step {es : List Ent} {p : Ent → Bool} {k : Nat} (hk : k < es.length) {e : Ent} (he : es[k] = e) : bestN es p (k + 1) = if p e && decide ((bestN es p k).level < e.level) then e else bestN es p k := by
  show (match es[k]? with | some e => _ | none => _) = _
  rw [List.getElem?_eq_getElem hk, he]
theorem place_step {es : List Ent} {p : Ent → Bool} {k : Nat} (hk : k < es.length) {e : Ent} (he : es[k] = e) : placeN es p (k + 1) = if p e && decide ((bestN es p k).level < e.level) then some k else placeN es p k := by
  show (match es[k]? with | some e => _ | none => _) = _
  rw [List.getElem?_eq_getElem hk, he]
theorem place_best (es : List Ent) (p : Ent → Bool) (hp : ∀ e ∈ es, p e = true → 1 ≤ e.level) : ∀ k, (placeN es p k = none ∧ bestN es p k = noEnt) ∨ ∃ j, placeN es p k = some j ∧ j < k ∧ es[j]? = some (bestN es p k) ∧ 1 ≤ (bestN es p k).level
  | 0 => .inl ⟨rfl, rfl⟩
  | k + 1 => by
    have ih := place_best es p hp k
    rcases Nat.lt_or_ge k es.length with hk | hk
    · rw [best_step hk rfl, place_step hk rfl]
      by_cases hc : (p es[k] && decide ((bestN es p k).level < es[k].level)) = true
      · rw [if_pos hc, if_pos hc]
        simp only [Bool.and_eq_true] at hc
        exact .inr ⟨k, rfl, Nat.lt_succ_self _, List.getElem?_eq_getElem hk, hp _ (List.getElem_mem hk) hc.1⟩
      · rw [if_neg hc, if_neg hc]
        rcases ih with h | ⟨j, h1, h2, h3⟩
        · exact .inl h
        · exact .inr ⟨j, h1, by omega, h3⟩
    · have h1 : bestN es p (k + 1) = bestN es p k := by
        show (match es[k]? with | some e => _ | none => _) = _
        rw [List.getElem?_eq_none hk]
      have h2 : placeN es p (k + 1) = placeN es p k := by
        show (match es[k]? with | some e => _ | none => _) = _
        rw [List.getElem?_eq_none hk]
      rw [h1, h2]
      rcases ih with h | ⟨j, h1, h2, h3⟩
      · exact .inl h
      · exact .inr ⟨j, h1, by omega, h3⟩
/-- The page's own test: none yet, or a lower one there. -/
theorem place_test (es : List Ent) (p : Ent → Bool) (hp : ∀ e ∈ es, p e = true → 1 ≤ e.level) (k : Nat) (e : Ent) (_he : p e = true) (h1 : 1 ≤ e.level) :
    (decide (atN es p k < 0) = true → decide ((bestN es p k).level < e.level) = true) ∧ (∀ j, placeN es p k = some j → es[j]? = some (bestN es p k)) := by
  rcases place_best es p hp k with ⟨h2, h3⟩ | ⟨j, h2, h3, h4, h5⟩
  · refine ⟨fun _ => ?_, fun j hj => by rw [h2] at hj; cases hj⟩
    rw [h3]
    exact decide_eq_true (show (0 : Int) < e.level by omega)
  · refine ⟨fun h => ?_, fun j' hj => ?_⟩
    · unfold atN at h; rw [h2] at h; simp at h; omega
    · rw [h2] at hj; injection hj with hj; subst hj; exact h4

end Go.Proofs.Ytbaninglcafhhaa
