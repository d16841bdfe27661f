/-
  Loops over rows of numbers: equality, a copy in new memory, a place of a number, the write over. Conditions: the lengths fit.
-/
import Derived.Test.YtddbndmbcdeggaaMemF
namespace Go.Proofs.Ytddbndmbcdeggaa
open Go.RowKit

theorem at_cell {α : Type} {w w' : World} {A : Option Addr} {f : α → List Value} {l : List α} (h : At w A 1 f l) (hb : Below w.heap.size w w') {k : Nat} (hk : k < l.length) {u : Value} (hu : f l[k] = [u]) :
    ∃ b off, A = some ⟨b, off, none⟩ ∧ b < w.heap.size ∧ w'.cell? ⟨b, off + k, none⟩ = some u := by
  obtain ⟨b, off, e, hb', hc⟩ := h (by omega)
  refine ⟨b, off, e, hb', ?_⟩
  have h1 := hc k hk 0 u (by rw [hu]; rfl)
  rw [hb.cell (p := ⟨b, off + k, none⟩) hb']
  simpa using h1

theorem take_snoc_get {α : Type} (l : List α) (k : Nat) (h : k < l.length) : l.take (k + 1) = l.take k ++ [l[k]] := by
  rw [List.take_succ_eq_append_getElem h]

theorem take_eq_step {α : Type} {xs ys : List α} {k : Nat} (h : xs.take k = ys.take k) (hx : k < xs.length) (hy : k < ys.length) (he : xs[k] = ys[k]) : xs.take (k + 1) = ys.take (k + 1) := by
  rw [take_snoc_get xs k hx, take_snoc_get ys k hy, h, he]

theorem ne_row {xs ys : List Int} {k : Nat} {h1 : k < xs.length} {h2 : k < ys.length} {x y : Int} (hx : xs[k] = x) (hy : ys[k] = y) (hne : (x != y) = true) : decide (xs = ys) = false := by
  simp only [decide_eq_false_iff_not]
  intro h
  subst h
  rw [hx] at hy
  simp [hy] at hne
theorem eq_row {xs ys : List Int} {k : Nat} (h : xs.take k = ys.take k) (hl : xs.length = ys.length) (hk : xs.length ≤ k) : decide (xs = ys) = true := by
  rw [List.take_of_length_le hk, List.take_of_length_le (by omega)] at h
  simp [h]

end Go.Proofs.Ytddbndmbcdeggaa
