/-
  What an argument of the statements of layer 6 looks like in memory. Conditions: that it reads.
-/
import Derived.Test.YtjbjepjbnklccaaOpen
import Derived.Test.YtjbjepjbnklccaaPermB
namespace Go.Proofs.Ytjbjepjbnklccaa
open Go.RowKit Go.ChangeShapes Go.WideShapes

theorem opens_attr : Opens Try.prog 27 Attr.cells (fun _ _ => True) := by
  intro w H enc fuel cs x h
  obtain ⟨hl, hf⟩ := opens_fields Try.underlying27 h
  rw [show Try.prog.cellsOf 27 = 6 by kernel_rfl] at hl
  obtain ⟨n0, y0, h0⟩ := opens_field hf 0 4 0 1 rfl rfl rfl (by kernel_rfl)
  obtain ⟨n1, y1, h1⟩ := opens_field hf 1 4 1 1 rfl rfl rfl (by kernel_rfl)
  obtain ⟨n2, y2, h2⟩ := opens_field hf 2 4 2 1 rfl rfl rfl (by kernel_rfl)
  obtain ⟨n3, y3, h3⟩ := opens_field hf 3 4 3 1 rfl rfl rfl (by kernel_rfl)
  obtain ⟨n4, y4, h4⟩ := opens_field hf 4 4 4 1 rfl rfl rfl (by kernel_rfl)
  obtain ⟨n5, y5, h5⟩ := opens_field hf 5 3 5 1 rfl rfl rfl (by kernel_rfl)
  obtain ⟨b0, e0, _⟩ := opens_bool Try.underlying4 w H enc n0 _ _ h0
  obtain ⟨b1, e1, _⟩ := opens_bool Try.underlying4 w H enc n1 _ _ h1
  obtain ⟨b2, e2, _⟩ := opens_bool Try.underlying4 w H enc n2 _ _ h2
  obtain ⟨b3, e3, _⟩ := opens_bool Try.underlying4 w H enc n3 _ _ h3
  obtain ⟨b4, e4, _⟩ := opens_bool Try.underlying4 w H enc n4 _ _ h4
  obtain ⟨b5, e5, _⟩ := opens_int Try.underlying3 w H enc n5 _ _ h5
  match cs, hl with
  | [c0, c1, c2, c3, c4, c5], _ =>
    simp at e0 e1 e2 e3 e4 e5
    subst e0 e1 e2 e3 e4 e5
    exact ⟨⟨b0, b1, b2, b3, b4, b5⟩, rfl, trivial⟩

theorem opens_ask : Opens Try.prog 25 Ask.cells AskAt := by
  intro w H enc fuel cs x h
  obtain ⟨hl, hf⟩ := opens_fields Try.underlying25 h
  rw [show Try.prog.cellsOf 25 = 5 by kernel_rfl] at hl
  obtain ⟨n0, y0, h0⟩ := opens_field hf 0 23 0 1 rfl rfl rfl (by kernel_rfl)
  obtain ⟨n1, y1, h1⟩ := opens_field hf 1 3 1 1 rfl rfl rfl (by kernel_rfl)
  obtain ⟨n2, y2, h2⟩ := opens_field hf 2 3 2 1 rfl rfl rfl (by kernel_rfl)
  obtain ⟨n3, y3, h3⟩ := opens_field hf 3 3 3 1 rfl rfl rfl (by kernel_rfl)
  obtain ⟨n4, y4, h4⟩ := opens_field hf 4 3 4 1 rfl rfl rfl (by kernel_rfl)
  obtain ⟨s, e0, d0⟩ := opens_slice (size := 6) Try.underlying23 (by kernel_rfl) (by decide) opens_attr w H enc n0 _ _ h0
  obtain ⟨b1, e1, _⟩ := opens_int Try.underlying3 w H enc n1 _ _ h1
  obtain ⟨b2, e2, _⟩ := opens_int Try.underlying3 w H enc n2 _ _ h2
  obtain ⟨b3, e3, _⟩ := opens_int Try.underlying3 w H enc n3 _ _ h3
  obtain ⟨b4, e4, _⟩ := opens_int Try.underlying3 w H enc n4 _ _ h4
  match cs, hl with
  | [c0, c1, c2, c3, c4], _ =>
    simp [Sl.cells] at e0 e1 e2 e3 e4
    subst e0 e1 e2 e3 e4
    exact ⟨⟨s.addr, s.cap, s.list, b1, b2, b3, b4⟩, rfl, Nat.le_trans d0.1 d0.2.1, d0.2.2.1⟩

/-- The argument: a row of asks. -/
theorem open_asks {w : World} {H : Type} {enc : TypeId × Value → H} {v : Value} {d : DataW H} {p : List MemPlace} {r : Reach} {b0 : Nat} (hv : Value.okWide Try.prog w r b0 22 v)
    (h : DataW.Trod enc Try.prog w 0 (fun _ => true) true 22 v d p) :
    ∃ (A : Option Addr) (c : Nat) (asks : List Ask), v = .slice A asks.length c ∧ asks.length ≤ maxLen ∧ At w A 5 Ask.cells asks ∧ ∀ q ∈ asks, AskAt w q := by
  obtain ⟨a0, len0, cap0, rfl⟩ := okWide_slice Try.underlying22 hv
  obtain ⟨fuel, hf⟩ := h
  obtain ⟨s, e, d⟩ := opens_slice (size := 5) Try.underlying22 (by kernel_rfl) (by decide) opens_ask w H enc fuel _ _ hf
  simp [Value.cells, Sl.cells] at e
  obtain ⟨rfl, rfl, rfl⟩ := e
  exact ⟨s.addr, s.cap, s.list, rfl, Nat.le_trans d.1 d.2.1, d.2.2.1, d.2.2.2⟩

end Go.Proofs.Ytjbjepjbnklccaa
