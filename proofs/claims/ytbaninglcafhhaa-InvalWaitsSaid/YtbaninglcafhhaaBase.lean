/-
  Small facts on memory that all walks of this claim use: a block known whole, a slice that reads as a list, what a change above a block's number leaves.
-/
import Derived.WalkKit
import Derived.WalkSpells
import Derived.WalkLawsBesides
import Derived.Lib.Hide
namespace Go.Proofs.Ytbaninglcafhhaa
open Go Go.RowKit

section
variable {w w' : World} {g : Nat} {t : TypeId} {cs : Array Value}
theorem frozen_of_row (w : World) (g j : Nat) (cs : Array Value) (t : TypeId) (h : w.heap[g]? = some (.cells cs t (0, 0))) : w.frozen? ⟨g, j, none⟩ = false := by
  simp [World.frozen?, h]
theorem heap_lt {o : Obj} (h : w.heap[g]? = some o) : g < w.heap.size := by
  rcases Nat.lt_or_ge g w.heap.size with hlt | hge
  · exact hlt
  · rw [Array.getElem?_eq_none hge] at h; cases h
theorem heap_set_same (h : w.heap[g]? = some (.cells cs t (0, 0))) (i : Nat) (u : Value) : (w.setCell ⟨g, i, none⟩ u).heap[g]? = some (.cells (cs.setIfInBounds i u) t (0, 0)) := by
  simp [World.setCell, Array.getElem?_modify, h]
theorem heap_set_other {p : Addr} (hp : g ≠ p.block) (u : Value) : (w.setCell p u).heap[g]? = w.heap[g]? := Below.heap_setCell w p u g hp
theorem heap_new (w : World) (o : Obj) : (w.alloc o).heap[w.heap.size]? = some o := by
  show (w.heap.push o)[w.heap.size]? = _
  simp
theorem heap_at (w : World) (o : Obj) {b : Nat} (hb : b = w.heap.size) : (w.alloc o).heap[b]? = some o := by rw [hb]; exact heap_new w o
theorem heap_old (w : World) (o : Obj) {g : Nat} (h : g < w.heap.size) : (w.alloc o).heap[g]? = w.heap[g]? := Below.heap_alloc w o g h
theorem heap_old_is (w : World) (o : Obj) {g : Nat} {x : Option Obj} (h : g < w.heap.size) (hx : w.heap[g]? = x) : (w.alloc o).heap[g]? = x := (heap_old w o h).trans hx
theorem heap_below_is {w w' : World} {B g : Nat} {x : Option Obj} (hb : Below B w w') (h : g < B) (hx : w.heap[g]? = x) : w'.heap[g]? = x := (hb.block g h).trans hx
theorem heap_far_is {w : World} {p : Addr} {g : Nat} {u : Value} {x : Option Obj} (h : g ≠ p.block) (hx : w.heap[g]? = x) : (w.setCell p u).heap[g]? = x := (heap_set_other h u).trans hx
theorem size_set (w : World) (p : Addr) (u : Value) : (w.setCell p u).heap.size = w.heap.size := by simp [World.setCell]
theorem size_new (w : World) (o : Obj) : (w.alloc o).heap.size = w.heap.size + 1 := by simp
end

theorem bcell {W W1 : World} (hb : Below W.heap.size W W1) : (∀ b o, b < W.heap.size → W1.cell? ⟨b, o, none⟩ = W.cell? ⟨b, o, none⟩) ∧ (∀ b o, b < W.heap.size → W1.frozen? ⟨b, o, none⟩ = W.frozen? ⟨b, o, none⟩) ∧ (∀ b, b < W.heap.size → b < W1.heap.size) :=
  ⟨fun b o h => hb.cell (p := ⟨b, o, none⟩) h, fun b o h => hb.frozen (p := ⟨b, o, none⟩) h, fun _ h => Nat.lt_of_lt_of_le h hb.size⟩

/-- Behind a call that leaves all that was there. -/
theorem below_call {B : Nat} {a b c : World} (h : Below B a b) (hb : Below b.heap.size b c) (hB : B ≤ b.heap.size) : Below B a c := h.trans (hb.mono hB)

theorem below_via {B B' : Nat} {a b c : World} (h : Below B a b) (hb : Below B' b c) (hB : B ≤ B') : Below B a c := h.trans (hb.mono hB)

theorem below_new {b c : World} {o : Obj} (hb : Below (b.heap.size + 1) (b.alloc o) c) : Below b.heap.size b c := ((Below.refl _ _).alloc (Nat.le_refl _) o).trans (hb.mono (by omega))

/-- A slice with this address reads as this list, each element in so many cells. -/
def At {α : Type} (w : World) (A : Option Addr) (size : Nat) (f : α → List Value) (l : List α) : Prop :=
  0 < l.length → ∃ b off, A = some ⟨b, off, none⟩ ∧ b < w.heap.size ∧ ∀ i (h : i < l.length) j u, (f l[i])[j]? = some u → w.cell? ⟨b, off + i * size + j, none⟩ = some u

section
variable {α : Type} {w w' : World} {A : Option Addr} {size : Nat} {f : α → List Value} {l : List α}
theorem At.nil : At w A size f [] := fun h => by simp at h
theorem At.keep (h : At w A size f l) (hs : w.heap.size ≤ w'.heap.size) (hk : ∀ p : Addr, p.block < w.heap.size → w'.cell? p = w.cell? p) : At w' A size f l := fun hl => by
  obtain ⟨b, off, e, hb, hc⟩ := h hl
  exact ⟨b, off, e, by omega, fun i hi j u hu => (hk _ hb).trans (hc i hi j u hu)⟩
theorem At.below (h : At w A size f l) (hb : Below w.heap.size w w') : At w' A size f l := h.keep hb.size fun _ hp => hb.cell hp
theorem At.drew (h : At w A size f l) : At w.drew A size f l := h
end
end Go.Proofs.Ytbaninglcafhhaa
