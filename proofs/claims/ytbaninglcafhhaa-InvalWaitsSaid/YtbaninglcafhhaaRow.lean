/-
  Rows of elements of several cells: one element stored, some copied down, some made nought; what only keeps its room. Plain facts on memory.
-/
import Derived.Test.YtbaninglcafhhaaOwn
import Derived.Laws.IdiomCopy
namespace Go.Proofs.Ytbaninglcafhhaa
open Go Go.RowKit

section
variable {w : World} {g : Nat} {t : TypeId}
def spl : Array Value → Nat → List Value → Array Value
  | cs, _, [] => cs
  | cs, o, v :: vs => spl (cs.setIfInBounds o v) (o + 1) vs
theorem spl_size : ∀ (vs : List Value) (cs : Array Value) (o : Nat), (spl cs o vs).size = cs.size
  | [], _, _ => rfl
  | v :: vs, cs, o => by rw [spl, spl_size vs]; simp
theorem spl_list : ∀ (vs : List Value) (cs : Array Value) (o : Nat), (spl cs o vs).toList = setAll cs.toList o vs
  | [], _, _ => rfl
  | v :: vs, cs, o => by rw [spl, spl_list vs, setAll]; simp
theorem heap_spl : ∀ (vs : List Value) (cs : Array Value) (o : Nat) (w : World), w.heap[g]? = some (.cells cs t (0, 0)) → (w.setCells g o vs).heap[g]? = some (.cells (spl cs o vs) t (0, 0))
  | [], _, _, _, h => h
  | v :: vs, cs, o, w, h => by
    show ((w.setCell ⟨g, o, none⟩ v).setCells g (o + 1) vs).heap[g]? = _
    exact heap_spl vs _ (o + 1) _ (heap_set_same h o v)
end

theorem setAll_take {α : Type} (l : List α) (o n : Nat) (xs : List α) (h : o + xs.length ≤ n) (hn : n ≤ l.length) : (setAll l o xs).take n = setAll (l.take n) o xs := by
  rw [setAll_eq xs l o (by omega), setAll_eq xs (l.take n) o (by simp; omega), take_splice l xs o n h hn]
theorem setAll_right {α : Type} (a l : List α) (o : Nat) (xs : List α) (h : o + xs.length ≤ l.length) : setAll (a ++ l) (a.length + o) xs = a ++ setAll l o xs := by
  rw [setAll_eq xs (a ++ l) _ (by simp; omega), setAll_eq xs l o h]
  rw [List.take_append, List.drop_append, List.take_of_length_le (l := a) (by omega), List.drop_eq_nil_of_le (as := a) (by omega), show a.length + o - a.length = o by omega, show a.length + o + xs.length - a.length = o + xs.length by omega]
  simp [List.append_assoc]
theorem flat_set {α : Type} (f : α → List Value) (size : Nat) (hf : ∀ a, (f a).length = size) : ∀ (l : List α) (i : Nat) (x : α), i < l.length → setAll (l.flatMap f) (i * size) (f x) = (l.set i x).flatMap f
  | [], _, _, h => by simp at h
  | a :: l, 0, x, _ => by
    rw [List.flatMap_cons, Nat.zero_mul, setAll_eq _ _ _ (by simp [hf])]
    simp [hf]
  | a :: l, i + 1, x, h => by
    rw [List.flatMap_cons, List.set_cons_succ, List.flatMap_cons, ← flat_set f size hf l i x (by simpa using h), show (i + 1) * size = (f a).length + i * size by rw [hf, Nat.add_mul]; omega]
    refine setAll_right _ _ _ _ ?_
    rw [flat_len f size hf, hf, ← Nat.succ_mul]
    exact Nat.mul_le_mul_right _ (by simp at h; omega)

section
variable {α : Type} {w : World} {base : Nat} {e : TypeId} {size : Nat} {f : α → List Value} {l : List α} {c g : Nat}
theorem Own.parts (h : Own w base e size f l (some ⟨g, 0, none⟩) c) : ∃ cur : Array Value, base ≤ g ∧ w.heap[g]? = some (.cells cur e (0, 0)) ∧ l.length ≤ c ∧ c ≤ maxLen ∧ cur.size = c * size ∧ cur.toList.take (l.length * size) = l.flatMap f := by
  rcases h.2 with ⟨h1, h2⟩ | ⟨g', cap, cur', h1, h2, h3, h4, h5, h6, h7⟩
  · injection h1 with h1; cases h1
  · injection h1 with h1 _ h1'
    injection h1 with h1; injection h1 with h1
    subst h1 h1'
    exact ⟨cur', h2, h3, h4, h5, h6, h7⟩
theorem Own.of_parts (hf : ∀ a, (f a).length = size) {cur : Array Value} (h1 : base ≤ g) (h2 : w.heap[g]? = some (.cells cur e (0, 0))) (h3 : l.length ≤ c) (h4 : c ≤ maxLen) (h5 : cur.size = c * size) (h6 : cur.toList.take (l.length * size) = l.flatMap f) :
    Own w base e size f l (some ⟨g, 0, none⟩) c := ⟨flat_len f size hf l, .inr ⟨g, c, cur, rfl, h1, h2, h3, h4, h5, h6⟩⟩
/-- One element is stored. -/
theorem Own.put (h : Own w base e size f l (some ⟨g, 0, none⟩) c) (hf : ∀ a, (f a).length = size) {i : Nat} (hi : i < l.length) (x : α) :
    Own (w.setCells g (i * size) (f x)) base e size f (l.set i x) (some ⟨g, 0, none⟩) c := by
  obtain ⟨cur, h1, h2, h3, h4, h5, h6⟩ := h.parts
  have hle : i * size + size ≤ l.length * size := by rw [← Nat.succ_mul]; exact Nat.mul_le_mul_right _ hi
  have hlc : l.length * size ≤ c * size := Nat.mul_le_mul_right _ h3
  refine Own.of_parts hf (cur := spl cur (i * size) (f x)) h1 (heap_spl _ _ _ _ h2) (by simpa using h3) h4 (by rw [spl_size]; exact h5) ?_
  have hcl : cur.toList.length = c * size := by simpa using h5
  rw [spl_list, List.length_set, setAll_take _ _ _ _ (by rw [hf]; exact hle) (by rw [hcl]; exact hlc), h6, flat_set f size hf l i x hi]
/-- Fewer of them. -/
theorem Own.cut (h : Own w base e size f l (some ⟨g, 0, none⟩) c) (hf : ∀ a, (f a).length = size) {k : Nat} (hk : k ≤ l.length) : Own w base e size f (l.take k) (some ⟨g, 0, none⟩) c := by
  obtain ⟨cur, h1, h2, h3, h4, h5, h6⟩ := h.parts
  have hkl : (l.take k).length = k := by simp; omega
  refine Own.of_parts hf h1 h2 (by omega) h4 h5 ?_
  rw [hkl]
  have := congrArg (List.take (k * size)) h6
  rw [List.take_take, Nat.min_eq_left (Nat.mul_le_mul_right _ hk)] at this
  rw [this]
  have e1 : l.flatMap f = (l.take k).flatMap f ++ (l.drop k).flatMap f := by rw [← List.flatMap_append, List.take_append_drop]
  rw [e1, List.take_left' (by rw [flat_len f size hf, hkl])]
/-- What lies behind them may turn. -/
theorem Own.behind (h : Own w base e size f l (some ⟨g, 0, none⟩) c) (hf : ∀ a, (f a).length = size) {o : Nat} (ho : l.length * size ≤ o) (vs : List Value) (hv : o + vs.length ≤ c * size) : Own (w.setCells g o vs) base e size f l (some ⟨g, 0, none⟩) c := by
  obtain ⟨cur, h1, h2, h3, h4, h5, h6⟩ := h.parts
  refine Own.of_parts hf (cur := spl cur o vs) h1 (heap_spl _ _ _ _ h2) h3 h4 (by rw [spl_size]; exact h5) ?_
  have hcl : cur.toList.length = c * size := by simpa using h5
  rw [spl_list, setAll_eq _ _ _ (by rw [hcl]; exact hv), List.append_assoc, List.take_append_of_le_length (by simp; omega), List.take_take, Nat.min_eq_left ho, h6]
/-- Elements are stored behind a part of them. -/
theorem Own.onto (h : Own w base e size f l (some ⟨g, 0, none⟩) c) (hf : ∀ a, (f a).length = size) (l2 : List α) (hc : l.length + l2.length ≤ c) : Own (w.setCells g (l.length * size) (l2.flatMap f)) base e size f (l ++ l2) (some ⟨g, 0, none⟩) c := by
  obtain ⟨cur, h1, h2, h3, h4, h5, h6⟩ := h.parts
  have hl2 : (l2.flatMap f).length = l2.length * size := flat_len f size hf l2
  have hle : l.length * size + l2.length * size ≤ c * size := by rw [← Nat.add_mul]; exact Nat.mul_le_mul_right _ hc
  refine Own.of_parts hf (cur := spl cur (l.length * size) (l2.flatMap f)) h1 (heap_spl _ _ _ _ h2) (by simpa using hc) h4 (by rw [spl_size]; exact h5) ?_
  have hcl : cur.toList.length = c * size := by simpa using h5
  rw [spl_list, setAll_eq _ _ _ (by rw [hcl, hl2]; exact hle), List.length_append, Nat.add_mul, List.flatMap_append, List.take_append, h6]
  have e1 : (l.flatMap f ++ l2.flatMap f).length = l.length * size + l2.length * size := by rw [List.length_append, flat_len f size hf, hl2]
  rw [e1, Nat.sub_self, List.take_zero, List.append_nil, List.take_of_length_le (by rw [e1]; exact Nat.le_refl _)]
theorem Own.cells_ (h : Own w base e size f l (some ⟨g, 0, none⟩) c) (j : Nat) (hj : j < c * size) : (w.cell? ⟨g, j, none⟩).isSome = true ∧ w.frozen? ⟨g, j, none⟩ = false := by
  obtain ⟨cur, h1, h2, h3, h4, h5, h6⟩ := h.parts
  refine ⟨?_, frozen_of_row w g j cur e h2⟩
  rw [cell_of_row _ _ j _ _ _ h2]
  simp; omega
end

/-- A slice whose cells are there, in a block from base on, and may be stored to. -/
def Room (w : World) (base size : Nat) (A : Option Addr) (n : Nat) : Prop :=
  0 < n → ∃ b off cs t, A = some ⟨b, off, none⟩ ∧ base ≤ b ∧ w.heap[b]? = some (.cells cs t (0, 0)) ∧ off + n * size ≤ cs.size
theorem Room.none_ {w : World} {base size : Nat} {A : Option Addr} : Room w base size A 0 := fun h => by omega
theorem Room.of_own {α : Type} {w : World} {base : Nat} {e : TypeId} {size : Nat} {f : α → List Value} {l : List α} {A : Option Addr} {c : Nat} (h : Own w base e size f l A c) : Room w base size A l.length := fun hl => by
  obtain ⟨g, rfl, h1, h2, _⟩ := h.spot hl
  obtain ⟨cur, _, h4, h5, _, h7, _⟩ := h.parts
  refine ⟨g, 0, cur, e, rfl, h1, h4, ?_⟩
  rw [h7, Nat.zero_add]
  exact Nat.mul_le_mul_right _ h5
theorem Room.set_ {w : World} {base size : Nat} {A : Option Addr} {n : Nat} (h : Room w base size A n) (p : Addr) (u : Value) : Room (w.setCell p u) base size A n := fun hn => by
  obtain ⟨b, off, cs, t, h1, h2, h3, h4⟩ := h hn
  by_cases hp : b = p.block
  · obtain ⟨pb, po, ps⟩ := p
    dsimp only at hp
    subst hp
    cases ps with
    | none =>
      refine ⟨b, off, cs.setIfInBounds po u, t, h1, h2, ?_, by simpa using h4⟩
      simp [World.setCell, Array.getElem?_modify, h3]
    | some s =>
      refine ⟨b, off, cs, t, h1, h2, ?_, h4⟩
      simp [World.setCell, Array.getElem?_modify, h3]
  · exact ⟨b, off, cs, t, h1, h2, (heap_set_other hp u).trans h3, h4⟩
theorem Room.sets {base size : Nat} {A : Option Addr} {n g : Nat} : ∀ (vs : List Value) (o : Nat) (w : World), Room w base size A n → Room (w.setCells g o vs) base size A n
  | [], _, _, h => h
  | _ :: vs, o, _, h => Room.sets vs (o + 1) _ (h.set_ _ _)
theorem Room.below {w w' : World} {base size B : Nat} {A : Option Addr} {n : Nat} (h : Room w base size A n) (hb : Below B w w') (hB : w.heap.size ≤ B) : Room w' base size A n := fun hn => by
  obtain ⟨b, off, cs, t, h1, h2, h3, h4⟩ := h hn
  exact ⟨b, off, cs, t, h1, h2, (hb.block b (by have := heap_lt h3; omega)).trans h3, h4⟩
theorem Room.alloc {w : World} {base size : Nat} {A : Option Addr} {n : Nat} (h : Room w base size A n) (o : Obj) : Room (w.alloc o) base size A n := fun hn => by
  obtain ⟨b, off, cs, t, h1, h2, h3, h4⟩ := h hn
  exact ⟨b, off, cs, t, h1, h2, (heap_old w o (heap_lt h3)).trans h3, h4⟩

end Go.Proofs.Ytbaninglcafhhaa
