/-
  A row of the call's own that reads as a list of elements: what keeps it, a store into it.
-/
import Derived.Test.YtbaninglcafhhaaSlice
import Derived.Lib.SliceRun
import Derived.Laws.CopyRow
import Derived.Laws.CopyOwn
namespace Go.Proofs.Ytbaninglcafhhaa
open Go Go.RowKit

/-- A slice of the call's own: its row begins a block from base on. -/
def Own {α : Type} (w : World) (base : Nat) (e : TypeId) (size : Nat) (f : α → List Value) (l : List α) (A : Option Addr) (c : Nat) : Prop :=
  w.ownsRow base e size (.slice A l.length c) l.length (l.flatMap f)
theorem own_form {α : Type} {w : World} {base : Nat} {e : TypeId} {size : Nat} {f : α → List Value} {l : List α} {v : Value} (h : w.ownsRow base e size v l.length (l.flatMap f)) :
    ∃ A c, v = .slice A l.length c ∧ Own w base e size f l A c := by
  have h0 := h
  rcases h.2 with ⟨rfl, h1⟩ | ⟨g, cap, cur, rfl, _⟩
  · have hl : l = [] := List.eq_nil_of_length_eq_zero h1
    subst hl
    exact ⟨_, _, rfl, h0⟩
  · exact ⟨_, _, rfl, h0⟩
section
variable {α : Type} {w w' : World} {base B : Nat} {e : TypeId} {size : Nat} {f : α → List Value} {l : List α} {A : Option Addr} {c : Nat}
theorem Own.block_ (h : Own w base e size f l A c) {p : Addr} (hA : A = some p) : base ≤ p.block ∧ p.block < w.heap.size := World.ownsRow.lt h p.block (by rw [hA]; rfl)
theorem Own.keep (h : Own w base e size f l A c) (hk : ∀ g, base ≤ g → g < w.heap.size → (∀ p : Addr, A = some p → p.block = g) → w'.heap[g]? = w.heap[g]?) : Own w' base e size f l A c := by
  refine ⟨h.1, ?_⟩
  rcases h.2 with ⟨h1, h2⟩ | ⟨g, cap, cur, h1, h2, h3, h4⟩
  · exact .inl ⟨h1, h2⟩
  · have hA : A = some ⟨g, 0, none⟩ := by injection h1
    exact .inr ⟨g, cap, cur, h1, h2, (hk g h2 (heap_lt h3) (fun p hp => by rw [hA] at hp; injection hp with hp; rw [← hp])).trans h3, h4⟩
theorem Own.below (h : Own w base e size f l A c) (hb : Below B w w') (hB : w.heap.size ≤ B) : Own w' base e size f l A c := h.keep fun g _ h2 _ => hb.block g (by omega)
theorem Own.set_far (h : Own w base e size f l A c) {p : Addr} (hp : p.block < base) (u : Value) : Own (w.setCell p u) base e size f l A c := h.keep fun g h1 _ _ => Below.heap_setCell w p u g (by omega)
theorem Own.mono (h : Own w base e size f l A c) {base' : Nat} (hb : base' ≤ base) : Own w base' e size f l A c := by
  refine ⟨h.1, ?_⟩
  rcases h.2 with ⟨h1, h2⟩ | ⟨g, cap, cur, h1, h2, h3⟩
  · exact .inl ⟨h1, h2⟩
  · exact .inr ⟨g, cap, cur, h1, by omega, h3⟩
theorem Own.alloc (h : Own w base e size f l A c) (o : Obj) : Own (w.alloc o) base e size f l A c := h.keep fun _ _ h2 _ => heap_old w o h2
theorem Own.len (h : Own w base e size f l A c) {l' : List α} (hl : l = l') : Own w base e size f l' A c := hl ▸ h
theorem Own.drew (h : Own w base e size f l A c) : Own w.drew base e size f l A c := h
theorem Own.at_ (h : Own w base e size f l A c) (hf : ∀ a, (f a).length = size) : At w A size f l := At.of_own h hf
/-- A row that is not empty: where it lies. -/
theorem Own.spot (h : Own w base e size f l A c) (hl : 0 < l.length) : ∃ g, A = some ⟨g, 0, none⟩ ∧ base ≤ g ∧ g < w.heap.size ∧ (∀ i, w.frozen? ⟨g, i, none⟩ = false) := by
  rcases h.2 with ⟨h1, h2⟩ | ⟨g, cap, cur, h1, h2, h3, h4⟩
  · omega
  · exact ⟨g, by injection h1, h2, heap_lt h3, fun i => frozen_of_row w g i cur e h3⟩
theorem Own.cell {g : Nat} (h : Own w base e size f l (some ⟨g, 0, none⟩) c) (hf : ∀ a, (f a).length = size) {i j : Nat} (hi : i < l.length) {u : Value} (hu : (f l[i])[j]? = some u) : w.cell? ⟨g, i * size + j, none⟩ = some u := by
  obtain ⟨b, off, hA, _, hc⟩ := h.at_ hf (by omega)
  injection hA with hA
  injection hA with h1 h2
  subst h1 h2
  simpa using hc i hi j u hu
theorem flat_set1 (f : α → List Value) (hf : ∀ a, (f a).length = 1) : ∀ (l : List α) (i : Nat) (x : α) (u : Value), f x = [u] → (l.flatMap f).set i u = (l.set i x).flatMap f
  | [], _, _, _, _ => by simp
  | a :: l, 0, x, u, hu => by
    obtain ⟨v, hv⟩ := List.length_eq_one_iff.1 (hf a)
    simp [hv, hu]
  | a :: l, i + 1, x, u, hu => by
    obtain ⟨v, hv⟩ := List.length_eq_one_iff.1 (hf a)
    simp [hv, flat_set1 f hf l i x u hu]
/-- One element, of one cell, is stored. -/
theorem Own.set1 {g : Nat} (h : Own w base e 1 f l (some ⟨g, 0, none⟩) c) (hf : ∀ a, (f a).length = 1) {i : Nat} (x : α) (u : Value) (hu : f x = [u]) :
    Own (w.setCell ⟨g, i, none⟩ u) base e 1 f (l.set i x) (some ⟨g, 0, none⟩) c := by
  refine ⟨by rw [flat_len f 1 hf], ?_⟩
  rcases h.2 with ⟨h1, h2⟩ | ⟨g', cap, cur, h1, h2, h3, h4, h5, h6, h7⟩
  · injection h1 with h1; cases h1
  · injection h1 with h1 _ h1'
    injection h1 with h1; injection h1 with h1
    subst h1 h1'
    refine .inr ⟨g, c, cur.setIfInBounds i u, by rw [List.length_set], h2, heap_set_same h3 i u, by rw [List.length_set]; exact h4, h5, by simpa using h6, ?_⟩
    rw [Array.toList_setIfInBounds, List.take_set, List.length_set, h7, flat_set1 f hf l i x u hu]
end

/-- Some elements in a row, each in its place. -/
def setAll {α : Type} : List α → Nat → List α → List α
  | l, _, [] => l
  | l, o, x :: xs => setAll (l.set o x) (o + 1) xs
theorem setAll_len {α : Type} : ∀ (xs : List α) (l : List α) (o : Nat), (setAll l o xs).length = l.length
  | [], _, _ => rfl
  | x :: xs, l, o => by rw [setAll, setAll_len xs]; simp
theorem setAll_snoc {α : Type} (x : α) : ∀ (xs : List α) (l : List α) (o : Nat), setAll l o (xs ++ [x]) = (setAll l o xs).set (o + xs.length) x
  | [], l, o => rfl
  | y :: xs, l, o => by
    show setAll (l.set o y) (o + 1) (xs ++ [x]) = (setAll (l.set o y) (o + 1) xs).set (o + (xs.length + 1)) x
    rw [setAll_snoc x xs, show o + (xs.length + 1) = o + 1 + xs.length by omega]
theorem setAll_get {α : Type} : ∀ (xs : List α) (l : List α) (o i : Nat), (setAll l o xs)[i]? = if o ≤ i ∧ i < o + xs.length ∧ i < l.length then xs[i - o]? else l[i]?
  | [], l, o, i => by
    rw [setAll, if_neg (by simp; omega)]
  | x :: xs, l, o, i => by
    rw [setAll, setAll_get xs, List.length_set]
    by_cases h1 : o + 1 ≤ i ∧ i < o + 1 + xs.length ∧ i < l.length
    · rw [if_pos h1, if_pos (by simp; omega), show i - o = (i - (o + 1)) + 1 by omega, List.getElem?_cons_succ]
    · rw [if_neg h1, List.getElem?_set]
      by_cases h2 : o = i
      · subst h2
        by_cases h3 : o < l.length
        · rw [if_pos rfl, if_pos h3, if_pos ⟨Nat.le_refl _, by simp, h3⟩]; simp
        · rw [if_pos rfl, if_neg h3, if_neg (by omega)]
          exact (List.getElem?_eq_none (by omega)).symm
      · rw [if_neg h2, if_neg (by simp; omega)]
theorem setAll_eq {α : Type} (xs : List α) (l : List α) (o : Nat) (h : o + xs.length ≤ l.length) : setAll l o xs = l.take o ++ xs ++ l.drop (o + xs.length) := by
  apply List.ext_getElem?
  intro i
  rw [setAll_get]
  simp only [List.getElem?_append, List.length_append, List.length_take, List.getElem?_take, List.getElem?_drop]
  by_cases h1 : o ≤ i ∧ i < o + xs.length ∧ i < l.length
  · rw [if_pos h1, if_pos (by omega), if_neg (by omega), show i - min o l.length = i - o by omega]
  · rw [if_neg h1]
    by_cases h2 : i < o
    · rw [if_pos (by omega), if_pos (by omega), if_pos h2]
    · rw [if_neg (by omega)]
      congr 1
      omega

theorem flat_one {α : Type} {f : α → List Value} (u : α → Value) (hu : ∀ x, f x = [u x]) : ∀ l : List α, l.flatMap f = l.map u
  | [] => rfl
  | a :: l => by rw [List.flatMap_cons, hu, flat_one u hu l]; rfl
theorem take_splice {α : Type} (cur ys : List α) (o n : Nat) (h : o + ys.length ≤ n) (hn : n ≤ cur.length) : (cur.take o ++ ys ++ cur.drop (o + ys.length)).take n = (cur.take n).take o ++ ys ++ (cur.take n).drop (o + ys.length) := by
  have h1 : (cur.take o).length = o := by simp; omega
  rw [List.append_assoc, List.take_append, List.take_append, h1, List.take_of_length_le (l := cur.take o) (by omega), List.take_of_length_le (l := ys) (by omega), List.take_take, List.drop_take, Nat.min_eq_left (by omega), List.append_assoc, show n - o - ys.length = n - (o + ys.length) by omega]

section
variable {α : Type} {base : Nat} {e : TypeId} {f : α → List Value} {c g : Nat}
theorem Own.setMany (hf : ∀ a, (f a).length = 1) (u : α → Value) (hu : ∀ x, f x = [u x]) : ∀ (xs : List α) (l : List α) (o : Nat) (w : World), Own w base e 1 f l (some ⟨g, 0, none⟩) c → Own (w.setCells g o (xs.map u)) base e 1 f (setAll l o xs) (some ⟨g, 0, none⟩) c
  | [], _, _, _, h => h
  | x :: xs, l, o, _, h => Own.setMany hf u hu xs (l.set o x) (o + 1) _ (h.set1 hf x (u x) (hu x))
theorem Own.row_ {w : World} {l : List α} (h : Own w base e 1 f l (some ⟨g, 0, none⟩) c) : ∃ cur : Array Value, w.heap[g]? = some (.cells cur e (0, 0)) ∧ l.length ≤ cur.size := by
  rcases h.2 with ⟨h1, h2⟩ | ⟨g', cap, cur', h1, h2, h3, h4, h5, h6, h7⟩
  · injection h1 with h1; cases h1
  · injection h1 with h1
    injection h1 with h1; injection h1 with h1
    subst h1
    exact ⟨cur', h3, by omega⟩
theorem Own.cap_ {w : World} {A : Option Addr} {size : Nat} {l : List α} (h : Own w base e size f l A c) : l.length ≤ c := by
  rcases h.2 with ⟨h1, h2⟩ | ⟨g', cap, cur', h1, h2, h3, h4, h5⟩
  · omega
  · injection h1 with h1 _ h1'
    omega
theorem Own.some_ {w : World} {l : List α} (h : Own w base e 1 f l (some ⟨g, 0, none⟩) c) (i : Nat) (hi : i < l.length) : (w.cell? ⟨g, i, none⟩).isSome = true ∧ w.frozen? ⟨g, i, none⟩ = false := by
  obtain ⟨cur, h1, h2⟩ := h.row_
  refine ⟨?_, frozen_of_row w g i cur e h1⟩
  rw [cell_of_row _ _ i _ _ _ h1]
  simp; omega
theorem Own.setRow_ {w : World} {l : List α} (h : Own w base e 1 f l (some ⟨g, 0, none⟩) c) (u : α → Value) (hu : ∀ x, f x = [u x]) (cur : Array Value) (hg : w.heap[g]? = some (.cells cur e (0, 0))) (xs : List α) (o : Nat) (ho : o + xs.length ≤ l.length) :
    Own (w.setRow g (cur.toList.take o ++ xs.map u ++ cur.toList.drop (o + (xs.map u).length)).toArray) base e 1 f (setAll l o xs) (some ⟨g, 0, none⟩) c := by
  refine ⟨by rw [flat_len f 1 (fun a => by rw [hu]; rfl)], ?_⟩
  rcases h.2 with ⟨h1, h2⟩ | ⟨g', cap, cur', h1, h2, h3, h4, h5, h6, h7⟩
  · injection h1 with h1; cases h1
  · injection h1 with h1 _ h1'
    injection h1 with h1; injection h1 with h1
    subst h1 h1'
    rw [hg] at h3
    injection h3 with h3; injection h3 with h3
    subst h3
    refine .inr ⟨g, c, _, by rw [setAll_len], h2, setRow_heap w g cur _ e (0, 0) hg, by rw [setAll_len]; exact h4, h5, ?_, ?_⟩
    · have hc : cur.toList.length = c * 1 := by simpa using h6
      simp only [List.size_toArray, List.length_append, List.length_take, List.length_map, List.length_drop, hc]
      omega
    · rw [flat_one u hu] at h7 ⊢
      rw [setAll_len, setAll_eq xs l o ho]
      simp only [Nat.mul_one] at h7 ⊢
      rw [take_splice _ _ _ _ (by simpa using ho) (by simp; omega), h7]
      simp
theorem below_cells {B : Nat} {w0 : World} (hg : B ≤ g) : ∀ (vs : List Value) (o : Nat) (w : World), Below B w0 w → Below B w0 (w.setCells g o vs)
  | [], _, _, h => h
  | v :: vs, o, w, h => below_cells hg vs (o + 1) _ (h.setCell (by simpa using hg) v)
theorem size_cells : ∀ (vs : List Value) (o : Nat) (w : World), (w.setCells g o vs).heap.size = w.heap.size
  | [], _, _ => rfl
  | v :: vs, o, w => (size_cells vs (o + 1) _).trans (size_set w _ v)
theorem heap_cells {k : Nat} (hk : k ≠ g) : ∀ (vs : List Value) (o : Nat) (w : World), (w.setCells g o vs).heap[k]? = w.heap[k]?
  | [], _, _ => rfl
  | v :: vs, o, _ => (heap_cells hk vs (o + 1) _).trans (heap_set_other hk v)
end

theorem flat_rep {α : Type} {f : α → List Value} (x : α) (z : Value) (hx : f x = [z]) : ∀ n, (List.replicate n x).flatMap f = List.replicate n z
  | 0 => rfl
  | n + 1 => by rw [List.replicate_succ, List.flatMap_cons, hx, flat_rep x z hx n, List.replicate_succ]; rfl
theorem made_list (z : Value) (n : Nat) : (madeCells #[z] n).toList = List.replicate n z := by
  apply List.ext_getElem
  · simp [madeCells]
  · intro i h1 h2
    simp [madeCells, Nat.mod_one]
/-- A row that was made: noughts all over. -/
theorem Own.made {α : Type} {base : Nat} {e : TypeId} {f : α → List Value} (w : World) (z : Value) (x : α) (hx : f x = [z]) (n : Nat) (hn : n ≤ maxLen) (hb : base ≤ w.heap.size) :
    Own (w.alloc (.cells (madeCells #[z] n) e)) base e 1 f (List.replicate n x) (some ⟨w.heap.size, 0, none⟩) n := by
  have h := World.ownsRow_lit (base := base) (size := 1) (e := e) w (madeCells #[z] n) n hb hn (by simp [madeCells])
  unfold Own
  rw [List.length_replicate]
  rw [flat_rep x z hx, ← made_list]
  exact h

/-- One element more: it lies in a block that was just made. -/
theorem wpList_push {P : Program} {w : World} {ops : Array Oper} {rest : List Oper} {o : Oper} {a : Act} {Q : Exit → Act → World → Prop} (hgd : o.guard = none) (s x : Operand) (t : TypeId)
    (ho : o.op = .call { callee := .builtin .append, args := #[s, x], argTypes := #[t, t] })
    (base : Nat) (e : TypeId) (i : TypeInfo) (z : Value) (size bytes : Nat) (ht : P.underlying t = some (.slice e)) (hi : P.info? e = some i) (hz : i.zero = some z)
    (hsize : i.size = size) (hby : i.bytes = bytes) (hzs : z.cells.size = size) (hsz : 0 < size)
    (v : Value) (n : Nat) (xs : List Value) (hs : a.eval s = v) (hown : w.ownsRow base e size v n xs) (news : Array Value) (hnew : news.size = size) (h1 : ∀ u ∈ news.toList, u.oneCell' = true)
    (hx : a.eval x = .slice (some ⟨w.heap.size, 0, none⟩) 1 1)
    (h63 : n + 1 ≤ maxLen) (hbytes : (n + 1) * bytes ≤ 140737488355328) (hbase : base ≤ w.heap.size)
    (h : ∀ v' w', w'.ownsRow base e size v' (n + 1) (xs ++ news.toList) → Below base w w' → wpList P ops Q rest (a.put o.dst v') w') : wpList P ops Q (o :: rest) a (w.alloc (.cells news e)) := by
  have hr : Reads (w.alloc (.cells news e)) (w.heap.size + 1) size (some ⟨w.heap.size, 0, none⟩) 1 news.toList := by
    refine ⟨by simp [hnew], fun _ => ⟨_, rfl, by simp, fun j u hu => ?_⟩⟩
    have e1 : (⟨w.heap.size, 0, none⟩ : Addr).add j = ⟨w.heap.size, j, none⟩ := by
      unfold Addr.add
      by_cases z : j = 0 <;> simp [z]
    rw [e1, cell_of_row _ _ j _ _ _ (heap_new w _)]
    simpa using hu
  refine wpList_append_any _ hgd s x t ho base e i z size bytes ht hi hz hsize hby hzs hsz v n xs hs (hown.alloc _) _ _ 1 1 news.toList hx hr h1 h63 hbytes (by simp; omega) ?_
  intro v' w' hown' hg _
  exact h v' w' hown' (((Below.refl _ _).alloc hbase _).grown hg (by simp; omega) (fun k hk => (hown.lt k hk).1))

end Go.Proofs.Ytbaninglcafhhaa
