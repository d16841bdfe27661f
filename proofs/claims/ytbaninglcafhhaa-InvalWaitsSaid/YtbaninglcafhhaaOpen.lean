/-
  What an argument that can be read as data looks like in memory: integers, bools, slices, structs, by their types. Conditions: none but that the argument reads.
  What an argument that can be read as data, and is of the reach of the form, looks like in memory: integers, bools, slices, structs, by their types. Conditions: none but that the argument reads.
-/
import Derived.Test.YtbaninglcafhhaaBase
import Derived.ProofKit
import Derived.Deep.Slices
import Derived.Deep.Fields
import Derived.Deep.DeepHandedRow
namespace Go.Proofs.Ytbaninglcafhhaa
open Go Go.RowKit Go.ChangeShapes Go.WideShapes Go.Deep

/-- A slice: where it lies, its room, its elements. -/
structure Sl (α : Type) where
  addr : Option Addr
  cap : Nat
  list : List α

def Sl.cells {α : Type} (s : Sl α) : List Value := [.slice s.addr s.list.length s.cap]

/-- What reads at this type has these cells, and of memory this holds. -/
def Opens {α : Type} (P : Program) (t : TypeId) (f : α → List Value) (D : World → α → Prop) : Prop :=
  ∀ (w : World) (H : Type) (enc : TypeId × Value → H) (fuel : Nat) (cs : List Value) (x : DataW H × List MemPlace), DataW.trod enc P w 0 (fun _ => true) true fuel t cs = some x → ∃ a, cs = f a ∧ D w a

variable {P : Program} {t e : TypeId}

theorem opens_int {k : IntKind} (ht : P.underlying t = some (.int k)) : Opens P t (fun n : Int => [.int k n]) (fun _ n => (Lit.int k n).wf = true) := by
  intro w H enc fuel cs x h
  obtain ⟨n, e, _, hw⟩ := DataW.trod_int ht h
  exact ⟨n, e, hw⟩

theorem opens_bool (ht : P.underlying t = some .bool) : Opens P t (fun b : Bool => [.bool b]) (fun _ _ => True) := by
  intro w H enc fuel cs x h
  obtain ⟨b, e, _⟩ := DataW.trod_bool ht h
  exact ⟨b, e, trivial⟩

theorem list_of {β : Type} {n : Nat} {R : Nat → β → Prop} (h : ∀ i, i < n → ∃ x, R i x) : ∃ l : List β, l.length = n ∧ ∀ i (hi : i < l.length), R i l[i] := by
  induction n with
  | zero => exact ⟨[], rfl, fun i hi => by simp at hi⟩
  | succ n ih =>
    obtain ⟨l, hl, hr⟩ := ih fun i hi => h i (by omega)
    obtain ⟨x, hx⟩ := h n (by omega)
    refine ⟨l ++ [x], by simp [hl], fun i hi => ?_⟩
    by_cases hin : i < l.length
    · rw [List.getElem_append_left hin]; exact hr i hin
    · have : i = n := by simp at hi; omega
      subst this
      rw [List.getElem_append_right (by omega)]
      simpa [hl] using hx

theorem opens_slice {α : Type} {f : α → List Value} {D : World → α → Prop} {size : Nat} (ht : P.underlying t = some (.slice e)) (hC : P.cellsOf e = size) (hpos : 0 < size) (hD : Opens P e f D) :
    Opens P t (Sl.cells (α := α)) (fun w s => s.list.length ≤ s.cap ∧ s.cap ≤ maxLen ∧ At w s.addr size f s.list ∧ ∀ a ∈ s.list, D w a) := by
  intro w H enc fuel cs x h
  rcases open_slice ht h with ⟨hcs, _⟩ | ⟨a, len, cap, m, n, Dd, Pl, hcs, _, hl, hm, hmm, _, hi⟩
  · exact ⟨⟨none, 0, []⟩, hcs, Nat.le_refl _, Nat.zero_le _, At.nil, fun a ha => by cases ha⟩
  · have hlen : len ≤ m := by rw [hmm]; split <;> omega
    have hex : ∀ i, i < len → ∃ y : α, (∀ j u, (f y)[j]? = some u → w.cell? ((a.add (i * size)).add j) = some u) ∧ (f y).length = size ∧ D w y := by
      intro i hi'
      obtain ⟨cs', hc, htr⟩ := hi i (by omega)
      rw [hC] at hc
      obtain ⟨_, hcl, hat⟩ := World.cells?_some hc
      obtain ⟨y, hy, hd⟩ := hD w H enc n cs' _ htr
      subst hy
      refine ⟨y, fun j u hu => ?_, hcl, hd⟩
      have hj : j < (f y).length := (List.getElem?_eq_some_iff.1 hu).1
      have h1 := hat j (by omega)
      rw [h1]
      exact hu
    obtain ⟨l, hll, hr⟩ := list_of hex
    refine ⟨⟨some a, cap, l⟩, by rw [hcs]; simp [Sl.cells, hll], by simpa [hll] using hl, hm, ?_, ?_⟩
    · intro h0
      have h0' : 0 < l.length := h0
      obtain ⟨hc, hs, _⟩ := hr 0 h0'
      have hu : (f l[0])[0]? = some ((f l[0])[0]'(by omega)) := List.getElem?_eq_getElem (by omega)
      have h1 := hc 0 _ hu
      obtain ⟨b, off, spot⟩ := a
      have hspot : spot = none := by simpa [Addr.add] using World.cell?_spot h1
      subst hspot
      refine ⟨b, off, rfl, ?_, ?_⟩
      · have h2 : w.cell? ⟨b, off, none⟩ = some ((f l[0])[0]'(by omega)) := by simpa [Addr.add] using h1
        rcases Nat.lt_or_ge b w.heap.size with hb | hb
        · exact hb
        · simp [World.cell?, Array.getElem?_eq_none hb] at h2
      · intro i hi' j u hju
        have := (hr i hi').1 j u hju
        have e1 : ((⟨b, off, none⟩ : Addr).add (i * size)).add j = ⟨b, off + i * size + j, none⟩ := by
          unfold Addr.add
          by_cases z1 : i * size = 0 <;> by_cases z2 : j = 0 <;> simp [z1, z2]
        rw [← e1]; exact this
    · intro y hy
      obtain ⟨i, hi', rfl⟩ := List.getElem_of_mem hy
      exact (hr i hi').2.2

theorem opens_fields {w : World} {H : Type} {enc : TypeId × Value → H} {fuel : Nat} {cs : List Value} {x : DataW H × List MemPlace} {fs : Array Field} (ht : P.underlying t = some (.struct fs))
    (h : DataW.trod enc P w 0 (fun _ => true) true fuel t cs = some x) :
    cs.length = P.cellsOf t ∧ ∀ (i : Nat) (f : Field), fs[i]? = some f → ∃ n y, DataW.trod enc P w 0 (fun _ => true) true n f.type ((cs.drop f.offset).take (P.cellsOf f.type)) = some y := by
  obtain ⟨xs, n, _, _, hlen, hxl, hf⟩ := DataW.trod_struct ht h
  refine ⟨hlen, fun i f hi => ?_⟩
  have hil : i < xs.length := by rw [hxl]; exact (Array.getElem?_eq_some_iff.1 hi).1
  exact ⟨n, xs[i], by rw [hf i f hi]; exact List.getElem?_eq_getElem hil⟩

/-- One field, by its type, its place and its number of cells. -/
theorem opens_field {w : World} {H : Type} {enc : TypeId × Value → H} {cs : List Value} {fs : Array Field} (hf : ∀ (i : Nat) (f : Field), fs[i]? = some f → ∃ n y, DataW.trod enc P w 0 (fun _ => true) true n f.type ((cs.drop f.offset).take (P.cellsOf f.type)) = some y)
    (i : Nat) (ty : TypeId) (off k : Nat) {f : Field} (hi : fs[i]? = some f) (ht : f.type = ty) (ho : f.offset = off) (hk : P.cellsOf ty = k) : ∃ n y, DataW.trod enc P w 0 (fun _ => true) true n ty ((cs.drop off).take k) = some y := by
  subst ht ho hk
  exact hf i f hi

end Go.Proofs.Ytbaninglcafhhaa

namespace Go.Proofs.Ytbaninglcafhhaa
open Go Go.RowKit Go.ChangeShapes Go.WideShapes Go.Deep

/-- What reads at this type, and weighs no more than the form lets, has these cells, and of memory this holds. -/
def OpensW {α : Type} (P : Program) (t : TypeId) (f : α → List Value) (D : World → α → Prop) : Prop :=
  ∀ (w : World) (H : Type) (enc : TypeId × Value → H) (fuel : Nat) (cs : List Value) (x : DataW H × List MemPlace), DataW.trod enc P w 0 (fun _ => true) true fuel t cs = some x → (∀ n ∈ x.1.weights P t, n ≤ reachBytes) → ∃ a, cs = f a ∧ D w a

variable {P : Program} {t e : TypeId}

theorem opensW_of {α : Type} {f : α → List Value} {D : World → α → Prop} (h : Opens P t f D) : OpensW P t f D := fun w H enc fuel cs x hx _ => h w H enc fuel cs x hx

theorem weightsAll_mem {H : Type} {d : DataW H} {n : Nat} : ∀ {l : List (DataW H)}, d ∈ l → n ∈ d.weights P e → n ∈ DataW.weightsAll P e l
  | [], h, _ => by cases h
  | c :: l, h, hn => by
    unfold DataW.weightsAll
    rcases List.mem_cons.1 h with rfl | h
    · exact List.mem_append_left _ hn
    · exact List.mem_append_right _ (weightsAll_mem h hn)
theorem weightsEach_mem {H : Type} {d : DataW H} {n : Nat} {t : TypeId} : ∀ {ts : List TypeId} {l : List (DataW H)} {i : Nat}, ts[i]? = some t → l[i]? = some d → n ∈ d.weights P t → n ∈ DataW.weightsEach P ts l
  | [], _, _, h, _, _ => by simp at h
  | _ :: _, [], _, _, h, _ => by simp at h
  | u :: ts, c :: l, 0, h1, h2, hn => by
    simp only [List.getElem?_cons_zero, Option.some.injEq] at h1 h2
    subst h1 h2
    unfold DataW.weightsEach
    exact List.mem_append_left _ hn
  | u :: ts, c :: l, i + 1, h1, h2, hn => by
    unfold DataW.weightsEach
    exact List.mem_append_right _ (weightsEach_mem (by simpa using h1) (by simpa using h2) hn)

theorem opensW_slice {α : Type} {f : α → List Value} {D : World → α → Prop} {size bytes : Nat} (ht : P.underlying t = some (.slice e)) (hC : P.cellsOf e = size) (hpos : 0 < size) (hby : P.bytesOf e = bytes) (hD : OpensW P e f D) :
    OpensW P t (Sl.cells (α := α)) (fun w s => s.list.length ≤ s.cap ∧ s.cap * bytes ≤ reachBytes ∧ At w s.addr size f s.list ∧ ∀ a ∈ s.list, D w a) := by
  intro w H enc fuel cs x h hwt
  rcases open_slice ht h with ⟨hcs, _⟩ | ⟨a, len, cap, m, n, Dd, Pl, hcs, _, hl, hm, hmm, hx, hi⟩
  · exact ⟨⟨none, 0, []⟩, hcs, Nat.le_refl _, by simp [reachBytes], At.nil, fun a ha => by cases ha⟩
  · have hmc : m = cap := by rw [hmm]; rfl
    subst hmc
    rw [hx] at hwt
    unfold DataW.weights at hwt
    simp only [ht] at hwt
    have hex : ∀ i, i < len → ∃ y : α, (∀ j u, (f y)[j]? = some u → w.cell? ((a.add (i * size)).add j) = some u) ∧ (f y).length = size ∧ D w y := by
      intro i hi'
      obtain ⟨cs', hc, htr⟩ := hi i (by omega)
      rw [hC] at hc
      obtain ⟨_, hcl, hat⟩ := World.cells?_some hc
      obtain ⟨y, hy, hd⟩ := hD w H enc n cs' _ htr (fun k hk => hwt k (List.mem_cons_of_mem _ (List.mem_append_left _ (weightsAll_mem (List.mem_map.2 ⟨i, List.mem_range.2 hi', rfl⟩) hk))))
      subst hy
      refine ⟨y, fun j u hu => ?_, hcl, hd⟩
      have hj : j < (f y).length := (List.getElem?_eq_some_iff.1 hu).1
      have h1 := hat j (by omega)
      rw [h1]
      exact hu
    have hcap : m * bytes ≤ reachBytes := by
      have h1 := hwt _ (List.mem_cons_self ..)
      simp only [List.length_map, List.length_range, hby] at h1
      rwa [show len + (m - len) = m by omega] at h1
    obtain ⟨l, hll, hr⟩ := list_of hex
    refine ⟨⟨some a, m, l⟩, by rw [hcs]; simp [Sl.cells, hll], by simpa [hll] using hl, hcap, ?_, ?_⟩
    · intro h0
      have h0' : 0 < l.length := h0
      obtain ⟨hc, hs, _⟩ := hr 0 h0'
      have hu : (f l[0])[0]? = some ((f l[0])[0]'(by omega)) := List.getElem?_eq_getElem (by omega)
      have h1 := hc 0 _ hu
      obtain ⟨b, off, spot⟩ := a
      have hspot : spot = none := by simpa [Addr.add] using World.cell?_spot h1
      subst hspot
      refine ⟨b, off, rfl, ?_, ?_⟩
      · have h2 : w.cell? ⟨b, off, none⟩ = some ((f l[0])[0]'(by omega)) := by simpa [Addr.add] using h1
        rcases Nat.lt_or_ge b w.heap.size with hb | hb
        · exact hb
        · simp [World.cell?, Array.getElem?_eq_none hb] at h2
      · intro i hi' j u hju
        have := (hr i hi').1 j u hju
        have e1 : ((⟨b, off, none⟩ : Addr).add (i * size)).add j = ⟨b, off + i * size + j, none⟩ := by
          unfold Addr.add
          by_cases z1 : i * size = 0 <;> by_cases z2 : j = 0 <;> simp [z1, z2]
        rw [← e1]; exact this
    · intro y hy
      obtain ⟨i, hi', rfl⟩ := List.getElem_of_mem hy
      exact (hr i hi').2.2

theorem opensW_fields {w : World} {H : Type} {enc : TypeId × Value → H} {fuel : Nat} {cs : List Value} {x : DataW H × List MemPlace} {fs : Array Field} (ht : P.underlying t = some (.struct fs))
    (h : DataW.trod enc P w 0 (fun _ => true) true fuel t cs = some x) (hw : ∀ n ∈ x.1.weights P t, n ≤ reachBytes) :
    cs.length = P.cellsOf t ∧ ∀ (i : Nat) (f : Field), fs[i]? = some f → ∃ n y, DataW.trod enc P w 0 (fun _ => true) true n f.type ((cs.drop f.offset).take (P.cellsOf f.type)) = some y ∧ ∀ n ∈ y.1.weights P f.type, n ≤ reachBytes := by
  obtain ⟨xs, n, _, hx, hlen, hxl, hf⟩ := DataW.trod_struct ht h
  refine ⟨hlen, fun i f hi => ?_⟩
  have hil : i < xs.length := by rw [hxl]; exact (Array.getElem?_eq_some_iff.1 hi).1
  refine ⟨n, xs[i], by rw [hf i f hi]; exact List.getElem?_eq_getElem hil, fun k hk => hw k ?_⟩
  rw [hx]
  unfold DataW.weights
  simp only [ht]
  refine weightsEach_mem (i := i) (t := f.type) (d := xs[i].1) ?_ ?_ hk
  · simp [hi]
  · simp [List.getElem?_eq_getElem hil]

/-- One field, by its type, its place and its number of cells. -/
theorem opensW_field {w : World} {H : Type} {enc : TypeId × Value → H} {cs : List Value} {fs : Array Field} (hf : ∀ (i : Nat) (f : Field), fs[i]? = some f → ∃ n y, DataW.trod enc P w 0 (fun _ => true) true n f.type ((cs.drop f.offset).take (P.cellsOf f.type)) = some y ∧ ∀ n ∈ y.1.weights P f.type, n ≤ reachBytes)
    (i : Nat) (ty : TypeId) (off k : Nat) {f : Field} (hi : fs[i]? = some f) (ht : f.type = ty) (ho : f.offset = off) (hk : P.cellsOf ty = k) : ∃ n y, DataW.trod enc P w 0 (fun _ => true) true n ty ((cs.drop off).take k) = some y ∧ ∀ n ∈ y.1.weights P ty, n ≤ reachBytes := by
  subst ht ho hk
  exact hf i f hi

theorem weights_one {H : Type} {d : DataW H} (h : (DataW.weightsEach P [t] [d]).all (· ≤ reachBytes) = true) : ∀ n ∈ d.weights P t, n ≤ reachBytes := by
  intro n hn
  have := List.all_eq_true.1 h n (weightsEach_mem (i := 0) rfl rfl hn)
  simpa using this

end Go.Proofs.Ytbaninglcafhhaa
