/-
  Elements more: they lie in a block that was just made, and are appended to a row of the call's own; a drawn region that makes such a block. Conditions: the sizes fit.
-/
import Derived.Test.YtbaninglcafhhaaOwn
import Derived.Test.YtbaninglcafhhaaNew
namespace Go.Proofs.Ytbaninglcafhhaa
open Go Go.RowKit

theorem block_reads {α : Type} {w : World} {e : TypeId} {size : Nat} {f : α → List Value} {l : List α} {g : Nat} (hf : ∀ a, (f a).length = size) (h : w.heap[g]? = some (.cells (l.flatMap f).toArray e (0, 0))) :
    Reads w w.heap.size size (some ⟨g, 0, none⟩) l.length (l.flatMap f) := by
  refine ⟨flat_len f size hf l, fun _ => ⟨_, rfl, heap_lt h, fun j u hu => ?_⟩⟩
  have e1 : (⟨g, 0, none⟩ : Addr).add j = ⟨g, j, none⟩ := by
    unfold Addr.add
    by_cases z : j = 0 <;> simp [z]
  rw [e1, cell_of_row _ _ j _ _ _ h]
  simpa using hu

/-- A row that was made whole. -/
theorem Own.lit {α : Type} {base : Nat} {e : TypeId} {size : Nat} {f : α → List Value} (w : World) (l : List α) (hf : ∀ a, (f a).length = size) (hb : base ≤ w.heap.size) (hn : l.length ≤ maxLen) :
    Own (w.alloc (.cells (l.flatMap f).toArray e)) base e size f l (some ⟨w.heap.size, 0, none⟩) l.length :=
  World.ownsRow_lit (base := base) (size := size) (e := e) w (l.flatMap f).toArray l.length hb hn (by simp only [List.size_toArray]; exact flat_len f size hf l)

theorem Own.lit_at {α : Type} {base b : Nat} {e : TypeId} {size : Nat} {f : α → List Value} (w : World) (l : List α) (hf : ∀ a, (f a).length = size) (hb : base ≤ w.heap.size) (hn : l.length ≤ maxLen) (hbw : b = w.heap.size) :
    Own (w.alloc (.cells (l.flatMap f).toArray e)) base e size f l (some ⟨b, 0, none⟩) l.length := by
  rw [hbw]; exact Own.lit w l hf hb hn

theorem wpList_more {P : Program} {α : Type} {f : α → List Value} {w : World} {ops : Array Oper} {rest : List Oper} {o : Oper} {a : Act} {Q : Exit → Act → World → Prop} (hgd : o.guard = none) (s x : Operand) (t : TypeId)
    (ho : o.op = .call { callee := .builtin .append, args := #[s, x], argTypes := #[t, t] })
    (base : Nat) (e : TypeId) (i : TypeInfo) (z : Value) (size bytes : Nat) (ht : P.underlying t = some (.slice e)) (hi : P.info? e = some i) (hz : i.zero = some z)
    (hsize : i.size = size) (hby : i.bytes = bytes) (hzs : z.cells.size = size) (hsz : 0 < size) (hf : ∀ a, (f a).length = size) (h1 : ∀ a, ∀ u ∈ f a, u.oneCell' = true)
    (l l2 : List α) (A : Option Addr) (c c2 g : Nat) (hs : a.eval s = .slice A l.length c) (hown : Own w base e size f l A c) (hx : a.eval x = .slice (some ⟨g, 0, none⟩) l2.length c2) (hg : w.heap[g]? = some (.cells (l2.flatMap f).toArray e (0, 0)))
    (h63 : l.length + l2.length ≤ maxLen) (hbytes : (l.length + l2.length) * bytes ≤ 140737488355328) (hbase : base ≤ w.heap.size)
    (h : ∀ A' c' w', Own w' base e size f (l ++ l2) A' c' → Below base w w' → wpList P ops Q rest (a.put o.dst (.slice A' (l.length + l2.length) c')) w') : wpList P ops Q (o :: rest) a w := by
  refine wpList_append_any w hgd s x t ho base e i z size bytes ht hi hz hsize hby hzs hsz _ l.length (l.flatMap f) hs hown _ _ l2.length c2 (l2.flatMap f) hx (block_reads hf hg) ?_ h63 hbytes hbase ?_
  · intro u hu
    obtain ⟨y, _, hy⟩ := List.mem_flatMap.1 hu
    exact h1 y u hy
  · intro v' w' hown' hgr _
    have hown2 : w'.ownsRow base e size v' (l ++ l2).length ((l ++ l2).flatMap f) := by rw [List.length_append, List.flatMap_append]; exact hown'
    obtain ⟨A', c', rfl, ho'⟩ := own_form hown2
    rw [List.length_append] at *
    exact h A' c' w' ho' ((Below.refl _ _).grown hgr hbase (fun k hk => (World.ownsRow.lt hown k hk).1))

section
variable {P : Program} {ops : Array Oper} {md : Region.Mode} {w0 : World} {t : Tmp} {ia : Nat} {F : Nat → Value} {T : TypeId} {Z : Array Value}
theorem newC_end {d : Nat → Bool} {a b : Act} {w : World} (h : NewC w0 t ia F T Z d b w) (h1 : d ia = true) (ho : Off [t] a b) :
    ∃ g, b = a.put (some t) (F g) ∧ w0.heap.size ≤ g ∧ w.heap[g]? = some (.cells Z T (0, 0)) ∧ Below w0.heap.size w0 w := by
  obtain ⟨g, e1, e2, e3⟩ := h.2 h1
  exact ⟨g, off_ptr ho e1, e2, e3, h.1⟩
end
end Go.Proofs.Ytbaninglcafhhaa
