/-
  One element more onto a row of the call's own: what the row is then, and which blocks stay. Conditions: the sizes fit.
-/
import Derived.Test.YtbaninglcafhhaaMore
namespace Go.Proofs.Ytbaninglcafhhaa
open Go Go.RowKit

theorem wpList_one {P : Program} {α : Type} {f : α → List Value} {w : World} {ops : Array Oper} {rest : List Oper} {o : Oper} {a : Act} {Q : Exit → Act → World → Prop} (hgd : o.guard = none) (s x : Operand) (t : TypeId)
    (ho : o.op = .call { callee := .builtin .append, args := #[s, x], argTypes := #[t, t] })
    (base : Nat) (e : TypeId) (i : TypeInfo) (z : Value) (size bytes : Nat) (ht : P.underlying t = some (.slice e)) (hi : P.info? e = some i) (hz : i.zero = some z)
    (hsize : i.size = size) (hby : i.bytes = bytes) (hzs : z.cells.size = size) (hsz : 0 < size) (hf : ∀ a, (f a).length = size) (h1 : ∀ a, ∀ u ∈ f a, u.oneCell' = true)
    (l l' : List α) (y : α) (hl : l' = l ++ [y]) (A : Option Addr) (c : Nat) (hs : a.eval s = .slice A l.length c) (hown : Own w base e size f l A c) (g : Nat) (hx : a.eval x = .slice (some ⟨g, 0, none⟩) 1 1) (hg : w.heap[g]? = some (.cells (f y).toArray e (0, 0)))
    (h63 : l.length + 1 ≤ maxLen) (hbytes : (l.length + 1) * bytes ≤ 140737488355328) (hbase : base ≤ w.heap.size)
    (h : ∀ A' c' w', Own w' base e size f l' A' c' → Below base w w' → (∀ b, b < w.heap.size → (∀ p : Addr, A = some p → p.block ≠ b) → w'.heap[b]? = w.heap[b]?) → wpList P ops Q rest (a.put o.dst (.slice A' l'.length c')) w') : wpList P ops Q (o :: rest) a w := by
  have hr : Reads w w.heap.size size (some ⟨g, 0, none⟩) 1 (f y) := by
    refine ⟨by simp [hf], fun _ => ⟨_, rfl, heap_lt hg, fun j u hu => ?_⟩⟩
    have e1 : (⟨g, 0, none⟩ : Addr).add j = ⟨g, j, none⟩ := by
      unfold Addr.add
      by_cases z : j = 0 <;> simp [z]
    rw [e1, cell_of_row _ _ j _ _ _ hg]
    simpa using hu
  refine wpList_append_any w hgd s x t ho base e i z size bytes ht hi hz hsize hby hzs hsz _ l.length (l.flatMap f) hs hown _ _ 1 1 (f y) hx hr (h1 y) h63 hbytes hbase ?_
  intro v' w' hown' hgr _
  have hown2 : w'.ownsRow base e size v' l'.length (l'.flatMap f) := by rw [hl, List.length_append, List.flatMap_append, List.flatMap_singleton]; exact hown'
  obtain ⟨A', c', rfl, ho'⟩ := own_form hown2
  refine h A' c' w' ho' ((Below.refl _ _).grown hgr hbase (fun k hk => (World.ownsRow.lt hown k hk).1)) (fun b hb hne => hgr.block b hb (fun e => ?_))
  cases A with
  | none => cases e
  | some p =>
    have : b = p.block := by injection e
    exact hne p rfl this.symm
end Go.Proofs.Ytbaninglcafhhaa
