/-
  A drawn region in which one block that is there is stored into once, all else leaves what was there below it: its walk in the order of the text.
-/
import Derived.Test.YtbaninglcafhhaaBase
import Derived.Test.YtbaninglcafhhaaOrder
namespace Go.Proofs.Ytbaninglcafhhaa
open Go Go.RowKit

section
variable {P : Program} {ops : Array Oper} {md : Region.Mode} {W : World} {g si : Nat} {T : TypeId} {Z V : Array Value}

/-- Block g is stored into by operation si; of what lies below it nothing has turned. -/
def PutC (W : World) (g si : Nat) (T : TypeId) (Z V : Array Value) (d : Nat → Bool) (w : World) : Prop :=
  Below g W w ∧ w.heap[g]? = some (.cells (if d si then V else Z) T (0, 0))

theorem putC_start (h : W.heap[g]? = some (.cells Z T (0, 0))) : PutC W g si T Z V (fun _ => false) W.drew := ⟨(Below.refl _ _).drew, h⟩

theorem putC_step {d : Nat → Bool} {i : Nat} {w w' : World} (h : PutC W g si T Z V d w) (hb : Below w.heap.size w w') (h1 : (i == si) = false) : PutC W g si T Z V (done1 d i) w' := by
  have hg := heap_lt h.2
  refine ⟨h.1.trans (hb.mono (Nat.le_of_lt hg)), ?_⟩
  rw [hb.block g hg, h.2]
  have hs : done1 d i si = d si := by
    unfold done1
    rw [show (si == i) = false by rw [Bool.beq_comm] at h1; simpa using h1]
    rfl
  rw [hs]

theorem wpLex_putc {Q : Act → Prop} {o : Oper} {rest : List Oper} {i : Nat} {a : Act} (hw : Region.wanted o (yielded ops a.tmps) = true) (h1 : (i == si) = false)
    (h : ∃ v, (∀ w, Below g W w → UponC P (fun u w' => u = v ∧ Below w.heap.size w w') ((execOp a.eval o).run P w)) ∧ wpLex P md ops [] (fun d _ w => PutC W g si T Z V d w) Q rest (i + 1) (a.put o.dst v)) :
    wpLex P md ops [] (fun d _ w => PutC W g si T Z V d w) Q (o :: rest) i a := by
  obtain ⟨v, hv, hr⟩ := h
  exact wpLex_want v hw (comes_done fun d w _ hc => (hv w hc.1).mono fun u w' ⟨e1, e2⟩ => ⟨e1, putC_step hc e2 h1⟩) hr

theorem wpLex_putst {Q : Act → Prop} {o : Oper} {rest : List Oper} {i : Nat} {a : Act} (hw : Region.wanted o (yielded ops a.tmps) = true) (hi : i = si) (v : Value)
    (h : ∀ w, Below g W w → w.heap[g]? = some (.cells Z T (0, 0)) → UponC P (fun u w' => u = v ∧ Below g w w' ∧ w'.heap[g]? = some (.cells V T (0, 0))) ((execOp a.eval o).run P w))
    (hr : wpLex P md ops [] (fun d _ w => PutC W g si T Z V d w) Q rest (i + 1) (a.put o.dst v)) :
    wpLex P md ops [] (fun d _ w => PutC W g si T Z V d w) Q (o :: rest) i a := by
  subst hi
  refine wpLex_want v hw (comes_done fun d w hm hc => ?_) hr
  have hz := hc.2
  rw [hm.1] at hz
  refine (h w hc.1 hz).mono fun u w' ⟨e1, e2, e3⟩ => ⟨e1, hc.1.trans e2, ?_⟩
  rw [show done1 d i i = true by simp [done1]]
  exact e3

theorem putC_done {d : Nat → Bool} {w : World} (h : PutC W g si T Z V d w) (hd : d si = true) : Below g W w ∧ w.heap[g]? = some (.cells V T (0, 0)) := by
  have := h.2
  rw [hd] at this
  exact ⟨h.1, this⟩
/-- The class asks what is done, and there is a tail. -/
theorem wp_region_done_tail {id : Nat} {Q : Exit → Act → World → Prop} {a : Act} {w : World} {l : List Oper} (n : Nat) (C : (Nat → Bool) → World → Prop)
    (hm : P.follows .mixedOrders = true) (hB : Region.lexTailB .any l.toArray n = true) (hB2 : Region.lexB .any l.toArray = true) (hC : C (fun _ => false) w.drew)
    (h : wpLex P .any l.toArray [] (fun d _ w => C d w) (fun a' => ∀ w' d, (∀ i, i < n → d i = true) → C d w' → wpList P l.toArray Q (l.drop n) a' w') (l.take n) 0 a) : (Code.region id l.toArray true).wp P Q a w :=
  wp_region_lex_tail n [] (fun d _ w => C d w) (looks_done C) hm hB hB2 (guardsOff_nil _) hC (wpLex_mono (fun _ hq w' b d hd hc ho => by rw [ho.nil]; exact hq w' d hd hc) _ 0 a h)

/-- The world gets a name. -/
theorem name_world {c : Code} {Q : Exit → Act → World → Prop} {a : Act} {w : World} (h : ∀ w', w' = w → c.wp P Q a w') : c.wp P Q a w := h w rfl
end
end Go.Proofs.Ytbaninglcafhhaa
