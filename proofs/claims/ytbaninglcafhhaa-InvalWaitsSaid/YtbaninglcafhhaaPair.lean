/-
  What is promised of a TLB that a call hands back beside an error, in a drawn region that puts it into a variable. Conditions: none.
-/
import Derived.Test.YtbaninglcafhhaaProm
import Derived.Test.YtbaninglcafhhaaTlA
import Derived.Test.YtbaninglcafhhaaApp
namespace Go.Proofs.Ytbaninglcafhhaa
open Go.RowKit

def NoV (_ : Value) : Prop := True
def TupV (er : Int) (v : Value) : Prop := ∃ x, v = .tuple #[x, .int .i64 er]
def TupF (er : Int) (B : Nat) (es : List Ent) (ds : List Inv) (v : Value) (w : World) : Prop := ∃ A c A' c', v = .tuple #[.agg #[.slice A es.length c, .slice A' ds.length c'], .int .i64 er] ∧ Own w B entT 14 Ent.cells es A c ∧ Own w B invT 4 Inv.cells ds A' c'
def ResF (B : Nat) (es : List Ent) (ds : List Inv) (v : Value) (w : World) : Prop := ∃ A c A' c', v = .agg #[.slice A es.length c, .slice A' ds.length c'] ∧ Own w B entT 14 Ent.cells es A c ∧ Own w B invT 4 Inv.cells ds A' c'
def NewF (B0 : Nat) (v : Value) (w : World) : Prop := ∃ g, v = .pointer (some ⟨g, 0, none⟩) ∧ B0 ≤ g ∧ w.heap[g]? = some (.cells #[.slice none 0 0, .slice none 0 0] tlbT (0, 0))
def PutF (B0 B : Nat) (es : List Ent) (ds : List Inv) (v : Value) (w : World) : Prop := ∃ g A c A' c', v = .pointer (some ⟨g, 0, none⟩) ∧ B0 ≤ g ∧ w.heap[g]? = some (.cells #[.slice A es.length c, .slice A' ds.length c'] tlbT (0, 0)) ∧ Own w B entT 14 Ent.cells es A c ∧ Own w B invT 4 Inv.cells ds A' c'
def InvsF (l : List Inv) (v : Value) (w : World) : Prop := ∃ g, v = .slice (some ⟨g, 0, none⟩) l.length l.length ∧ g < w.heap.size ∧ At w (some ⟨g, 0, none⟩) 4 Inv.cells l

def tlPs (B0 B : Nat) (es : List Ent) (ds : List Inv) (er : Int) (ic im i0 ia is : Nat) (tc tm t0 tb : Tmp) (more : List Prom) : List Prom :=
  ⟨ic, some is, tc, TupV er, TupF er B es ds⟩ :: ⟨im, some is, tm, TupV er, TupF er B es ds⟩ :: ⟨i0, some is, t0, NoV, ResF B es ds⟩ :: ⟨ia, some is, tb, NoV, NewF B0⟩ :: ⟨is, none, tb, NoV, PutF B0 B es ds⟩ :: more
def invsP (l : List Inv) (ib is : Nat) (t : Tmp) : Prom := ⟨ib, some is, t, NoV, InvsF l⟩

section
variable {er : Int} {B0 B : Nat} {es : List Ent} {ds : List Inv} {v : Value} {w w' : World}
theorem TupF.keep (h : TupF er B es ds v w) (hb : Below w.heap.size w w') : TupF er B es ds v w' := by
  obtain ⟨A, c, A', c', e, h1, h2⟩ := h
  exact ⟨A, c, A', c', e, h1.below hb (Nat.le_refl _), h2.below hb (Nat.le_refl _)⟩
theorem ResF.keep (h : ResF B es ds v w) (hb : Below w.heap.size w w') : ResF B es ds v w' := by
  obtain ⟨A, c, A', c', e, h1, h2⟩ := h
  exact ⟨A, c, A', c', e, h1.below hb (Nat.le_refl _), h2.below hb (Nat.le_refl _)⟩
theorem NewF.keep (h : NewF B0 v w) (hb : Below w.heap.size w w') : NewF B0 v w' := by
  obtain ⟨g, e, h1, h2⟩ := h
  exact ⟨g, e, h1, (hb.block g (heap_lt h2)).trans h2⟩
theorem PutF.keep (h : PutF B0 B es ds v w) (hb : Below w.heap.size w w') : PutF B0 B es ds v w' := by
  obtain ⟨g, A, c, A', c', e, h0, hg, h1, h2⟩ := h
  exact ⟨g, A, c, A', c', e, h0, (hb.block g (heap_lt hg)).trans hg, h1.below hb (Nat.le_refl _), h2.below hb (Nat.le_refl _)⟩
theorem InvsF.keep {l : List Inv} (h : InvsF l v w) (hb : Below w.heap.size w w') : InvsF l v w' := by
  obtain ⟨g, e, h1, h2⟩ := h
  exact ⟨g, e, Nat.lt_of_lt_of_le h1 hb.size, h2.below hb⟩
end
theorem stays_nil : Stays [] := fun _ h => by cases h
theorem stays_cons {p : Prom} {ps : List Prom} (h : ∀ v w w', p.F v w → Below w.heap.size w w' → p.F v w') (hs : Stays ps) : Stays (p :: ps) := fun q hq => by
  rcases List.mem_cons.1 hq with rfl | hq
  · exact h
  · exact hs q hq
theorem stays_tl {B0 B : Nat} {es : List Ent} {ds : List Inv} {er : Int} {ic im i0 ia is : Nat} {tc tm t0 tb : Tmp} {more : List Prom} (hs : Stays more) : Stays (tlPs B0 B es ds er ic im i0 ia is tc tm t0 tb more) :=
  stays_cons (fun _ _ _ h hb => TupF.keep h hb) (stays_cons (fun _ _ _ h hb => TupF.keep h hb) (stays_cons (fun _ _ _ h hb => ResF.keep h hb) (stays_cons (fun _ _ _ h hb => NewF.keep h hb) (stays_cons (fun _ _ _ h hb => PutF.keep h hb) hs))))
theorem stays_inv (l : List Inv) (ib is : Nat) (t : Tmp) : Stays [invsP l ib is t] := stays_cons (fun _ _ _ h hb => InvsF.keep h hb) stays_nil

theorem put_step {B0 B : Nat} {es : List Ent} {ds : List Inv} {x p : Value} {w0 w : World} (hw : Below B0 w0 w) (h1 : ResF B es ds x w) (h2 : NewF B0 p w) : ∃ g A c A' c', x = .agg #[.slice A es.length c, .slice A' ds.length c'] ∧ p = .pointer (some ⟨g, 0, none⟩) ∧ w.heap[g]? = some (.cells #[.slice none 0 0, .slice none 0 0] tlbT (0, 0)) ∧
    PutF B0 B es ds p ((w.setCell ⟨g, 0, none⟩ (.slice A es.length c)).setCell ⟨g, 1, none⟩ (.slice A' ds.length c')) ∧ Below B0 w0 ((w.setCell ⟨g, 0, none⟩ (.slice A es.length c)).setCell ⟨g, 1, none⟩ (.slice A' ds.length c')) := by
  obtain ⟨A, c, A', c', rfl, o1, o2⟩ := h1
  obtain ⟨g, rfl, hg, hz⟩ := h2
  have n1 := fun q hq => o1.ne_blk hz (by decide) q hq
  have n2 := fun q hq => o2.ne_blk hz (by decide) q hq
  refine ⟨g, A, c, A', c', rfl, rfl, hz, ⟨g, A, c, A', c', rfl, hg, heap_set_same (heap_set_same hz 0 _) 1 _, ?_, ?_⟩, (hw.setCell hg _).setCell hg _⟩
  · exact (o1.set_ne n1 _).set_ne n1 _
  · exact (o2.set_ne n2 _).set_ne n2 _

end Go.Proofs.Ytbaninglcafhhaa
