/-
  What is promised of a memory that a call hands back beside an error, in a drawn region that puts it into a variable. Conditions: none.
-/
import Derived.Test.YtipepkmmjdlpoaaProm
import Derived.Test.YtipepkmmjdlpoaaPut
import Derived.Test.YtipepkmmjdlpoaaMemS0
namespace Go.Proofs.Ytipepkmmjdlpoaa
open Go.RowKit

def NoV (_ : Value) : Prop := True
def TupV (er : Int) (v : Value) : Prop := ∃ x, v = .tuple #[x, .int .i64 er]
def TupF (er : Int) (B : Nat) (ws : List Int) (v : Value) (w : World) : Prop := ∃ A c, v = .tuple #[.agg #[.slice A ws.length c], .int .i64 er] ∧ Own w B wordT 1 wordCells ws A c
def ResF (B : Nat) (ws : List Int) (v : Value) (w : World) : Prop := ∃ A c, v = .agg #[.slice A ws.length c] ∧ Own w B wordT 1 wordCells ws A c
def NewF (B0 : Nat) (v : Value) (w : World) : Prop := ∃ g, v = .pointer (some ⟨g, 0, none⟩) ∧ B0 ≤ g ∧ w.heap[g]? = some (.cells #[.slice none 0 0] memT2 (0, 0))
def PutF (B0 B : Nat) (ws : List Int) (v : Value) (w : World) : Prop := ∃ g A c, v = .pointer (some ⟨g, 0, none⟩) ∧ B0 ≤ g ∧ w.heap[g]? = some (.cells #[.slice A ws.length c] memT2 (0, 0)) ∧ Own w B wordT 1 wordCells ws A c

def mePs (B0 B : Nat) (ws : List Int) (er : Int) (ic im i0 ia is : Nat) (tc tm t0 tb : Tmp) (more : List Prom) : List Prom :=
  ⟨ic, some is, tc, TupV er, TupF er B ws⟩ :: ⟨im, some is, tm, TupV er, TupF er B ws⟩ :: ⟨i0, some is, t0, NoV, ResF B ws⟩ :: ⟨ia, some is, tb, NoV, NewF B0⟩ :: ⟨is, none, tb, NoV, PutF B0 B ws⟩ :: more

section
variable {er : Int} {B0 B : Nat} {ws : List Int} {v : Value} {w w' : World}
theorem TupF.keep (h : TupF er B ws v w) (hb : Below w.heap.size w w') : TupF er B ws v w' := by
  obtain ⟨A, c, e, h1⟩ := h
  exact ⟨A, c, e, h1.below hb (Nat.le_refl _)⟩
theorem ResF.keep (h : ResF B ws v w) (hb : Below w.heap.size w w') : ResF B ws v w' := by
  obtain ⟨A, c, e, h1⟩ := h
  exact ⟨A, c, e, h1.below hb (Nat.le_refl _)⟩
theorem NewF.keep (h : NewF B0 v w) (hb : Below w.heap.size w w') : NewF B0 v w' := by
  obtain ⟨g, e, h1, h2⟩ := h
  exact ⟨g, e, h1, (hb.block g (heap_lt h2)).trans h2⟩
theorem PutF.keep (h : PutF B0 B ws v w) (hb : Below w.heap.size w w') : PutF B0 B ws v w' := by
  obtain ⟨g, A, c, e, h0, hg, h1⟩ := h
  exact ⟨g, A, c, e, h0, (hb.block g (heap_lt hg)).trans hg, h1.below hb (Nat.le_refl _)⟩
end
theorem stays_nil : Stays [] := fun _ h => by cases h
theorem stays_cons {p : Prom} {ps : List Prom} (h : ∀ v w w', p.F v w → Below w.heap.size w w' → p.F v w') (hs : Stays ps) : Stays (p :: ps) := fun q hq => by
  rcases List.mem_cons.1 hq with rfl | hq
  · exact h
  · exact hs q hq
theorem stays_me {B0 B : Nat} {ws : List Int} {er : Int} {ic im i0 ia is : Nat} {tc tm t0 tb : Tmp} {more : List Prom} (hs : Stays more) : Stays (mePs B0 B ws er ic im i0 ia is tc tm t0 tb more) :=
  stays_cons (fun _ _ _ h hb => TupF.keep h hb) (stays_cons (fun _ _ _ h hb => TupF.keep h hb) (stays_cons (fun _ _ _ h hb => ResF.keep h hb) (stays_cons (fun _ _ _ h hb => NewF.keep h hb) (stays_cons (fun _ _ _ h hb => PutF.keep h hb) hs))))

theorem Own.keep2 {α : Type} {w w' : World} {base : Nat} {e : TypeId} {size : Nat} {f : α → List Value} {l : List α} {A : Option Addr} {c : Nat} (h : Own w base e size f l A c) (hk : ∀ p : Addr, A = some p → w'.heap[p.block]? = w.heap[p.block]?) : Own w' base e size f l A c := by
  refine ⟨h.1, ?_⟩
  rcases h.2 with ⟨h1, h2⟩ | ⟨g, cap, cur, h1, h2, h3, h4⟩
  · exact .inl ⟨h1, h2⟩
  · have hA : A = some ⟨g, 0, none⟩ := by injection h1
    exact .inr ⟨g, cap, cur, h1, h2, (hk _ hA).trans h3, h4⟩
theorem Own.ne_blk {α : Type} {w : World} {base : Nat} {e : TypeId} {size : Nat} {f : α → List Value} {l : List α} {A : Option Addr} {c g : Nat} {cs : Array Value} {t : TypeId} (h : Own w base e size f l A c) (hx : w.heap[g]? = some (.cells cs t (0, 0))) (hne : e ≠ t) : ∀ p : Addr, A = some p → p.block ≠ g := by
  intro p hp he
  rcases h.2 with ⟨h1, _⟩ | ⟨g1, cap1, cur1, e3, _, h3, _⟩
  · injection h1 with h1; rw [hp] at h1; cases h1
  injection e3 with e3; rw [hp] at e3; injection e3 with e3; subst e3
  dsimp only at he
  subst he
  rw [h3] at hx
  injection hx with hx
  injection hx with _ hx
  exact hne hx
theorem Own.set_ne {α : Type} {w : World} {base : Nat} {e : TypeId} {size : Nat} {f : α → List Value} {l : List α} {A : Option Addr} {c : Nat} (h : Own w base e size f l A c) {p : Addr} (hp : ∀ q : Addr, A = some q → q.block ≠ p.block) (u : Value) : Own (w.setCell p u) base e size f l A c :=
  h.keep2 fun q hq => heap_set_other (hp q hq) u

theorem put_step {B0 B : Nat} {ws : List Int} {x p : Value} {w0 w : World} (hw : Below B0 w0 w) (h1 : ResF B ws x w) (h2 : NewF B0 p w) : ∃ g A c, x = .agg #[.slice A ws.length c] ∧ p = .pointer (some ⟨g, 0, none⟩) ∧ w.heap[g]? = some (.cells #[.slice none 0 0] memT2 (0, 0)) ∧
    PutF B0 B ws p (w.setCell ⟨g, 0, none⟩ (.slice A ws.length c)) ∧ Below B0 w0 (w.setCell ⟨g, 0, none⟩ (.slice A ws.length c)) := by
  obtain ⟨A, c, rfl, o1⟩ := h1
  obtain ⟨g, rfl, hg, hz⟩ := h2
  have n1 := fun q hq => o1.ne_blk hz (by decide) q hq
  exact ⟨g, A, c, rfl, rfl, hz, ⟨g, A, c, rfl, hg, heap_set_same hz 0 _, o1.set_ne n1 _⟩, hw.setCell hg _⟩

end Go.Proofs.Ytipepkmmjdlpoaa
