/-
  What is promised of what a walk hands back (where, which fault, what was read, whether it may be asked) in a drawn region that puts it into variables. Conditions: none.
-/
import Derived.Test.YtddbndmbcdeggaaGen
import Derived.Test.YtddbndmbcdeggaaWkC
import Derived.Test.YtddbndmbcdeggaaWkB
namespace Go.Proofs.Ytddbndmbcdeggaa
open Go Go.RowKit

def NoW (_ : Value) : Prop := True
def QV (hc fc : Array Value) (es : List Value) (v : Value) : Prop := ∃ x, v = .tuple ([Value.agg hc, Value.agg fc, x] ++ es).toArray
def QF (B : Nat) (hc fc : Array Value) (es : List Value) (rd : List Int) (v : Value) (w : World) : Prop := ∃ R c, v = .tuple ([Value.agg hc, Value.agg fc, Value.slice R rd.length c] ++ es).toArray ∧ Own w B intT 1 intCells rd R c
def SlF (B : Nat) (rd : List Int) (v : Value) (w : World) : Prop := ∃ R c, v = .slice R rd.length c ∧ Own w B intT 1 intCells rd R c
def NewG (B0 : Nat) (T : TypeId) (cs : Array Value) (v : Value) (w : World) : Prop := ∃ g, v = .pointer (some ⟨g, 0, none⟩) ∧ B0 ≤ g ∧ w.heap[g]? = some (.cells cs T (0, 0))
/-- A block that is there. -/
def BlkG (g : Nat) (T : TypeId) (cs : Array Value) (_ : Value) (w : World) : Prop := w.heap[g]? = some (.cells cs T (0, 0))

theorem blkG_intro {g : Nat} {T : TypeId} {cs : Array Value} {v : Value} {w : World} (h : w.heap[g]? = some (.cells cs T (0, 0))) : BlkG g T cs v w := h

section
variable {B B0 g : Nat} {hc fc cs : Array Value} {es : List Value} {rd : List Int} {v : Value} {w w' : World} {T T' : TypeId}
theorem QF.keep (h : QF B hc fc es rd v w) (hb : Below w.heap.size w w') : QF B hc fc es rd v w' := by
  obtain ⟨R, c, e, h1⟩ := h
  exact ⟨R, c, e, h1.below hb (Nat.le_refl _)⟩
theorem SlF.keep (h : SlF B rd v w) (hb : Below w.heap.size w w') : SlF B rd v w' := by
  obtain ⟨R, c, e, h1⟩ := h
  exact ⟨R, c, e, h1.below hb (Nat.le_refl _)⟩
theorem NewG.keep (h : NewG B0 T cs v w) (hb : Below w.heap.size w w') : NewG B0 T cs v w' := by
  obtain ⟨g, e, h1, h2⟩ := h
  exact ⟨g, e, h1, (hb.block g (heap_lt h2)).trans h2⟩
theorem BlkG.keep (h : BlkG g T cs v w) (hb : Below w.heap.size w w') : BlkG g T cs v w' := (hb.block g (heap_lt h)).trans h

theorem Own.stab {α : Type} {e : TypeId} {size : Nat} {f : α → List Value} {l : List α} {A : Option Addr} {c : Nat} {x : Nat} {cx : Array Value} (h : Own w B e size f l A c) (hx : w.heap[x]? = some (.cells cx T (0, 0))) (hne : e ≠ T) (hk : ∀ y, y ≠ x → w'.heap[y]? = w.heap[y]?) : Own w' B e size f l A c := by
  refine ⟨h.1, ?_⟩
  rcases h.2 with ⟨h1, h2⟩ | ⟨y, cap, cur, h1, h2, h3, h4⟩
  · exact .inl ⟨h1, h2⟩
  · refine .inr ⟨y, cap, cur, h1, h2, (hk y ?_).trans h3, h4⟩
    intro e1
    subst e1
    rw [h3] at hx
    injection hx with hx
    injection hx with _ h5
    exact hne h5
theorem QF.stab (hne : intT ≠ T) : Stab T (QF B hc fc es rd) := fun v w w' g cs h hg hk _ => by
  obtain ⟨R, c, e, h1⟩ := h
  exact ⟨R, c, e, h1.stab hg hne hk⟩
theorem SlF.stab (hne : intT ≠ T) : Stab T (SlF B rd) := fun v w w' g cs h hg hk _ => by
  obtain ⟨R, c, e, h1⟩ := h
  exact ⟨R, c, e, h1.stab hg hne hk⟩
theorem blk_ne {x y : Nat} {cx cy : Array Value} (hx : w.heap[x]? = some (.cells cx T (0, 0))) (hy : w.heap[y]? = some (.cells cy T' (0, 0))) (hne : T' ≠ T) : y ≠ x := by
  intro e
  subst e
  rw [hy] at hx
  injection hx with hx
  injection hx with _ h5
  exact hne h5
theorem NewG.stab (hne : T' ≠ T) : Stab T (NewG B0 T' cs) := fun v w w' g cx h hg hk _ => by
  obtain ⟨y, e, h1, h2⟩ := h
  exact ⟨y, e, h1, (hk y (blk_ne hg h2 hne)).trans h2⟩
theorem BlkG.stab (hne : T' ≠ T) : Stab T (BlkG g T' cs) := fun _v _w _w' _x _cx h hg hk _ => (hk g (blk_ne hg h hne)).trans h
end

def zHit : Array Value := #[.int .i64 0, .int .i64 0, .bool false, .bool false, .bool false, .bool false, .bool false, .int .i64 0, .int .i64 0]
def zFault : Array Value := #[.int .i64 0, .int .i64 0, .int .i64 0, .bool false, .int .i64 0]

/-- New variables. -/
def quadPs (B0 B : Nat) (hc fc : Array Value) (es : List Value) (rd : List Int) (tc tm ts tb1 tb2 tl : Tmp) (ic im xs a1 a2 s1 s2 il : Nat) : List Gp :=
  [⟨some ic, none, some tc, QV hc fc es, QF B hc fc es rd⟩, ⟨some im, none, some tm, QV hc fc es, QF B hc fc es rd⟩, ⟨some xs, none, some ts, NoW, SlF B rd⟩, ⟨some a1, some s1, some tb1, NoW, NewG B0 hitT zHit⟩, ⟨some a2, some s2, some tb2, NoW, NewG B0 faultT zFault⟩,
    ⟨some s1, none, some tb1, NoW, NewG B0 hitT hc⟩, ⟨some s2, none, some tb2, NoW, NewG B0 faultT fc⟩, ⟨some il, none, some tl, NoW, SlF B rd⟩]
section
variable {B0 B : Nat} {hc fc : Array Value} {es : List Value} {rd : List Int} {tc tm ts tb1 tb2 tl : Tmp} {ic im xs a1 a2 s1 s2 il : Nat}
theorem stays_quad : StaysG (quadPs B0 B hc fc es rd tc tm ts tb1 tb2 tl ic im xs a1 a2 s1 s2 il) :=
  staysG_cons (fun _ _ _ h hb => QF.keep (hc := hc) (fc := fc) (es := es) (rd := rd) (B := B) h hb) (staysG_cons (fun _ _ _ h hb => QF.keep (hc := hc) (fc := fc) (es := es) (rd := rd) (B := B) h hb) (staysG_cons (fun _ _ _ h hb => SlF.keep (rd := rd) (B := B) h hb) (staysG_cons (fun _ _ _ h hb => NewG.keep h hb) (staysG_cons (fun _ _ _ h hb => NewG.keep h hb)
    (staysG_cons (fun _ _ _ h hb => NewG.keep h hb) (staysG_cons (fun _ _ _ h hb => NewG.keep h hb) (staysG_cons (fun _ _ _ h hb => SlF.keep (rd := rd) (B := B) h hb) staysG_nil)))))))
theorem stab_quad1 : StabAll hitT s1 5 (quadPs B0 B hc fc es rd tc tm ts tb1 tb2 tl ic im xs a1 a2 s1 s2 il) :=
  stabAll_of (stabFrom_cons (.inr (.inr (QF.stab (hc := hc) (fc := fc) (es := es) (rd := rd) (B := B) (by decide)))) (stabFrom_cons (.inr (.inr (QF.stab (hc := hc) (fc := fc) (es := es) (rd := rd) (B := B) (by decide)))) (stabFrom_cons (.inr (.inr (SlF.stab (by decide)))) (stabFrom_cons (.inr (.inl rfl)) (stabFrom_cons (.inr (.inr (NewG.stab (by decide))))
    (stabFrom_cons (.inl rfl) (stabFrom_cons (.inr (.inr (NewG.stab (by decide)))) (stabFrom_cons (.inr (.inr (SlF.stab (by decide)))) stabFrom_nil))))))))
theorem stab_quad2 : StabAll faultT s2 6 (quadPs B0 B hc fc es rd tc tm ts tb1 tb2 tl ic im xs a1 a2 s1 s2 il) :=
  stabAll_of (stabFrom_cons (.inr (.inr (QF.stab (hc := hc) (fc := fc) (es := es) (rd := rd) (B := B) (by decide)))) (stabFrom_cons (.inr (.inr (QF.stab (hc := hc) (fc := fc) (es := es) (rd := rd) (B := B) (by decide)))) (stabFrom_cons (.inr (.inr (SlF.stab (by decide)))) (stabFrom_cons (.inr (.inr (NewG.stab (by decide)))) (stabFrom_cons (.inr (.inl rfl))
    (stabFrom_cons (.inr (.inr (NewG.stab (by decide)))) (stabFrom_cons (.inl rfl) (stabFrom_cons (.inr (.inr (SlF.stab (by decide)))) stabFrom_nil))))))))
end

/-- Variables that are there: blocks g1 and g2. -/
def oldPs (B : Nat) (g1 g2 : Nat) (z1 z2 hc fc : Array Value) (es : List Value) (rd : List Int) (tc tm ts tl : Tmp) (ic im xs s1 s2 il : Nat) : List Gp :=
  [⟨some ic, none, some tc, QV hc fc es, QF B hc fc es rd⟩, ⟨some im, none, some tm, QV hc fc es, QF B hc fc es rd⟩, ⟨some xs, none, some ts, NoW, SlF B rd⟩, ⟨none, some s1, none, NoW, BlkG g1 hitT z1⟩, ⟨none, some s2, none, NoW, BlkG g2 faultT z2⟩,
    ⟨some s1, none, none, NoW, BlkG g1 hitT hc⟩, ⟨some s2, none, none, NoW, BlkG g2 faultT fc⟩, ⟨some il, none, some tl, NoW, SlF B rd⟩]
section
variable {B g1 g2 : Nat} {z1 z2 hc fc : Array Value} {es : List Value} {rd : List Int} {tc tm ts tl : Tmp} {ic im xs s1 s2 il : Nat}
theorem stays_old : StaysG (oldPs B g1 g2 z1 z2 hc fc es rd tc tm ts tl ic im xs s1 s2 il) :=
  staysG_cons (fun _ _ _ h hb => QF.keep (hc := hc) (fc := fc) (es := es) (rd := rd) (B := B) h hb) (staysG_cons (fun _ _ _ h hb => QF.keep (hc := hc) (fc := fc) (es := es) (rd := rd) (B := B) h hb) (staysG_cons (fun _ _ _ h hb => SlF.keep (rd := rd) (B := B) h hb) (staysG_cons (fun _ _ _ h hb => BlkG.keep (v := undef) h hb) (staysG_cons (fun _ _ _ h hb => BlkG.keep (v := undef) h hb)
    (staysG_cons (fun _ _ _ h hb => BlkG.keep (v := undef) h hb) (staysG_cons (fun _ _ _ h hb => BlkG.keep (v := undef) h hb) (staysG_cons (fun _ _ _ h hb => SlF.keep (rd := rd) (B := B) h hb) staysG_nil)))))))
theorem stab_old1 : StabAll hitT s1 5 (oldPs B g1 g2 z1 z2 hc fc es rd tc tm ts tl ic im xs s1 s2 il) :=
  stabAll_of (stabFrom_cons (.inr (.inr (QF.stab (hc := hc) (fc := fc) (es := es) (rd := rd) (B := B) (by decide)))) (stabFrom_cons (.inr (.inr (QF.stab (hc := hc) (fc := fc) (es := es) (rd := rd) (B := B) (by decide)))) (stabFrom_cons (.inr (.inr (SlF.stab (by decide)))) (stabFrom_cons (.inr (.inl rfl)) (stabFrom_cons (.inr (.inr (BlkG.stab (by decide))))
    (stabFrom_cons (.inl rfl) (stabFrom_cons (.inr (.inr (BlkG.stab (by decide)))) (stabFrom_cons (.inr (.inr (SlF.stab (by decide)))) stabFrom_nil))))))))
theorem stab_old2 : StabAll faultT s2 6 (oldPs B g1 g2 z1 z2 hc fc es rd tc tm ts tl ic im xs s1 s2 il) :=
  stabAll_of (stabFrom_cons (.inr (.inr (QF.stab (hc := hc) (fc := fc) (es := es) (rd := rd) (B := B) (by decide)))) (stabFrom_cons (.inr (.inr (QF.stab (hc := hc) (fc := fc) (es := es) (rd := rd) (B := B) (by decide)))) (stabFrom_cons (.inr (.inr (SlF.stab (by decide)))) (stabFrom_cons (.inr (.inr (BlkG.stab (by decide)))) (stabFrom_cons (.inr (.inl rfl))
    (stabFrom_cons (.inr (.inr (BlkG.stab (by decide)))) (stabFrom_cons (.inl rfl) (stabFrom_cons (.inr (.inr (SlF.stab (by decide)))) stabFrom_nil))))))))
theorem start_old {W : World} (h1 : W.heap[g1]? = some (.cells z1 hitT (0, 0))) (h2 : W.heap[g2]? = some (.cells z2 faultT (0, 0))) : ∀ p ∈ oldPs B g1 g2 z1 z2 hc fc es rd tc tm ts tl ic im xs s1 s2 il, p.on = none → p.slot = none ∧ p.V undef ∧ p.F undef W.drew := by
  intro p hp hn
  simp only [oldPs, List.mem_cons, List.not_mem_nil, or_false] at hp
  rcases hp with rfl | rfl | rfl | rfl | rfl | rfl | rfl | rfl
  all_goals first | exact ⟨rfl, trivial, h1⟩ | exact ⟨rfl, trivial, h2⟩ | (cases hn; done)
end
theorem start_quad {B0 B : Nat} {hc fc : Array Value} {es : List Value} {rd : List Int} {tc tm ts tb1 tb2 tl : Tmp} {ic im xs a1 a2 s1 s2 il : Nat} {W : World} : ∀ p ∈ quadPs B0 B hc fc es rd tc tm ts tb1 tb2 tl ic im xs a1 a2 s1 s2 il, p.on = none → p.slot = none ∧ p.V undef ∧ p.F undef W.drew := by
  intro p hp hn
  simp only [quadPs, List.mem_cons, List.not_mem_nil, or_false] at hp
  rcases hp with rfl | rfl | rfl | rfl | rfl | rfl | rfl | rfl
  all_goals cases hn

/-- What a walk's call hands back. -/
def WPost (w : World) (hc fc : Array Value) (es : List Value) (rd : List Int) (e : Ending) (w' : World) : Prop := ∃ R c, e = .returned (.tuple ([Value.agg hc, Value.agg fc, Value.slice R rd.length c] ++ es).toArray) ∧ Own w' w.heap.size intT 1 intCells rd R c ∧ Below w.heap.size w w'
end Go.Proofs.Ytddbndmbcdeggaa
