/-
  A drawn region in which one new block is made whole (a slice of what is at hand) and read by a call: its walk in the order of the text.
-/
import Derived.Test.YtbaninglcafhhaaBox
namespace Go.Proofs.Ytbaninglcafhhaa
open Go Go.RowKit

section
variable {P : Program} {ops : Array Oper} {md : Region.Mode} {w0 : World} {t : Tmp} {ia : Nat} {F : Nat → Value} {T : TypeId} {Z : Array Value}

/-- One new block, told by slot t (as F says): made by operation ia; of what was there nothing has turned. -/
def NewC (w0 : World) (t : Tmp) (ia : Nat) (F : Nat → Value) (T : TypeId) (Z : Array Value) (d : Nat → Bool) (b : Act) (w : World) : Prop :=
  Below w0.heap.size w0 w ∧ (d ia = true → ∃ g, b.tmps[t]? = some (F g) ∧ w0.heap.size ≤ g ∧ w.heap[g]? = some (.cells Z T (0, 0)))

theorem newC_looks : Looks [t] (NewC w0 t ia F T Z) := by
  intro d a w r v hr h
  refine ⟨h.1, fun hd => ?_⟩
  obtain ⟨g, h1, h2, h3⟩ := h.2 hd
  refine ⟨g, ?_, h2, h3⟩
  rw [put_get_ne _ _ _ _ (fun e => by injection e with e; subst e; simp at hr)]
  exact h1

theorem newC_start (a : Act) : NewC w0 t ia F T Z (fun _ => false) a w0.drew := ⟨(Below.refl _ _).drew, fun h => by cases h⟩

theorem newC_put {d : Nat → Bool} {i : Nat} {b : Act} {w w' : World} {x : Option Tmp} {v : Value} (h : NewC w0 t ia F T Z d b w) (hb : Below w.heap.size w w') (h1 : (i == ia) = false) (hx : x ≠ some t) :
    NewC w0 t ia F T Z (done1 d i) (b.put x v) w' := by
  refine ⟨h.1.trans (hb.mono h.1.size), fun hd => ?_⟩
  have hd' : d ia = true := by
    unfold done1 at hd
    rw [show (ia == i) = false by rw [Bool.beq_comm] at h1; simpa using h1] at hd
    simpa using hd
  obtain ⟨g, e1, e2, e3⟩ := h.2 hd'
  exact ⟨g, by rw [put_get_ne _ _ _ _ hx]; exact e1, e2, (hb.block g (heap_lt e3)).trans e3⟩

theorem wpLex_new {Q : Act → Prop} {rest : List Oper} {o : Oper} {i : Nat} {a : Act} (hw : Region.wanted o (yielded ops a.tmps) = true) (hs : notSelect o = true) (hx : apartOf ops o t = true) (h1 : (i == ia) = false)
    (h : ∃ v, (∀ w, Below w0.heap.size w0 w → UponC P (fun u w' => u = v ∧ Below w.heap.size w w') ((execOp a.eval o).run P w)) ∧ wpLex P md ops [t] (NewC w0 t ia F T Z) Q rest (i + 1) (a.put o.dst v)) :
    wpLex P md ops [t] (NewC w0 t ia F T Z) Q (o :: rest) i a := by
  obtain ⟨v, hv, hr⟩ := h
  refine wpLex_want v hw (fun d w b hm hc ho => ?_) hr
  rw [eval_off (ops := ops) ho (notSelect_spec hs) hx]
  exact (hv w hc.1).mono fun u w' ⟨e1, e2⟩ => ⟨.inr e1, newC_put hc e2 h1 (dst_off hx)⟩

theorem passes_new {o : Oper} {i : Nat} {a : Act} (hx : apartOf ops o t = true) (h1 : (i == ia) = false) : Passes md ops [t] (NewC w0 t ia F T Z) o i a :=
  fun _ _ _ _ hc _ => newC_put hc (Below.refl _ _) h1 (dst_off hx)

/-- The block is made. -/
theorem comes_new {o : Oper} {a : Act} {v : Value} (hd : o.dst = some t) (ht : t < a.tmps.size) (hs : notSelect o = true) (hx : (o.looksAt ops).contains t = false)
    (hrun : ∀ w, Below w0.heap.size w0 w → (execOp a.eval o).run P w = .ok (.value (F w.heap.size)) (w.alloc (.cells Z T))) : ComesTo P md ops [t] (NewC w0 t ia F T Z) o ia a v := by
  intro d w b hm hc ho
  have he : execOp b.eval o = execOp a.eval o := by
    obtain ⟨u, rfl⟩ := ho.one
    refine execOp_put (ops := ops) o (notSelect_spec hs) a (some t) u (fun d hd => ?_)
    injection hd with hd
    subst hd
    simpa using hx
  rw [he, hrun w hc.1]
  refine ⟨.inl ⟨t, hd, by simp⟩, hc.1.alloc hc.1.size _, fun _ => ⟨w.heap.size, ?_, hc.1.size, heap_new _ _⟩⟩
  rw [hd, put_get_same, ho.2.1, if_pos ht]

/-- An operation that reads slot t. -/
theorem wpLex_newUse {Q : Act → Prop} {rest : List Oper} {o : Oper} {i : Nat} {a : Act} (hw : Region.wanted o (yielded ops a.tmps) = true) (hdst : (o.dst != some t) = true) (h1 : (i == ia) = false) (hwt : (o.after.any fun e => Region.binds md e && e.on == ia) = true)
    (h : ∃ v, (∀ g w, Below w0.heap.size w0 w → w0.heap.size ≤ g → w.heap[g]? = some (.cells Z T (0, 0)) → UponC P (fun u w' => u = v ∧ Below w.heap.size w w') ((execOp (a.put (some t) (F g)).eval o).run P w)) ∧ wpLex P md ops [t] (NewC w0 t ia F T Z) Q rest (i + 1) (a.put o.dst v)) :
    wpLex P md ops [t] (NewC w0 t ia F T Z) Q (o :: rest) i a := by
  obtain ⟨v, hv, hr⟩ := h
  refine wpLex_want v hw (fun d w b hm hc ho => ?_) hr
  obtain ⟨g, e1, e2, e3⟩ := hc.2 (hm.did ia hwt)
  obtain rfl := off_ptr ho e1
  exact (hv g w hc.1 e2 e3).mono fun u w' ⟨k1, k2⟩ => ⟨.inr k1, newC_put hc k2 h1 (by simpa using hdst)⟩
end
end Go.Proofs.Ytbaninglcafhhaa
