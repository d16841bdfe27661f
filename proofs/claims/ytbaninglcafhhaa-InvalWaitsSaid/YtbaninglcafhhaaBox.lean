/-
  A drawn region in which one new block is made and stored into (a variable of a struct's type that a call's result goes to), all else leaves what was there: its walk in the order of the text.
-/
import Derived.Test.YtbaninglcafhhaaBase
import Derived.Test.YtbaninglcafhhaaOrder
namespace Go.Proofs.Ytbaninglcafhhaa
open Go Go.RowKit

/-- The operation reads no slot t, and writes none. -/
def apartOf (ops : Array Oper) (o : Oper) (t : Tmp) : Bool := !(o.looksAt ops).contains t && o.dst != some t

section
variable {P : Program} {ops : Array Oper} {md : Region.Mode} {w0 : World} {t : Tmp} {ia si : Nat} {T : TypeId} {Z V : Array Value}

/-- One new block, its address in slot t: made by operation ia, stored into by operation si; of what was there nothing has turned. -/
def BoxC (w0 : World) (t : Tmp) (ia si : Nat) (T : TypeId) (Z V : Array Value) (d : Nat → Bool) (b : Act) (w : World) : Prop :=
  Below w0.heap.size w0 w ∧ (d ia = true → ∃ g, b.tmps[t]? = some (.pointer (some ⟨g, 0, none⟩)) ∧ w0.heap.size ≤ g ∧ w.heap[g]? = some (.cells (if d si then V else Z) T (0, 0)))

theorem boxC_looks : Looks [t] (BoxC w0 t ia si T Z V) := by
  intro d a w r v hr h
  refine ⟨h.1, fun hd => ?_⟩
  obtain ⟨g, h1, h2, h3⟩ := h.2 hd
  refine ⟨g, ?_, h2, h3⟩
  rw [put_get_ne _ _ _ _ (fun e => by injection e with e; subst e; simp at hr)]
  exact h1

theorem boxC_start (a : Act) : BoxC w0 t ia si T Z V (fun _ => false) a w0.drew := ⟨(Below.refl _ _).drew, fun h => by cases h⟩

theorem eval_off {o : Oper} {a b : Act} (h : Off [t] a b) (hsel : ∀ cs b, o.op ≠ .select cs b) (hx : apartOf ops o t = true) : execOp b.eval o = execOp a.eval o := by
  obtain ⟨u, rfl⟩ := h.one
  refine execOp_put (ops := ops) o hsel a (some t) u (fun d hd => ?_)
  injection hd with hd
  subst hd
  simp only [apartOf, Bool.and_eq_true] at hx
  simpa using hx.1

theorem dst_off {o : Oper} (hx : apartOf ops o t = true) : o.dst ≠ some t := by
  simp only [apartOf, Bool.and_eq_true] at hx
  simpa using hx.2

def notSelect (o : Oper) : Bool := match o.op with | .select .. => false | _ => true
theorem notSelect_spec {o : Oper} (h : notSelect o = true) : ∀ cs b, o.op ≠ .select cs b := by
  intro cs b e
  simp [notSelect, e] at h

theorem boxC_put {d : Nat → Bool} {i : Nat} {b : Act} {w w' : World} {x : Option Tmp} {v : Value} (h : BoxC w0 t ia si T Z V d b w) (hb : Below w.heap.size w w') (h1 : (i == ia) = false) (h2 : (i == si) = false) (hx : x ≠ some t) :
    BoxC w0 t ia si T Z V (done1 d i) (b.put x v) w' := by
  refine ⟨h.1.trans (hb.mono h.1.size), fun hd => ?_⟩
  have hd' : d ia = true := by
    unfold done1 at hd
    rw [show (ia == i) = false by rw [Bool.beq_comm] at h1; simpa using h1] at hd
    simpa using hd
  obtain ⟨g, e1, e2, e3⟩ := h.2 hd'
  refine ⟨g, by rw [put_get_ne _ _ _ _ hx]; exact e1, e2, ?_⟩
  rw [hb.block g (heap_lt e3), e3]
  have hs : done1 d i si = d si := by
    unfold done1
    rw [show (si == i) = false by rw [Bool.beq_comm] at h2; simpa using h2]
    rfl
  rw [hs]

/-- An operation that leaves what is there, and yields v. -/
theorem comes_box {o : Oper} {i : Nat} {a : Act} {v : Value} (hs : notSelect o = true) (hx : apartOf ops o t = true) (h1 : (i == ia) = false) (h2 : (i == si) = false)
    (h : ∀ w, Below w0.heap.size w0 w → UponC P (fun u w' => u = v ∧ Below w.heap.size w w') ((execOp a.eval o).run P w)) :
    ComesTo P md ops [t] (BoxC w0 t ia si T Z V) o i a v := by
  intro d w b hm hc ho
  rw [eval_off (ops := ops) ho (notSelect_spec hs) hx]
  exact (h w hc.1).mono fun u w' ⟨e1, e2⟩ => ⟨.inr e1, boxC_put hc e2 h1 h2 (dst_off hx)⟩

theorem wpLex_box {Q : Act → Prop} {rest : List Oper} {o : Oper} {i : Nat} {a : Act} (hw : Region.wanted o (yielded ops a.tmps) = true) (hs : notSelect o = true) (hx : apartOf ops o t = true) (h1 : (i == ia) = false) (h2 : (i == si) = false)
    (h : ∃ v, (∀ w, Below w0.heap.size w0 w → UponC P (fun u w' => u = v ∧ Below w.heap.size w w') ((execOp a.eval o).run P w)) ∧ wpLex P md ops [t] (BoxC w0 t ia si T Z V) Q rest (i + 1) (a.put o.dst v)) :
    wpLex P md ops [t] (BoxC w0 t ia si T Z V) Q (o :: rest) i a :=
  let ⟨v, hv, hr⟩ := h
  wpLex_want v hw (comes_box hs hx h1 h2 hv) hr
theorem passes_box {o : Oper} {i : Nat} {a : Act} (hx : apartOf ops o t = true) (h1 : (i == ia) = false) (h2 : (i == si) = false) : Passes md ops [t] (BoxC w0 t ia si T Z V) o i a :=
  fun _ _ _ _ hc _ => boxC_put hc (Below.refl _ _) h1 h2 (dst_off hx)

/-- The block is made. -/
theorem comes_alloc {o : Oper} {a : Act} {v : Value} (hop : o.op = .alloc T) (hd : o.dst = some t) (ht : t < a.tmps.size) (hsi : Region.waitsFor md ops si ia = true) (hne : (si == ia) = false)
    (hrun : ∀ w, (execOp a.eval o).run P w = .ok (.value (.pointer (some ⟨w.heap.size, 0, none⟩))) (w.alloc (.cells Z T))) : ComesTo P md ops [t] (BoxC w0 t ia si T Z V) o ia a v := by
  intro d w b hm hc ho
  have he : execOp b.eval o = execOp a.eval o := by simp [execOp, hop]
  rw [he, hrun w]
  refine ⟨.inl ⟨t, hd, by simp⟩, hc.1.alloc hc.1.size _, fun _ => ⟨w.heap.size, ?_, hc.1.size, ?_⟩⟩
  · rw [hd, put_get_same, ho.2.1, if_pos ht]
  · have hns : done1 d ia si = false := by
      unfold done1
      have h0 := hm.not_yet si hsi
      rw [hne, h0]; rfl
    rw [hns]
    exact heap_new _ _

theorem off_ptr {a b : Act} {u : Value} (h : Off [t] a b) (hu : b.tmps[t]? = some u) : b = a.put (some t) u := by
  obtain ⟨v, rfl⟩ := h.one
  rw [put_get_same] at hu
  split at hu
  · injection hu with hu
    rw [hu]
  · cases hu

/-- The block is stored into. -/
theorem comes_store {o : Oper} {a : Act} {v : Value} (hd : o.dst = none) (hw : (o.after.any fun e => Region.binds md e && e.on == ia) = true)
    (h : ∀ g w, w0.heap.size ≤ g → w.heap[g]? = some (.cells Z T (0, 0)) → UponC P (fun u w' => u = v ∧ Below w0.heap.size w w' ∧ w'.heap[g]? = some (.cells V T (0, 0))) ((execOp (a.put (some t) (.pointer (some ⟨g, 0, none⟩))).eval o).run P w)) :
    ComesTo P md ops [t] (BoxC w0 t ia si T Z V) o si a v := by
  intro d w b hm hc ho
  obtain ⟨g, h1, h2, h3⟩ := hc.2 (hm.did ia hw)
  rw [hm.1] at h3
  obtain rfl := off_ptr ho h1
  refine (h g w h2 h3).mono fun u w' ⟨e0, e1, e2⟩ => ⟨.inr e0, hc.1.trans e1, fun _ => ⟨g, ?_, h2, ?_⟩⟩
  · rw [hd]; exact h1
  · rw [show done1 d si si = true by simp [done1]]
    exact e2

theorem boxC_end {d : Nat → Bool} {a b : Act} {w : World} (h : BoxC w0 t ia si T Z V d b w) (h1 : d ia = true) (h2 : d si = true) (ho : Off [t] a b) :
    ∃ g, b = a.put (some t) (.pointer (some ⟨g, 0, none⟩)) ∧ w0.heap.size ≤ g ∧ w.heap[g]? = some (.cells V T (0, 0)) ∧ Below w0.heap.size w0 w := by
  obtain ⟨g, e1, e2, e3⟩ := h.2 h1
  rw [h2] at e3
  exact ⟨g, off_ptr ho e1, e2, e3, h.1⟩
end
end Go.Proofs.Ytbaninglcafhhaa
