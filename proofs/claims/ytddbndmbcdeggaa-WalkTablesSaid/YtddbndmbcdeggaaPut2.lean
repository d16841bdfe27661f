/-
  A drawn region in which two blocks that are there are stored into, each once (what a call hands back); all other blocks that were there stay: its walk in the order of the text.
-/
import Derived.Test.YtddbndmbcdeggaaPut
namespace Go.Proofs.Ytddbndmbcdeggaa
open Go Go.RowKit

section
variable {P : Program} {ops : Array Oper} {md : Region.Mode} {W : World} {g1 s1 g2 s2 : Nat} {T1 T2 : TypeId} {Z1 V1 Z2 V2 : Array Value}

/-- Blocks g1 and g2 are stored into by operations s1 and s2; of all else that was there nothing has turned. -/
def Put2C (W : World) (s1 g1 : Nat) (T1 : TypeId) (Z1 V1 : Array Value) (s2 g2 : Nat) (T2 : TypeId) (Z2 V2 : Array Value) (d : Nat → Bool) (w : World) : Prop :=
  Below g1 W w ∧ (∀ x, x < W.heap.size → x ≠ g1 → x ≠ g2 → w.heap[x]? = W.heap[x]?) ∧ w.heap[g1]? = some (.cells (if d s1 then V1 else Z1) T1 (0, 0)) ∧ w.heap[g2]? = some (.cells (if d s2 then V2 else Z2) T2 (0, 0))

theorem put2_start (h1 : W.heap[g1]? = some (.cells Z1 T1 (0, 0))) (h2 : W.heap[g2]? = some (.cells Z2 T2 (0, 0))) : Put2C W s1 g1 T1 Z1 V1 s2 g2 T2 Z2 V2 (fun _ => false) W.drew := ⟨(Below.refl _ _).drew, fun _ _ _ _ => rfl, h1, h2⟩

theorem done1_ne {d : Nat → Bool} {i s : Nat} (h : (i == s) = false) : done1 d i s = d s := by
  unfold done1
  rw [show (s == i) = false by rw [Bool.beq_comm] at h; simpa using h]
  rfl

theorem put2_step {d : Nat → Bool} {i : Nat} {w w' : World} (h : Put2C W s1 g1 T1 Z1 V1 s2 g2 T2 Z2 V2 d w) (hb : Below w.heap.size w w') (h1 : (i == s1) = false) (h2 : (i == s2) = false) : Put2C W s1 g1 T1 Z1 V1 s2 g2 T2 Z2 V2 (done1 d i) w' := by
  obtain ⟨k1, k2, k3, k4⟩ := h
  have l1 := heap_lt k3
  have l2 := heap_lt k4
  refine ⟨k1.trans (hb.mono (Nat.le_of_lt l1)), fun x hx n1 n2 => (hb.block x (Nat.lt_of_lt_of_le hx k1.size)).trans (k2 x hx n1 n2), ?_, ?_⟩
  · rw [hb.block g1 l1, k3, done1_ne h1]
  · rw [hb.block g2 l2, k4, done1_ne h2]

theorem wpLex_put2 {Q : Act → Prop} {o : Oper} {rest : List Oper} {i : Nat} {a : Act} (hw : Region.wanted o (yielded ops a.tmps) = true) (h1 : (i == s1) = false) (h2 : (i == s2) = false)
    (h : ∃ v, (∀ w, W.heap.size ≤ w.heap.size → (∀ x, x < W.heap.size → x ≠ g1 → x ≠ g2 → w.heap[x]? = W.heap[x]?) → (Z1 = V1 → w.heap[g1]? = some (.cells Z1 T1 (0, 0))) → (Z2 = V2 → w.heap[g2]? = some (.cells Z2 T2 (0, 0))) → UponC P (fun u w' => u = v ∧ Below w.heap.size w w') ((execOp a.eval o).run P w)) ∧ wpLex P md ops [] (fun d _ w => Put2C W s1 g1 T1 Z1 V1 s2 g2 T2 Z2 V2 d w) Q rest (i + 1) (a.put o.dst v)) :
    wpLex P md ops [] (fun d _ w => Put2C W s1 g1 T1 Z1 V1 s2 g2 T2 Z2 V2 d w) Q (o :: rest) i a := by
  obtain ⟨v, hv, hr⟩ := h
  exact wpLex_want v hw (comes_done fun d w _ hc => (hv w hc.1.size hc.2.1 (fun e => by rw [hc.2.2.1]; subst e; simp) (fun e => by rw [hc.2.2.2]; subst e; simp)).mono fun u w' ⟨e1, e2⟩ => ⟨e1, put2_step hc e2 h1 h2⟩) hr

theorem wpLex_put2a {Q : Act → Prop} {o : Oper} {rest : List Oper} {i : Nat} {a : Act} (hw : Region.wanted o (yielded ops a.tmps) = true) (hi : i = s1) (hs : (i == s2) = false) (hne : g1 ≠ g2) (v : Value)
    (h : ∀ w, w.heap[g1]? = some (.cells Z1 T1 (0, 0)) → UponC P (fun u w' => u = v ∧ Below g1 w w' ∧ (∀ x, x ≠ g1 → w'.heap[x]? = w.heap[x]?) ∧ w'.heap[g1]? = some (.cells V1 T1 (0, 0))) ((execOp a.eval o).run P w))
    (hr : wpLex P md ops [] (fun d _ w => Put2C W s1 g1 T1 Z1 V1 s2 g2 T2 Z2 V2 d w) Q rest (i + 1) (a.put o.dst v)) :
    wpLex P md ops [] (fun d _ w => Put2C W s1 g1 T1 Z1 V1 s2 g2 T2 Z2 V2 d w) Q (o :: rest) i a := by
  subst hi
  refine wpLex_want v hw (comes_done fun d w hm hc => ?_) hr
  obtain ⟨k1, k2, k3, k4⟩ := hc
  rw [hm.1] at k3
  refine (h w k3).mono fun u w' ⟨e1, e2, e3, e4⟩ => ⟨e1, k1.trans e2, fun x hx n1 n2 => (e3 x n1).trans (k2 x hx n1 n2), ?_, ?_⟩
  · rw [show done1 d i i = true by simp [done1]]
    exact e4
  · rw [e3 g2 (Ne.symm hne), k4, done1_ne hs]

theorem wpLex_put2b {Q : Act → Prop} {o : Oper} {rest : List Oper} {i : Nat} {a : Act} (hw : Region.wanted o (yielded ops a.tmps) = true) (hi : i = s2) (hs : (i == s1) = false) (hne : g1 < g2) (v : Value)
    (h : ∀ w, w.heap[g2]? = some (.cells Z2 T2 (0, 0)) → UponC P (fun u w' => u = v ∧ Below g2 w w' ∧ (∀ x, x ≠ g2 → w'.heap[x]? = w.heap[x]?) ∧ w'.heap[g2]? = some (.cells V2 T2 (0, 0))) ((execOp a.eval o).run P w))
    (hr : wpLex P md ops [] (fun d _ w => Put2C W s1 g1 T1 Z1 V1 s2 g2 T2 Z2 V2 d w) Q rest (i + 1) (a.put o.dst v)) :
    wpLex P md ops [] (fun d _ w => Put2C W s1 g1 T1 Z1 V1 s2 g2 T2 Z2 V2 d w) Q (o :: rest) i a := by
  subst hi
  refine wpLex_want v hw (comes_done fun d w hm hc => ?_) hr
  obtain ⟨k1, k2, k3, k4⟩ := hc
  rw [hm.1] at k4
  refine (h w k4).mono fun u w' ⟨e1, e2, e3, e4⟩ => ⟨e1, k1.trans (e2.mono (Nat.le_of_lt hne)), fun x hx n1 n2 => (e3 x n2).trans (k2 x hx n1 n2), ?_, ?_⟩
  · rw [e3 g1 (Nat.ne_of_lt hne), k3, done1_ne hs]
  · rw [show done1 d i i = true by simp [done1]]
    exact e4

theorem passes_put2 {o : Oper} {i : Nat} {a : Act} (h1 : (i == s1) = false) (h2 : (i == s2) = false) : Passes md ops [] (fun d _ w => Put2C W s1 g1 T1 Z1 V1 s2 g2 T2 Z2 V2 d w) o i a :=
  passes_done fun _ _ _ hc => put2_step hc (Below.refl _ _) h1 h2

theorem put2_done {d : Nat → Bool} {w : World} (h : Put2C W s1 g1 T1 Z1 V1 s2 g2 T2 Z2 V2 d w) (h1 : d s1 = true) (h2 : d s2 = true) :
    Below g1 W w ∧ (∀ x, x < W.heap.size → x ≠ g1 → x ≠ g2 → w.heap[x]? = W.heap[x]?) ∧ w.heap[g1]? = some (.cells V1 T1 (0, 0)) ∧ w.heap[g2]? = some (.cells V2 T2 (0, 0)) := by
  obtain ⟨k1, k2, k3, k4⟩ := h
  rw [h1] at k3
  rw [h2] at k4
  exact ⟨k1, k2, k3, k4⟩
end
end Go.Proofs.Ytddbndmbcdeggaa
